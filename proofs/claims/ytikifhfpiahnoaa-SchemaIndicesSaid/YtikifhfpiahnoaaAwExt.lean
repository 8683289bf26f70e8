/-
  Library functions without a body.
  No condition: plain laws over any program.
-/
import Derived.Test.YtikifhfpiahnoaaAwBor
import Derived.Lib.Bytealg
namespace Go.AW

/-- **Function f of the program is this entry of the library.** -/
def HasX (P : Program) (f : FuncId) (e : Array Value → Sem Value) : Prop :=
  ∃ fn, P.funcs[f]? = some fn ∧ (fn.name == "runtime.NumGoroutine") = false ∧ fn.body = none ∧ Extern.findNext fn = none ∧ Extern.find fn = some e

theorem acalls_ext {P : Program} {f : FuncId} {e : Array Value → Sem Value} {args : List AVal} {H : List AObj} {R : AVal} (hf : HasX P f e)
    (h : ∀ (C : Nat → Nat) (τ : Nat → Option Loc) (w : World) (vs : Array Value), args.length = vs.size → (∀ (i : Nat) (a : AVal) (v : Value), args[i]? = some a → vs[i]? = some v → Rel C w τ H a v) →
      ∃ v, (e vs).run P w = .ok v w ∧ Rel C w τ H R v) : ACalls P f args H (fun r H' => r = R ∧ H' = H) := by
  obtain ⟨fn, hfn, hname, hbody, hnext, hfind⟩ := hf
  intro C τ w vs hw hl hr
  obtain ⟨v, hrun, hrel⟩ := h C τ w vs hl hr
  have hcall : (callFunc f vs).run P w = .ok (.value v) w := by
    simp only [callFunc, Sem.run_bind, run_program, Result.andThen_ok, hfn, hname, Bool.false_eq_true, if_false, hbody, Option.isNone_none, if_true, run_mark, hnext, hfind, hrun, Sem.run_pure]
  unfold CallsX
  rw [hcall]
  exact ⟨v, R, C, τ, H, rfl, ⟨rfl, rfl⟩, hrel, St.start hw, Step.refl⟩

theorem rel_str {C : Nat → Nat} {w : World} {τ : Nat → Option Loc} {H : List AObj} {s : ByteArray} {v : Value} (h : Rel C w τ H (.str s) v) : v = .string s := by
  cases h with
  | rd h => cases h; rfl
theorem rel_int {C : Nat → Nat} {w : World} {τ : Nat → Option Loc} {H : List AObj} {k : IntKind} {n : Int} {v : Value} (h : Rel C w τ H (.int k n) v) : v = .int k n := by
  cases h with
  | rd h => cases h; rfl

/-- internal/bytealg.IndexByteString. -/
theorem indexByteString_spec {P : Program} {f : FuncId} (hf : HasX P f Extern.BytealgIndexByte.indexByte) (s : ByteArray) (c : Int) (H : List AObj) :
    ACalls P f [.str s, .int .u8 c] H (fun r H' => r = .int .i64 (Lib.indexByte s.data.toList c.toNat.toUInt8) ∧ H' = H) := by
  refine acalls_ext hf fun C τ w vs hl hr => ?_
  obtain ⟨l⟩ := vs
  match l, hl with
  | [a, b], _ =>
    cases rel_str (hr 0 _ a rfl rfl)
    cases rel_int (hr 1 _ b rfl rfl)
    exact ⟨_, Lib.run_indexByteString s c w, .rd (.int _ _)⟩
end Go.AW
