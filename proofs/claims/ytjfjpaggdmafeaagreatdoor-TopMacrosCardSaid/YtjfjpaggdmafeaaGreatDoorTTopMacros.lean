/-
  The law TopMacros holds for every input: the card's statement.
  No condition.
-/
import Derived.Test.YtjfjpaggdmafeaaGreatDoorCards
import Derived.Test.YtjfjpaggdmafeaaGreatDoorTie
import Derived.Test.YtjfjpaggdmafeaaGreatDoorF1
import Derived.Test.YtjfjpaggdmafeaaGreatDoorZ7




















import Derived.KernelRfl
import Derived.ProofKit
import Derived.WalkKit
import Derived.LaidLaws
namespace Go.Proofs.YtjfjpaggdmafeaaGreatDoor.topMacros
open Go.AW Go.ChangeShapes Go.WideShapes Go.ChangeAt Go.RowKit
set_option linter.unusedVariables false
set_option maxRecDepth 100000

def glT : Nat → Option (List AVal)
  | 0 => some [.list false 1 (sC mbW)]
  | 1 => some [.list false 1 (sC resW)]
  | 2 => some [.list false 1 (sC symW)]
  | 4 => some (usedW.flatten.map AVal.bool)
  | _ => none
instance theDraws : Draws := ⟨False, glT⟩
instance theGls : Gls := ⟨rfl, rfl, rfl, rfl⟩
theorem gM : Tryz.prog.globalNamed "warehouse/macro.builtin" = some 0 := by kernel_rfl
theorem gW : Tryz.prog.globalNamed "warehouse/token.words" = some 1 := by kernel_rfl
theorem gS : Tryz.prog.globalNamed "warehouse/token.symbols" = some 2 := by kernel_rfl
theorem gU : Tryz.prog.globalNamed "warehouse/query.used" = some 4 := by kernel_rfl
theorem tM : (Tryz.prog.globals[0]?).map (·.type) = some 35 := by kernel_rfl
theorem tW : (Tryz.prog.globals[1]?).map (·.type) = some 35 := by kernel_rfl
theorem tS : (Tryz.prog.globals[2]?).map (·.type) = some 35 := by kernel_rfl
theorem tU : (Tryz.prog.globals[4]?).map (·.type) = some 254 := by kernel_rfl

/-- What the row's list gives. -/
theorem glR (W : World) (hL : laidMetH Tryz.prog Rows.topMacrosRow.laid W) (g : Nat) (cs : List AVal) (h : Draws.gl g = some cs) : Rd (allC W) W (.cptr cs 0) (.pointer (some ⟨g, 0, none⟩)) := by
  have key : glT g = some cs := h
  have hwd : Lib.VarReads Tryz.prog W "warehouse/token.words" (.slice (ChangeShapes.strs resW) []) := Lib.laidMet.reads hL (.tail _ (.head _))
  have hsy : Lib.VarReads Tryz.prog W "warehouse/token.symbols" (.slice (ChangeShapes.strs symW) []) := Lib.laidMet.reads hL (.tail _ (.tail _ (.head _)))
  have hmb : Lib.VarReads Tryz.prog W "warehouse/macro.builtin" (.slice (ChangeShapes.strs mbW) []) := Lib.laidMet.reads hL (.tail _ (.tail _ (.tail _ (.head _))))
  have hus : Lib.VarReads Tryz.prog W "warehouse/query.used" (.agg (usedW.map fun l => .agg (l.map fun b => .lit (.bool b)))) := Lib.laidMet.reads hL (.tail _ (.tail _ (.tail _ (.tail _ (.head _)))))
  match g, key with
  | 0, key => cases key; exact gl_strs gM tM Tryz.underlying35 Tryz.underlying9 (by kernel_rfl) hmb (by decide)
  | 1, key => cases key; exact gl_strs gW tW Tryz.underlying35 Tryz.underlying9 (by kernel_rfl) hwd (by decide)
  | 2, key => cases key; exact gl_strs gS tS Tryz.underlying35 Tryz.underlying9 (by kernel_rfl) hsy (by decide)
  | 4, key => cases key; exact gl_bools gU tU Tryz.underlying254 Tryz.underlying253 (m := 5) (b := 4) (by decide) (by intro j f hf; match j, hf with | 0, hf => cases hf; exact ⟨rfl, rfl⟩ | 1, hf => cases hf; exact ⟨rfl, rfl⟩ | 2, hf => cases hf; exact ⟨rfl, rfl⟩ | 3, hf => cases hf; exact ⟨rfl, rfl⟩ | 4, hf => cases hf; exact ⟨rfl, rfl⟩) Tryz.underlying4 (by kernel_rfl) (by kernel_rfl) (by kernel_rfl) hus

/-- A world for the witness: the settled one with the two lists' texts behind it. -/
noncomputable def laidWorld (os : Os) : World :=
  let N := (World.settled Tryz.prog os).heap.size
  let w0 := World.holding Tryz.prog os ⟨#[.cells (resW.map Value.string).toArray 9, .cells (symW.map Value.string).toArray 9, .cells (mbW.map Value.string).toArray 9], #[], []⟩
  let put (h : Array Obj) (g : Nat) (cs : Array Value) : Array Obj := h.modify g fun
    | .cells _ t frozen => .cells cs t frozen
    | o => o
  let h0 := put w0.heap 0 #[.slice (some ⟨N + 2, 0, none⟩) mbW.length mbW.length]
  let h1 := put h0 2 #[.slice (some ⟨N + 1, 0, none⟩) symW.length symW.length]
  let h2 := put h1 4 (usedW.flatten.map Value.bool).toArray
  let h3 := put h2 5 (([31, 28, 31, 30, 31, 30, 31, 31, 30, 31, 30, 31] : List Int).map (Value.int .i64)).toArray
  let h4 := put h3 1 #[.slice (some ⟨N, 0, none⟩) resW.length resW.length]
  { w0 with heap := h4 }
def wArgs : Array Value := #[.slice none 0 0, .slice none 0 0, .int .i64 0]
theorem laid_met (os : Os) : laidMet Tryz.prog Rows.topMacrosRow.laid ((laidWorld os).forCall (fun _ _ => 0) ⟨#[], wArgs, []⟩).memory :=
  laidMet_of_run' 8 (by kernel_rfl) (by kernel_rfl)
theorem witness_row (os : Os) {H : Type} (enc : TypeId × Value → H) :
    (OpenSpec.ofChange Rows.topMacrosSpec).preRow enc Tryz.prog Tryz.f3 Rows.topMacrosRow.domain false Rows.topMacrosRow.laid ((laidWorld os).forCall (fun _ _ => 0) ⟨#[], wArgs, []⟩).memory wArgs := by
  have hw : (DataW.whole enc Tryz.prog ((laidWorld os).forCall (fun _ _ => 0) ⟨#[], wArgs, []⟩).memory Tryz.f3.params.toList Rows.topMacrosSpec.vars false wArgs.toList 8).map (fun x => (x.1, x.2.1)) =
      some ([.nil, .nil, .lit (.int .i64 0)], []) := by kernel_rfl
  obtain ⟨⟨x1, x2, x3⟩, hx, hx1⟩ := Option.map_eq_some_iff.1 hw
  simp only [Prod.mk.injEq] at hx1
  obtain ⟨rfl, rfl⟩ := hx1
  exact OpenSpec.preRow_of_cond 8 hx (by kernel_rfl) (fun k hk => by cases hk) (by kernel_rfl) (laid_met os)

theorem toP {f : FuncId} {vs : List AVal} {H : List AObj} {Q : AVal → List AObj → Prop} (h : ACalls pr f vs H Q) : ACalls Tryz.prog f vs H Q := by rw [prE0] at h; exact h
theorem hsP {i : FuncId} {ob : List Nat} {c : AFunc} (h : Has pr i ob c) : Has Tryz.prog i ob c := by rw [prE0] at h; exact h
theorem params : Tryz.f3.params.toList = [22, 22, 3] := by kernel_rfl
theorem shapes : paramShs Tryz.prog 7 Tryz.f3.params.toList = some [(false, [.slice [.int .i64]]), (false, [.slice [.int .i64]]), (false, [.int .i64])] := by kernel_rfl
theorem fits (os : Os) {H : Type} (enc : TypeId × Value → H) : ∃ (w : World) (tape : Tape) (i : Input), w.os = os ∧ (w.forCall tape i).Shaped Tryz.prog ∧ i.vars = [] ∧ Input.okWide Tryz.prog (w.forCall tape i) .any w.heap.size 3 i ∧
      (OpenSpec.ofChange Rows.topMacrosSpec).preRow enc Tryz.prog Tryz.f3 [] false Rows.topMacrosRow.laid (w.forCall tape i).memory i.args ∧ ({} : Assume).holds Tryz.prog (lone (Frame.enter Tryz.prog 3 i.args .normal) [] (w.forCall tape i)) :=
  witness_row_atRef (enc := enc) (C := Tryz.checked) false (laidWorld os) wArgs rfl (by kernel_rfl) (by kernel_rfl) (by kernel_rfl) (witness_row os enc)
theorem lifted (os : Os) (started : os.Started) (H : Type) (enc : TypeId × Value → H) (F : Stop.Interp) :
    ReturnsInHanded {} Tryz.checked os 3 .any ((OpenSpec.ofChange Rows.topMacrosSpec).preRow enc Tryz.prog Tryz.f3 Rows.topMacrosRow.domain false Rows.topMacrosRow.laid) (((OpenSpec.ofChange Rows.topMacrosSpec).at F).post enc Tryz.prog Tryz.f3 false true false false) := by
  refine lifted_of_laid (C := Tryz.checked) (n := 7) (tb := 4) own started (by kernel_rfl) Tryz.func3 (fits os enc)
    laidOut (by kernel_rfl) (fun ds hd => ?_) rfl (by kernel_rfl) Tryz.underlying4 shapes (hsP kLaw.has) ?_ glR
  · have hd : ds.length = 3 := hd.trans (by kernel_rfl)
    obtain ⟨d0, d1, d2, rfl⟩ : ∃ d0 d1 d2, ds = [d0, d1, d2] := by
      match ds, hd with
      | [d0, d1, d2], _ => exact ⟨d0, d1, d2, rfl⟩
    rfl
  · intro xs h
    obtain ⟨y0, xs, rfl, p0, h⟩ := argsOk_cons h
    obtain ⟨y1, xs, rfl, p1, h⟩ := argsOk_cons h
    obtain ⟨y2, xs, rfl, p2, h⟩ := argsOk_cons h
    cases argsOk_nil h
    obtain ⟨x0, rfl, h0a, h0b⟩ := argOk_ints p0
    obtain ⟨x1, rfl, h1a, h1b⟩ := argOk_ints p1
    obtain ⟨x2, rfl, h2a⟩ := argOk_int p2
    exact toP (lawTM _ _ _ _ _)

theorem said : Rows.TopMacrosSaid :=
  OpenClaim.holds_of_cond 3 Tryz.f3 rfl rfl rfl rfl rfl rfl rfl ⟨rfl, rfl, rfl, rfl, rfl⟩ rfl rfl rfl rfl rfl (by kernel_rfl) Tryz.func3 closedP
    (of_decide_eq_true (by kernel_rfl)) (by unfold Func.isWrapper; first | (rw [if_pos (by decide +kernel)]; kernel_rfl) | (rw [if_neg (by decide +kernel)]; exact ⟨rfl, rfl⟩))
    (fun os started H enc _ F => by rw [OpenClaim.pre_eq_preRow]; exact lifted os started H enc F)

theorem plain (f : FuncId) (fn : Func) (hf : Tryz.pinned.checked.prog.funcNamed "warehouse/warehousetop.TopMacros" = some f) (hfn : Tryz.pinned.checked.prog.funcs[f]? = some fn) :
    false = Tryz.pinned.checked.prog.looks [] ∧ ∀ (j : Nat) t, fn.params[j]? = some t → Tryz.pinned.checked.prog.wantsStandIn t = false := by
  obtain rfl : f = 3 := Option.some.inj ((show Tryz.prog.funcNamed "warehouse/warehousetop.TopMacros" = some 3 by kernel_rfl).symm.trans hf) |>.symm
  obtain rfl : fn = Tryz.f3 := (Option.some.inj (Tryz.func3.symm.trans hfn)).symm
  refine ⟨by kernel_rfl, fun j t ht => ?_⟩
  rw [Tryz.params3] at ht
  have h22 : Tryz.prog.wantsStandIn 22 = false := by kernel_rfl
  have h3 : Tryz.prog.wantsStandIn 3 = false := by kernel_rfl
  match j, ht with
  | 0, ht => cases ht; exact h22
  | 1, ht => cases ht; exact h22
  | 2, ht => cases ht; exact h3

theorem proved : Rows.TopMacrosCardSaid :=
  Claim7.holds_tied_plain_at .later [] _ _ _ _ said (fun _ h => by cases h) (by kernel_rfl) (fun _ h => by cases h) topMacros_row_tie rfl ⟨rfl, rfl⟩ (by kernel_rfl) rfl plain (by kernel_rfl)
#print axioms proved
end Go.Proofs.YtjfjpaggdmafeaaGreatDoor.topMacros
