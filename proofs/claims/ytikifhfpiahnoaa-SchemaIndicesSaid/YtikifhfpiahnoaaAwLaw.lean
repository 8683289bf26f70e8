/-
  The frame of a row 'for every input the law returns true', out of a contract on the abstract machine.
  No condition: plain laws over any program.
-/
import Derived.Test.YtikifhfpiahnoaaAwTop
import Derived.ProofKit
import Derived.WideShapes
import Derived.OpenShut
import Derived.ChangeOld
import Derived.Handed
namespace Go.AW
open Go.RowKit Go.ChangeShapes

/-- The shape of a parameter: a struct (true), or one cell. -/
def paramSh (P : Program) (n : Nat) (t : TypeId) : Option (Bool × List Sh) :=
  match P.underlying t with
  | some (.struct _) => (shapeOf P n t).map fun l => (true, l)
  | some (.array _ _) => none
  | _ => match shapeOf P n t with
    | some [s] => some (false, [s])
    | _ => none

def ArgOk : Bool × List Sh → AVal → Prop
  | (true, l), a => ∃ as, a = .agg as ∧ as.length = l.length ∧ ∀ (i : Nat) (s : Sh) (c : AVal), l[i]? = some s → as[i]? = some c → ShOk s c
  | (false, l), a => ∃ s, l = [s] ∧ ShOk s a

def ArgsOk : List (Bool × List Sh) → List AVal → Prop
  | [], [] => True
  | p :: ps, a :: as => ArgOk p a ∧ ArgsOk ps as
  | _, _ => False

def paramShs (P : Program) (n : Nat) : List TypeId → Option (List (Bool × List Sh))
  | [] => some []
  | t :: ts => match paramSh P n t, paramShs P n ts with
    | some p, some ps => some (p :: ps)
    | _, _ => none

section
variable {H : Type} {enc : TypeId × Value → H} {P : Program} {w : World} {τ : Nat → Option Loc}

theorem open_arg {n : Nat} {t : TypeId} {v : Value} {d : DataW H} {ps : List MemPlace} {p : Bool × List Sh} {base : Nat} (hp : paramSh P n t = some p) (hv : Value.okWide P w .any base t v)
    (h : DataW.Trod enc P w 0 (fun _ => true) true t v d ps) : ∃ a, ArgOk p a ∧ Rel (allC w) w τ [] a v := by
  obtain ⟨fuel, hf⟩ := h
  unfold paramSh at hp
  split at hp
  · rename_i fs hu
    simp only [Option.map_eq_some_iff] at hp
    obtain ⟨l, hl, rfl⟩ := hp
    obtain ⟨as, h1, h2, h3, h4⟩ := open_shape n fuel t _ _ l hl hf
    unfold Value.okWide at hv
    rw [hu] at hv
    obtain ⟨cs, rfl, _⟩ := hv
    simp only [Value.cells] at h1 h2 h4
    exact ⟨.agg as, ⟨as, rfl, by omega, h3⟩, .agg as cs (by simpa using h1) fun i c v hc hv => .rd (h4 i c v hc (by simpa using hv))⟩
  · cases hp
  · rename_i hns hna
    split at hp
    case h_2 => cases hp
    rename_i s hl
    cases hp
    obtain ⟨as, h1, h2, h3, h4⟩ := open_shape n fuel t _ _ _ hl hf
    have hvc : v.cells.toList = [v] := by
      have : ∀ cs, v ≠ .agg cs := by
        rintro cs rfl
        unfold Value.okWide at hv
        split at hv
        · rename_i fs hu; exact hns fs hu
        · rename_i k e hu; exact hna k e hu
        · unfold Cell.okWide at hv
          split at hv <;> simp_all [Cell.ok]
      cases v <;> first | rfl | exact absurd rfl (this _)
    rw [hvc] at h1 h2 h4
    obtain ⟨a, rfl⟩ := List.length_eq_one_iff.1 h1
    exact ⟨a, ⟨s, rfl, h3 0 s a rfl rfl⟩, .rd (h4 0 a v rfl rfl)⟩

theorem open_args {n : Nat} {base : Nat} : ∀ (ts : List TypeId) (vs : List Value) (ds : List (DataW H)) (ps : List MemPlace) (shs : List (Bool × List Sh)), paramShs P n ts = some shs →
    (∀ (j : Nat) (t : TypeId) (v : Value), ts[j]? = some t → vs[j]? = some v → Value.okWide P w .any base t v) →
    DataW.TrodAll enc P w 0 (fun _ => true) true ts vs ds ps → ∃ as, ArgsOk shs as ∧ as.length = vs.length ∧ ∀ (i : Nat) (a : AVal) (v : Value), as[i]? = some a → vs[i]? = some v → Rel (allC w) w τ [] a v
  | [], vs, ds, ps, shs, hs, hv, h => by
    obtain ⟨rfl, rfl, rfl⟩ := trodAll_nil h
    simp only [paramShs, Option.some.injEq] at hs; subst hs
    exact ⟨[], trivial, rfl, fun i a v h => by simp at h⟩
  | t :: ts, vs, ds, ps, shs, hs, hv, h => by
    obtain ⟨v, vs', d, ds', p, q, rfl, rfl, rfl, h1, h2⟩ := trodAll_cons h
    simp only [paramShs] at hs
    split at hs
    case h_2 => cases hs
    rename_i sh shs' e1 e2
    cases hs
    obtain ⟨a, ha, hr⟩ := open_arg (τ := τ) e1 (hv 0 t v rfl rfl) h1
    obtain ⟨as, has, hl, hrs⟩ := open_args ts vs' ds' q shs' e2 (fun j t' v' ht hv' => hv (j + 1) t' v' (by simpa using ht) (by simpa using hv')) h2
    refine ⟨a :: as, ⟨ha, has⟩, by simp [hl], fun i a' v' h1 h2 => ?_⟩
    cases i with
    | zero => simp at h1 h2; subst h1 h2; exact hr
    | succ i => exact hrs i a' v' (by simpa using h1) (by simpa using h2)

theorem trodAll_below (hl : laidOutB P = true) {W W' : World} (hb : Below W.heap.size W W') : ∀ (ts : List TypeId) (vs : List Value) (ds : List (DataW H)) (ps : List MemPlace),
    (∀ t ∈ ts, P.readableRec t = true ∧ t < P.types.size) → DataW.TrodAll enc P W 0 (fun _ => true) true ts vs ds ps →
    DataW.TrodAll enc P W' 0 (fun b => decide (b < W.heap.size)) true ts vs ds ps
  | [], vs, ds, ps, _, h => by obtain ⟨rfl, rfl, rfl⟩ := trodAll_nil h; exact trodAll_mk0
  | t :: ts, vs, ds, ps, hr, h => by
    obtain ⟨v, vs', d, ds', p, q, rfl, rfl, rfl, h1, h2⟩ := trodAll_cons h
    have hlt : ∀ x ∈ p, x.block < W.heap.size := by obtain ⟨m, hm⟩ := h1; exact DataW.trod_lt m _ _ _ hm
    exact trodAll_cons_mk (Below.trod hl (hr t (by simp)).1 (hr t (by simp)).2 h1 hb hlt) (trodAll_below hl hb ts vs' ds' q (fun t' ht => hr t' (by simp [ht])) h2)

/-- **The call, out of the contract.** -/
theorem calls_of_law {f : FuncId} {fn : Func} {c : Code} {args : Array Value} {as : List AVal} (hfn : P.funcs[f]? = some fn) (hname : (fn.name == "runtime.NumGoroutine") = false) (hbody : fn.body = some c)
    (hlen : as.length = args.size) (hrel : ∀ (i : Nat) (a : AVal) (v : Value), as[i]? = some a → args[i]? = some v → Rel (allC w) w (fun _ => none) [] a v)
    (hlaw : ACalls P f as [] (fun r _ => r = .bool true)) :
    Calls P f args w fun e w' => e = .returned (.bool true) ∧ Below w.heap.size w w' := by
  have hwf : WF (allC w) (fun _ => none) [] w := by
    refine ⟨fun id o h => by simp at h, fun id o h => by simp at h, fun id o l h => by simp at h, fun id l h => by simp at h, fun i j li lj h => by simp at h, fun b hb => ?_⟩
    unfold allC at hb
    split at hb
    · rename_i h
      exact lt_of_heap h
    · omega
  have h := hlaw (allC w) (fun _ => none) w args hwf hlen hrel
  have hcall : (callFunc f args).run P w = .ok (.enter f args) w := by
    simp only [callFunc, Sem.run_bind, run_program, Result.andThen_ok, hfn, hname, Bool.false_eq_true, if_false, hbody, Option.isNone_some, Sem.run_pure]
  unfold CallsX at h
  rw [hcall] at h
  refine Calls.mono h fun e w' => ?_
  rintro ⟨v, r, C', τ', H', rfl, rfl, hr, hst, hstep⟩
  refine ⟨?_, hst.fr.os, hst.fr.tape, hst.fr.output, hst.fr.size, fun k hk => hst.fr.prot k ⟨hk, ?_⟩⟩
  · cases hr with
    | rd hr => cases hr; rfl
  · rintro ⟨id, l, h1, _⟩
    exact absurd h1 (Nat.not_lt_zero _)

set_option maxRecDepth 100000 in
/-- **A law's row, out of the contract.** -/
theorem lifted_of_law {C : Checked} {os : Os} {f : FuncId} {fn : Func} {s : ChangeSpec} {ob : List Nat} {af : AFunc} {n tb : Nat} {shs : List (Bool × List Sh)}
    (own : ownKnob C.prog.godebug = none) (started : os.Started) (noInit : C.prog.inits.idxOf? f = none) (hfn : C.prog.funcs[f]? = some fn)
    (witness : ∃ (w : World) (tape : Tape) (i : Input), w.os = os ∧ (w.forCall tape i).Shaped C.prog ∧ i.vars = [] ∧ Input.okWide C.prog (w.forCall tape i) .any w.heap.size f i ∧
      s.pre6 enc C.prog fn [] false (w.forCall tape i).memory i.args ∧ ({} : Assume).holds C.prog (lone (Frame.enter C.prog f i.args .normal) [] (w.forCall tape i)))
    (laid : laidOutB C.prog = true) (hread : (fn.params.toList.all fun t => C.prog.readableRec t && decide (t < C.prog.types.size)) = true)
    (hs : ∀ (ds : List (DataW H)), ds.length = fn.params.size → s.fn H ds = { results := [.lit (.bool true)], args := ds }) (hvars : s.vars = [])
    (hres : fn.resultTypes = #[tb]) (htb : C.prog.underlying tb = some .bool) (hsh : paramShs C.prog n fn.params.toList = some shs) (hhas : Has C.prog f ob af)
    (hlaw : ∀ as, ArgsOk shs as → ACalls C.prog f as [] (fun r _ => r = .bool true)) :
    ReturnsInHanded {} C os f .any (s.pre6 enc C.prog fn [] false) (s.post enc C.prog fn false true false false) := by
  refine returnsInHanded_of_change (C := C) own started noInit hfn witness ?_
  intro W base args ds gs before hval hW _ _
  have hW' := hW
  obtain ⟨p, q, hA, hV, rfl, _, _⟩ := hW
  rw [hvars] at hV
  obtain ⟨rfl, rfl⟩ := trodVars_none hV
  obtain ⟨as, has, hlen, hrel⟩ := open_args (τ := fun _ => none) (n := n) fn.params.toList args.toList ds p shs hsh (fun j t v h1 h2 => hval j t v (by simpa using h1) (by simpa using h2)) hA
  obtain ⟨fn', c, hfn', hname, hbody, _⟩ := hhas
  have e : fn' = fn := Option.some.inj (hfn'.symm.trans hfn)
  subst e
  have hlds : ds.length = fn'.params.size := by
    have : ∀ (ts : List TypeId) (vs : List Value) (ds : List (DataW H)) (ps : List MemPlace), DataW.TrodAll enc C.prog W 0 (fun _ => true) true ts vs ds ps → ds.length = ts.length := by
      intro ts
      induction ts with
      | nil => intro vs ds ps h; obtain ⟨_, rfl, _⟩ := trodAll_nil h; rfl
      | cons t ts ih =>
        intro vs ds ps h
        obtain ⟨_, _, _, _, _, _, _, rfl, _, _, h2⟩ := trodAll_cons h
        simp [ih _ _ _ h2]
    simpa using this _ _ _ _ hA
  refine (calls_of_law hfn hname hbody (by simpa using hlen) (fun i a v h1 h2 => hrel i a v h1 (by simpa using h2)) (hlaw as has)).mono fun e W' ⟨he, bel⟩ => ?_
  subst he
  refine ⟨_, rfl, ds, [], _, [], p, [], hW', ?_, ?_, ?_, bel.frame _, fun h => by cases h⟩
  · rw [List.append_nil, hs ds hlds, hres]
    exact trodAll_mk1 (shut_bool htb _)
  · rw [List.append_nil, hs ds hlds]
    refine trodAll_below laid bel _ _ _ _ (fun t ht => ?_) hA
    have := List.all_eq_true.1 hread t ht
    simpa using this
  · rw [List.append_nil, hs ds hlds, hvars]
    rfl
end

/-! ### Reading arguments of the shapes that occur -/

theorem argsOk_cons {p : Bool × List Sh} {ps : List (Bool × List Sh)} {as : List AVal} (h : ArgsOk (p :: ps) as) : ∃ a as', as = a :: as' ∧ ArgOk p a ∧ ArgsOk ps as' := by
  cases as with
  | nil => exact h.elim
  | cons a as => exact ⟨a, as, rfl, h.1, h.2⟩
theorem argsOk_nil {as : List AVal} (h : ArgsOk [] as) : as = [] := by
  cases as with
  | nil => rfl
  | cons a as => exact h.elim

theorem argOk_int {k : IntKind} {a : AVal} (h : ArgOk (false, [.int k]) a) : ∃ n, a = .int k n ∧ (Lit.int k n).wf = true := by
  obtain ⟨s, h1, h2⟩ := h
  cases h1
  cases h2 with
  | int _ n h => exact ⟨n, rfl, h⟩
theorem argOk_bool {a : AVal} (h : ArgOk (false, [.bool]) a) : ∃ b, a = .bool b := by
  obtain ⟨s, h1, h2⟩ := h
  cases h1
  cases h2 with
  | bool b => exact ⟨b, rfl⟩
theorem argOk_str {a : AVal} (h : ArgOk (false, [.str]) a) : ∃ s, a = .str s ∧ s.size ≤ maxLen := by
  obtain ⟨s, h1, h2⟩ := h
  cases h1
  cases h2 with
  | str b h => exact ⟨b, rfl, h⟩

/-- A row of cells of given shapes, one by one. -/
def CellsOk : List Sh → List AVal → Prop
  | [], [] => True
  | s :: ss, a :: as => ShOk s a ∧ CellsOk ss as
  | _, _ => False

theorem cellsOk_of : ∀ (l : List Sh) (as : List AVal), as.length = l.length → (∀ (i : Nat) (s : Sh) (c : AVal), l[i]? = some s → as[i]? = some c → ShOk s c) → CellsOk l as
  | [], [], _, _ => trivial
  | s :: l, a :: as, hl, h => ⟨h 0 s a rfl rfl, cellsOk_of l as (by simpa using hl) fun i s c h1 h2 => h (i + 1) s c (by simpa using h1) (by simpa using h2)⟩
  | [], _ :: _, hl, _ => by simp at hl
  | _ :: _, [], hl, _ => by simp at hl

theorem argOk_agg {l : List Sh} {a : AVal} (h : ArgOk (true, l) a) : ∃ as, a = .agg as ∧ CellsOk l as := by
  obtain ⟨as, rfl, h1, h2⟩ := h
  exact ⟨as, rfl, cellsOk_of _ _ h1 h2⟩

theorem shOk_slice {fs : List Sh} {a : AVal} (h : ShOk (.slice fs) a) : ∃ es, a = .list false fs.length es ∧ es.length ≤ maxLen ∧ ∀ e ∈ es, CellsOk fs e := by
  cases h with
  | list _ es hb hl h => exact ⟨es, rfl, hb, fun e he => cellsOk_of _ _ (hl e he) fun i s c h1 h2 => h e i s c he h1 h2⟩
theorem argOk_slice {fs : List Sh} {a : AVal} (h : ArgOk (false, [.slice fs]) a) : ∃ es, a = .list false fs.length es ∧ es.length ≤ maxLen ∧ ∀ e ∈ es, CellsOk fs e := by
  obtain ⟨s, h1, h2⟩ := h
  cases h1
  exact shOk_slice h2

/-- A list all of whose members are images is the image of a list. -/
theorem list_image {α β : Type} {g : α → β} {W : α → Prop} : ∀ (l : List β), (∀ x ∈ l, ∃ a, x = g a ∧ W a) → ∃ m : List α, l = m.map g ∧ ∀ a ∈ m, W a
  | [], _ => ⟨[], rfl, by simp⟩
  | x :: l, h => by
    obtain ⟨a, rfl, ha⟩ := h x (by simp)
    obtain ⟨m, rfl, hm⟩ := list_image l fun y hy => h y (by simp [hy])
    exact ⟨a :: m, rfl, fun b hb => by rcases List.mem_cons.1 hb with rfl | hb; exact ha; exact hm b hb⟩

theorem cellsOk_int {k : IntKind} {e : List AVal} (h : CellsOk [.int k] e) : ∃ n, e = [.int k n] ∧ (Lit.int k n).wf = true := by
  match e, h with
  | [a], h =>
    obtain ⟨h1, _⟩ := h
    cases h1
    rename_i n hn
    exact ⟨n, rfl, hn⟩
theorem cellsOk_str {e : List AVal} (h : CellsOk [.str] e) : ∃ s, e = [.str s] ∧ s.size ≤ maxLen := by
  match e, h with
  | [a], h =>
    obtain ⟨h1, _⟩ := h
    cases h1
    rename_i s hs
    exact ⟨s, rfl, hs⟩

/-- Numbers that came in. -/
theorem argOk_ints {k : IntKind} {a : AVal} (h : ArgOk (false, [.slice [.int k]]) a) : ∃ l : List Int, a = .list false 1 (l.map fun n => [.int k n]) ∧ l.length ≤ maxLen ∧ ∀ n ∈ l, (Lit.int k n).wf = true := by
  obtain ⟨es, rfl, hl, h⟩ := argOk_slice h
  obtain ⟨m, rfl, hm⟩ := list_image (g := fun n => [AVal.int k n]) (W := fun n => (Lit.int k n).wf = true) es fun e he => cellsOk_int (h e he)
  exact ⟨m, rfl, by simpa using hl, hm⟩
end Go.AW
