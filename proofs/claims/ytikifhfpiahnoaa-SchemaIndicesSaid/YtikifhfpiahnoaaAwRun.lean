/-
  The abstract machine's code is sound. Second part: regions, structured code, a function's body.
  No condition: plain laws over any program.
-/
import Derived.Test.YtikifhfpiahnoaaAwCode
import Derived.Test.YtikifhfpiahnoaaAwGp
namespace Go.AW

section
variable {E : Env} {P : Program} {C : Nat → Nat} {τ : Nat → Option Loc} {ρ : List AVal} {H : List AObj} {a : Act} {w : World} {K : AVal → List AObj → Prop}

theorem upon_of_opRes {o : Oper} {r : Result Next} {S : Value → World → Prop} {next : Act → World → Prop} {Q : Exit → Act → World → Prop} (h : OpRes P r S) (hn : ∀ u w', S u w' → next (a.put o.dst u) w') : o.upon P a next Q r := by
  unfold OpRes at h
  split at h
  · exact hn _ _ h
  · exact hn _ _ h
  · refine Calls.mono h fun e w'' ⟨v, he, hs⟩ => ?_
    subst he; exact hn _ _ hs
  · exact h.elim

theorem SA.putO (h : SA E C τ ρ H a w) {v : AVal} {u : Value} (hr : Rel C w τ H v u) (d : Option Nat) {k : List AVal → Prop} (hk : putK ρ d v k) : ∃ ρ', k ρ' ∧ SA E C τ ρ' H (a.put d u) w := by
  cases d with
  | none => exact ⟨ρ, hk, h⟩
  | some d =>
    simp only [putK, setK_eq] at hk
    exact ⟨_, hk, h.put hr d⟩

theorem rel_skip : Rel C w τ H (.tuple []) undef := .tuple _ _ rfl fun i c v h => by simp at h

theorem tmp_of_getT {d : Nat} {u : Value} (h : a.tmps.getD d undef = u) (hu : u ≠ undef) : a.tmps[d]? = some u := by
  simp only [Array.getD_eq_getD_getElem?] at h
  cases hd : a.tmps[d]? with
  | none => rw [hd] at h; exact absurd h.symm hu
  | some v => rw [hd] at h; simp at h; rw [h]

/-- A guard decides whether an operation is wanted. -/
theorem guard_sound {ops : Array Oper} {o : Oper} {k : List AVal → Bool → Prop} (hs : SA E C τ ρ H a w)
    (h : guardK ρ (o.guard.map fun (j, want) => ((ops[j]?).bind (·.dst), want)) k) :
    ∃ ρ', k ρ' (Region.wanted o (yielded ops a.tmps)) ∧ SA E C τ ρ' H a w := by
  unfold Region.wanted
  cases hg : o.guard with
  | none => rw [hg] at h; exact ⟨ρ, h, hs⟩
  | some g =>
    obtain ⟨j, want⟩ := g
    rw [hg] at h
    simp only [Option.map_some] at h
    cases hd : (ops[j]?).bind (·.dst) with
    | none => rw [hd] at h; exact h.elim
    | some d =>
      rw [hd] at h
      simp only [guardK, getK_eq] at h
      have hr := hs.tmps d
      split at h
      · rename_i b hv
        rw [hv] at hr
        rw [condA_eq, setK_eq] at h
        have ht := tmp_of_getT hr.bool_inv (by intro e; cases e)
        refine ⟨setT ρ d (.bool b), ?_, ?_⟩
        · have : yielded ops a.tmps j = some b := by simp only [yielded, hd, Option.bind_some, ht]
          simp only [this]
          exact h
        · have := hs.put (u := .bool b) (.rd (.bool b)) d
          have e : a.put (some d) (.bool b) = a := by
            simp only [Act.put]
            congr 1
            apply Array.ext_getElem?
            intro i
            rw [Array.getElem?_setIfInBounds]
            split
            · rename_i e; subst e
              split
              · rw [ht]
              · rename_i hlt; rw [Array.getElem?_eq_none (by omega)]
            · rfl
          rw [e] at this
          exact this
      · rename_i hv
        rw [hv] at hr
        refine ⟨ρ, ?_, hs⟩
        obtain ⟨vs, e, hl, _⟩ := hr.tuple_inv
        have hvs : vs = #[] := Array.eq_empty_of_size_eq_zero (by simpa using hl.symm)
        subst hvs
        have : yielded ops a.tmps j = none := by
          simp only [yielded, hd, Option.bind_some]
          simp only [Array.getD_eq_getD_getElem?] at e
          cases ht : a.tmps[d]? with
          | none => rfl
          | some v =>
            rw [ht] at e
            simp at e
            subst e; rfl
        simp only [this]
        exact h
      · exact h.elim

theorem compIns_parts {ob : List Nat} {ops : Array Oper} {o : Oper} {i : AIns} (h : compIns P ob ops o = some i) : ∃ ao, compOp P (inSlots ob o.dst) o.op = some ao ∧ i = { dst := o.dst, op := ao, guard := o.guard.map fun (j, want) => ((ops[j]?).bind (·.dst), want) } := by
  simp only [compIns, Option.bind_eq_bind, Option.bind_eq_some_iff, Option.pure_def, Option.some.injEq] at h
  obtain ⟨ao, h1, h2⟩ := h
  exact ⟨ao, h1, h2.symm⟩

theorem compList_cons {ob : List Nat} {ops : Array Oper} {o : Oper} {l : List Oper} {is : List AIns} (h : compList P ob ops (o :: l) = some is) : ∃ i r, compIns P ob ops o = some i ∧ compList P ob ops l = some r ∧ is = i :: r := by
  simp only [compList, Option.bind_eq_bind, Option.bind_eq_some_iff, Option.pure_def, Option.some.injEq] at h
  obtain ⟨i, h1, r, h2, h3⟩ := h
  exact ⟨i, r, h1, h2, h3.symm⟩

theorem region_sound {ob : List Nat} {ops : Array Oper} {Q : Exit → Act → World → Prop} {Kr : List AVal → List AObj → Prop}
    (hQ : ∀ (ρ : List AVal) (H : List AObj) (a : Act) (w : World) (C : Nat → Nat) (τ : Nat → Option Loc), Kr ρ H → SA E C τ ρ H a w → Q .normal a w) :
    ∀ (l : List Oper) (k : Nat) (is : List AIns) (C : Nat → Nat) (τ : Nat → Option Loc) (ρ : List AVal) (H : List AObj) (a : Act) (w : World), (∀ j, l[j]? = ops[k + j]?) → compList P ob ops l = some is → runA P is ρ H Kr → SA E C τ ρ H a w →
      wpOps P ops Q (List.range' k l.length) a w
  | [], k, is, C, τ, ρ, H, a, w, _, hc, h, hs => by
    simp only [compList, Option.some.injEq] at hc; subst hc
    exact hQ ρ H a w C τ h hs
  | o :: l, k, is, C, τ, ρ, H, a, w, hl, hc, h, hs => by
    obtain ⟨i, r, hi, hr, rfl⟩ := compList_cons hc
    obtain ⟨ao, hao, rfl⟩ := compIns_parts hi
    have ho : ops[k]? = some o := by have := hl 0; simpa using this.symm
    have hl' : ∀ j, l[j]? = ops[k + 1 + j]? := fun j => by have := hl (j + 1); simpa [Nat.add_assoc, Nat.add_comm 1 j] using this
    rw [List.length_cons, List.range'_succ]
    rw [runA_cons] at h
    obtain ⟨ρ', h, hs'⟩ := guard_sound hs h
    simp only [wpOps, ho]
    cases hw : Region.wanted o (yielded ops a.tmps) with
    | true =>
      rw [hw] at h
      simp only [if_true]
      refine .inl ?_
      unfold Oper.wp
      refine upon_of_opRes (op_sound hao hs' h) fun u w' hout => ?_
      obtain ⟨v, C', τ', H', hk, hrel, hsa⟩ := hout
      obtain ⟨ρ2, hk2, hsa2⟩ := hsa.putO hrel o.dst hk
      exact region_sound hQ l (k + 1) r C' τ' ρ2 H' _ w' hl' hr hk2 hsa2
    | false =>
      rw [hw] at h
      simp only [Bool.false_eq_true, if_false]
      obtain ⟨ρ2, hk2, hsa2⟩ := hs'.putO rel_skip o.dst h
      exact region_sound hQ l (k + 1) r C τ ρ2 H _ w hl' hr hk2 hsa2

/-- What the abstract machine says of a piece of code's end. -/
def QR (E : Env) (Q : AExit → List AVal → List AObj → Prop) : Exit → Act → World → Prop
  | .normal, a, w => ∃ ρ H C τ, Q .normal ρ H ∧ SA E C τ ρ H a w
  | .exit id, a, w => ∃ ρ H C τ, Q (.exit id) ρ H ∧ SA E C τ ρ H a w
  | .ret, a, w => ∃ ρ H C τ, Q .ret ρ H ∧ SA E C τ ρ H a w
  | _, _, _ => False

theorem code_sound {ob : List Nat} (hdraw : ∀ (id : Nat) (ops : Array Oper) (is : List AIns) (Q : AExit → List AVal → List AObj → Prop) (C : Nat → Nat) (τ : Nat → Option Loc) (ρ : List AVal) (H : List AObj) (a : Act) (w : World), compList P ob ops ops.toList = some is → drawB P ops is = true → awp P E.H0.length (.draw (drawL ops is)) Q ρ H → SA E C τ ρ H a w →
    (Code.region id ops true).wp P (QR E Q) a w) : ∀ (c : Code) (ac : ACode) (Q : AExit → List AVal → List AObj → Prop) (C : Nat → Nat) (τ : Nat → Option Loc) (ρ : List AVal) (H : List AObj) (a : Act) (w : World),
    comp P ob c = some ac → awp P E.H0.length ac Q ρ H → SA E C τ ρ H a w → c.wp P (QR E Q) a w := by
  intro c
  induction c with
  | skip =>
    intro ac Q C τ ρ H a w hc h hs
    simp only [comp, Option.some.injEq] at hc; subst hc
    exact wp_skip ⟨ρ, H, C, τ, h, hs⟩
  | region id ops draw =>
    intro ac Q C τ ρ H a w hc h hs
    simp only [comp] at hc
    unfold regionS at hc
    split at hc
    case h_2 => simp only [Option.some.injEq] at hc; subst hc; exact h.elim
    rename_i is hi
    split at hc
    case h_2 => simp only [Option.some.injEq] at hc; subst hc; exact h.elim
    rename_i c0 hc0
    simp only [Option.some.injEq] at hc; subst hc
    have hc := hc0
    unfold regionA at hc
    split at hc
    case h_2 => cases hc
    rename_i c hc1
    unfold region0 at hc1
    have main : ∀ (Q : AExit → List AVal → List AObj → Prop), awp P E.H0.length c Q ρ H → (Code.region id ops draw).wp P (QR E Q) a w := by
      intro Q h
      cases draw with
      | true =>
        simp only [if_true] at hc1
        split at hc1
        · rename_i hb
          simp only [Option.some.injEq] at hc1; subst hc1
          exact hdraw id ops is Q C τ ρ H a w hi hb h hs
        · cases hc1
      | false =>
        simp only [Bool.false_eq_true, if_false, Option.some.injEq] at hc1; subst hc1
        refine wp_region ?_
        have := region_sound (E := E) (Q := QR E Q) (Kr := Q .normal) (fun ρ H a w C τ hk hs => ⟨ρ, H, C, τ, hk, hs⟩) ops.toList 0 is C τ ρ H a w (fun j => by simp) hi h hs
        rw [List.range_eq_range']
        simpa using this
    split at hc
    · simp only [Option.some.injEq] at hc; subst hc
      rw [awp_seq] at h
      refine wp_mono (main _ h) fun e a' w' hq => ?_
      cases e with
      | normal =>
        obtain ⟨ρ', H', C', τ', hk, hs'⟩ := hq
        obtain ⟨ρ1, H1, C1, τ1, hI, hs1⟩ := hs'.regroup (show Ghost E.H0.length ρ' H' (fun ρ1 H1 => forceK ρ1 fun ρ1 => Q .normal ρ1 H1) from hk).1
        rw [forceK_eq] at hI
        exact ⟨ρ1, H1, C1, τ1, hI, hs1⟩
      | exit id => exact hq
      | ret => exact hq
      | _ => exact hq.elim
    · simp only [Option.some.injEq] at hc; subst hc
      exact main Q h
  | seq x y ihx ihy =>
    intro ac Q C τ ρ H a w hc h hs
    simp only [comp, Option.bind_eq_bind, Option.bind_eq_some_iff, Option.pure_def, Option.some.injEq] at hc
    obtain ⟨ax, hx, ay, hy, rfl⟩ := hc
    refine wp_seq (wp_mono (ihx ax _ C τ ρ H a w hx h hs) fun e a' w' hq => ?_)
    cases e with
    | normal => obtain ⟨ρ', H', C', τ', hk, hs'⟩ := hq; exact ihy ay Q C' τ' ρ' H' a' w' hy hk hs'
    | exit id => exact hq
    | ret => exact hq
    | _ => exact hq.elim
  | cond c x y ihx ihy =>
    intro ac Q C τ ρ H a w hc h hs
    simp only [comp, Option.bind_eq_bind, Option.bind_eq_some_iff, Option.pure_def, Option.some.injEq] at hc
    obtain ⟨oc, hoc, ax, hx, ay, hy, rfl⟩ := hc
    simp only [awp_cond, evK_eq] at h
    have hr := hs.ev hoc
    split at h
    case h_2 => exact h.elim
    rename_i t hv
    rw [hv] at hr
    rw [condA_eq] at h
    refine wp_cond hr.bool_inv ?_
    cases t with
    | true => exact ihx ax Q C τ ρ H a w hx h hs
    | false => exact ihy ay Q C τ ρ H a w hy h hs
  | block id x ih =>
    intro ac Q C τ ρ H a w hc h hs
    simp only [comp, Option.bind_eq_bind, Option.bind_eq_some_iff, Option.pure_def, Option.some.injEq] at hc
    obtain ⟨ax, hx, rfl⟩ := hc
    refine wp_block (wp_mono (ih ax _ C τ ρ H a w hx h hs) fun e a' w' hq => ?_)
    cases e with
    | normal => exact hq
    | exit id' =>
      obtain ⟨ρ', H', C', τ', hk, hs'⟩ := hq
      simp only [Exit.inBlock]
      by_cases hid : id' = id
      · simp only [hid, if_true] at hk ⊢; exact ⟨ρ', H', C', τ', hk, hs'⟩
      · simp only [hid, if_false] at hk ⊢; exact ⟨ρ', H', C', τ', hk, hs'⟩
    | ret => exact hq
    | _ => exact hq.elim
  | loop x ih =>
    intro ac Q C τ ρ H a w hc h hs
    simp only [comp, Option.bind_eq_bind, Option.bind_eq_some_iff, Option.pure_def, Option.some.injEq] at hc
    obtain ⟨ax, hx, rfl⟩ := hc
    obtain ⟨I, n0, vs, h0, hround⟩ := h
    have key : ∀ (n : Nat) (C : Nat → Nat) (τ : Nat → Option Loc) (ρ : List AVal) (H : List AObj) (a : Act) (w : World), I n ρ H → SA E C τ ρ H a w →
        ∀ (b : Frame) (k : List Item) (cs : List Frame), ∃ e a' w', QR E Q e a' w' ∧ Arrives P (lone (b.at a (.code x :: .inLoop x :: k)) cs w) b k cs e a' w' := by
      intro n
      induction n using Nat.strongRecOn with
      | _ n ihn =>
        intro C τ ρ H a w hI hs b k cs
        obtain ⟨e, a1, w1, hq, harr⟩ := ih ax _ C τ ρ H a w hx (by have h := hround n ρ H hI; rw [forceK_eq] at h; exact h) hs b (.inLoop x :: k) cs
        cases e with
        | normal =>
          obtain ⟨ρ0, H0, C0, τ0, ⟨m, hlt, hg⟩, hs0⟩ := hq
          obtain ⟨ρ', H', C', τ', hI', hs'⟩ := hs0.regroup hg
          obtain ⟨e2, a2, w2, hq2, harr2⟩ := ihn m hlt C' τ' ρ' H' a1 w1 hI' hs' b k cs
          exact ⟨e2, a2, w2, hq2, .of_steps (Steps.trans harr (.one step_inLoop)) harr2⟩
        | exit id => exact ⟨.exit id, a1, w1, hq, .pass (x := .inLoop x) rfl (fun _ _ => .inl (by simp)) harr⟩
        | ret => exact ⟨.ret, a1, w1, hq, .pass (x := .inLoop x) rfl (fun _ _ => .inl (by simp)) harr⟩
        | goto l => exact hq.elim
        | panic ch => exact hq.elim
        | outgrown => exact hq.elim
    intro b k cs
    obtain ⟨τ1, ρ1, H1, h1, hs1⟩ := hs.nv vs h0
    obtain ⟨e, a', w', hq, harr⟩ := key n0 C τ1 ρ1 H1 a w h1 hs1 b k cs
    exact ⟨e, a', w', hq, .of_steps (.one step_loop) harr⟩
  | exit id =>
    intro ac Q C τ ρ H a w hc h hs
    simp only [comp, Option.some.injEq] at hc; subst hc
    exact wp_exit ⟨ρ, H, C, τ, h, hs⟩
  | ret =>
    intro ac Q C τ ρ H a w hc h hs
    simp only [comp, Option.some.injEq] at hc; subst hc
    exact wp_ret ⟨ρ, H, C, τ, h, hs⟩
  | _ => intro ac Q C τ ρ H a w hc h; simp only [comp, Option.some.injEq] at hc; subst hc; exact h.elim
end
end Go.AW
