/-
  A region whose order is open: one walk in the order of the text serves every order.
  No condition: plain laws over any program.
-/
import Derived.Test.YtikifhfpiahnoaaAwRun
namespace Go.AW

section
variable {E : Env} {P : Program} {C : Nat → Nat} {τ : Nat → Option Loc} {ρ ρ' : List AVal} {H : List AObj} {a : Act} {w : World}

/-- The operation yields v and leaves the heap alone. -/
def Yields (P : Program) (o : AOp) (ρ : List AVal) (H : List AObj) (v : AVal) : Prop := ∀ K : AVal → List AObj → Prop, K v H → opA P o ρ H K

theorem ACalls.ret' {f : FuncId} {args : List AVal} {R : AVal} {Q : AVal → List AObj → Prop} (h : ACalls P f args H (fun r H' => r = R ∧ H' = H)) (hq : Q R H) : ACalls P f args H Q := by
  have mono : ∀ r H', (r = R ∧ H' = H) → Q r H' := fun r H' ⟨h1, h2⟩ => by subst h1 h2; exact hq
  intro C τ w vs hw hl hr
  have h := h C τ w vs hw hl hr
  unfold CallsX at h ⊢
  split at h
  · exact Calls.mono h fun e w' ⟨v, r, C', τ', H', h1, h2, h3⟩ => ⟨v, r, C', τ', H', h1, mono _ _ h2, h3⟩
  · obtain ⟨v, r, C', τ', H', h1, h2, h3⟩ := h
    exact ⟨v, r, C', τ', H', h1, mono _ _ h2, h3⟩
  · exact h

/-! ### A quiet operation has one value -/

theorem binV_det {op : BinOp} {x y : AVal} {k : AVal → Prop} (h : binV op x y k) : ∃ v, k v ∧ ∀ k' : AVal → Prop, k' v → binV op x y k' := by
  unfold binV at h ⊢
  split at h
  · rename_i kx a ky b
    cases op <;> simp only [chkA_iff] at h ⊢ <;> first
      | exact h.2.elim
      | exact ⟨_, h.2.2, fun k' hk => ⟨h.1, h.2.1, hk⟩⟩
      | exact ⟨_, h.2, fun k' hk => ⟨h.1, hk⟩⟩
  · cases op <;> simp only [] at h ⊢ <;> first
      | exact h.elim
      | exact ⟨_, h.2, fun k' hk => ⟨h.1, hk⟩⟩
      | exact ⟨_, h, fun k' hk => hk⟩
  · exact h.elim

theorem eqCellsM_det : ∀ (ks : List Nat) (xs ys : List AVal) {k : Bool → Prop}, eqCellsM ks xs ys k → ∃ b, k b ∧ ∀ k' : Bool → Prop, k' b → eqCellsM ks xs ys k'
  | [], [], [], k, h => ⟨true, h, fun k' hk => hk⟩
  | n :: ns, x :: xs, y :: ys, k, h => by
    unfold eqCellsM at h ⊢
    split at h
    · rename_i b _
      obtain ⟨c, hc, hk⟩ := eqCellsM_det ns xs ys h
      exact ⟨b && c, hc, fun k' hk' => hk _ hk'⟩
    · exact h.elim
  | [], [], _ :: _, _, h => h.elim
  | [], _ :: _, _, _, h => h.elim
  | _ :: _, [], _, _, h => h.elim
  | _ :: _, _ :: _, [], _, h => h.elim

theorem eqCells_det (ks : List Nat) (xs ys : List AVal) {k : Bool → Prop} (h : eqCells ks xs ys k) : ∃ b, k b ∧ ∀ k' : Bool → Prop, k' b → eqCells ks xs ys k' := by
  rw [eqCells_eqM] at h
  obtain ⟨b, h1, h2⟩ := eqCellsM_det ks xs ys h
  exact ⟨b, h1, fun k' hk => by rw [eqCells_eqM]; exact h2 k' hk⟩

theorem unV_det {op : UnOp} {x : AVal} {k : AVal → Prop} (h : unV op x k) : ∃ v, k v ∧ ∀ k' : AVal → Prop, k' v → unV op x k' := by
  unfold unV at h ⊢
  split at h
  · exact ⟨_, h, fun _ hk => hk⟩
  · exact ⟨_, h, fun _ hk => hk⟩
  · exact h.elim

theorem boundsK_det {lo hi : Option AOpd} {len : Nat} {k : Nat → Nat → Prop} (h : boundsK ρ lo hi len k) : ∃ l r, k l r ∧ ∀ k' : Nat → Nat → Prop, k' l r → boundsK ρ lo hi len k' := by
  cases lo <;> cases hi <;> simp only [boundsK, evK_eq] at h ⊢
  · exact ⟨_, _, h, fun _ hk => hk⟩
  all_goals
    split at h <;> first
      | exact h.elim
      | exact ⟨_, _, h.2, fun _ hk => ⟨h.1, hk⟩⟩

theorem contentK_det {sz : Nat} {x : AVal} {k : List (List AVal) → Prop} (h : contentK H sz x k) : ∃ es, k es ∧ ∀ k' : List (List AVal) → Prop, k' es → contentK H sz x k' := by
  unfold contentK at h ⊢
  split at h
  · exact ⟨_, h, fun _ hk => hk⟩
  · simp only [chkA_iff] at h ⊢; exact ⟨_, h.2, fun _ hk => ⟨h.1, hk⟩⟩
  · simp only [objK, idxA_iff] at h ⊢
    obtain ⟨o, ho, h⟩ := h
    split at h
    · simp only [chkA_iff] at h; exact ⟨_, h.2.2, fun _ hk => ⟨_, ho, by simp only [chkA_iff]; exact ⟨h.1, h.2.1, hk⟩⟩⟩
    · exact h.elim
  · simp only [chkA_iff] at h ⊢; exact ⟨_, h.2, fun _ hk => ⟨h.1, hk⟩⟩
  · exact h.elim

theorem fillK_det : ∀ (ps : List (Nat × Nat × AOpd)) (cs : List AVal) {k : List AVal → Prop}, fillK ρ ps cs k → ∃ v, k v ∧ ∀ k' : List AVal → Prop, k' v → fillK ρ ps cs k'
  | [], cs, k, h => ⟨cs, h, fun _ hk => hk⟩
  | (off, sz, x) :: ps, cs, k, h => by
    simp only [fillK_cons, evK_eq] at h ⊢
    split at h
    · simp only [chkA_iff] at h
      obtain ⟨v, hv, hk⟩ := fillK_det ps _ h.2
      exact ⟨v, hv, fun k' hk' => by simp only [chkA_iff]; exact ⟨h.1, hk _ hk'⟩⟩
    · exact h.elim

theorem fillSK_det {sz : Nat} : ∀ (ps : List (Nat × AOpd)) (es : List (List AVal)) {k : List (List AVal) → Prop}, fillSK ρ sz ps es k → ∃ v, k v ∧ ∀ k' : List (List AVal) → Prop, k' v → fillSK ρ sz ps es k'
  | [], es, k, h => ⟨es, h, fun _ hk => hk⟩
  | (i, x) :: ps, es, k, h => by
    simp only [fillSK_cons, evK_eq, forceK_eq, setEK_eq] at h ⊢
    split at h
    · simp only [chkA_iff] at h
      obtain ⟨v, hv, hk⟩ := fillSK_det ps _ h.2
      exact ⟨v, hv, fun k' hk' => by simp only [chkA_iff]; exact ⟨h.1, hk _ hk'⟩⟩
    · exact h.elim

theorem opQ_det {o : AOp} (hq : o.quiet = true) {k : AVal → Prop} (h : opQ P o ρ H k) : ∃ v, k v ∧ Yields P o ρ H v := by
  unfold Yields
  cases o <;> simp only [AOp.quiet] at hq <;> try (cases hq; done)
  case call f args =>
    simp only [opQ, opA, evsK_eq] at h ⊢
    obtain ⟨r, h1, h2⟩ := h
    exact ⟨r, h2, fun K hk => h1.ret' hk⟩
  case callv x args =>
    simp only [opQ, opA, evsK_eq, evK_eq] at h ⊢
    split at h
    · obtain ⟨r, h1, h2⟩ := h
      exact ⟨r, h2, fun K hk => h1.ret' hk⟩
    · exact h.elim
  all_goals simp only [opQ, opA, evsK_eq, evK_eq, forceK_eq] at h ⊢
  case move => exact ⟨_, h, fun _ hk => hk⟩
  case pick =>
    split at h
    · rename_i t _
      simp only [condA_eq] at h ⊢
      cases t <;> simp only [] at h ⊢ <;> exact ⟨_, h, fun _ hk => hk⟩
    · exact h.elim
  case build =>
    obtain ⟨v, hv, hk⟩ := fillK_det _ _ h
    exact ⟨_, hv, fun _ hk' => hk _ hk'⟩
  case buildSlice =>
    obtain ⟨v, hv, hk⟩ := fillSK_det _ _ h
    simp only [chkA_iff] at hv
    exact ⟨_, hv.2, fun _ hk' => hk _ (by simp only [chkA_iff]; exact ⟨hv.1, hk'⟩)⟩
  case load =>
    split at h
    · simp only [objK, idxA_iff] at h ⊢
      obtain ⟨ob, hob, h⟩ := h
      split at h
      · simp only [elemA_iff, chkA_iff] at h
        obtain ⟨h1, e, h2, h3, h4⟩ := h
        exact ⟨_, h4, fun _ hk => ⟨_, hob, by simp only [elemA_iff, chkA_iff]; exact ⟨h1, e, h2, h3, hk⟩⟩⟩
      · exact h.elim
    · simp only [chkA_iff] at h ⊢
      exact ⟨_, h.2, fun _ hk => ⟨h.1, hk⟩⟩
    · exact h.elim
  case bin =>
    obtain ⟨v, hv, hk⟩ := binV_det h
    exact ⟨v, hv, fun _ hk' => hk _ hk'⟩
  case eqb neg x y =>
    split at h
    · cases neg <;> simp only [] at h ⊢ <;> exact ⟨_, h, fun _ hk => hk⟩
    · exact h.elim
  case eqs neg ks x y =>
    split at h
    · obtain ⟨b, hb, hk⟩ := eqCells_det _ _ _ h
      cases neg <;> simp only [] at hb ⊢ <;> exact ⟨_, hb, fun _ hk' => hk _ hk'⟩
    · exact h.elim
  case un =>
    obtain ⟨v, hv, hk⟩ := unV_det h
    exact ⟨v, hv, fun _ hk' => hk _ hk'⟩
  case conv => split at h <;> first | exact h.elim | exact ⟨_, h, fun _ hk => hk⟩
  case convBS =>
    split at h
    · exact ⟨_, h, fun _ hk => hk⟩
    · obtain ⟨es, ⟨l, hl, h⟩, hk⟩ := contentK_det h
      exact ⟨_, h, fun _ hk' => hk _ ⟨l, hl, hk'⟩⟩
    · obtain ⟨es, ⟨l, hl, h⟩, hk⟩ := contentK_det h
      exact ⟨_, h, fun _ hk' => hk _ ⟨l, hl, hk'⟩⟩
    · exact h.elim
  case slice =>
    split at h
    · obtain ⟨l, r, hb, hk⟩ := boundsK_det h
      exact ⟨_, hb, fun _ hk' => hk _ hk'⟩
    · simp only [chkA_iff] at h ⊢
      obtain ⟨l, r, hb, hk⟩ := boundsK_det h.2
      exact ⟨_, hb, fun _ hk' => ⟨h.1, hk _ hk'⟩⟩
    · simp only [objK, idxA_iff] at h ⊢
      obtain ⟨ob, hob, h⟩ := h
      split at h
      · simp only [chkA_iff] at h
        obtain ⟨l, r, hb, hk⟩ := boundsK_det h.2.2
        exact ⟨_, hb, fun _ hk' => ⟨_, hob, by simp only [chkA_iff]; exact ⟨h.1, h.2.1, hk _ hk'⟩⟩⟩
      · exact h.elim
    · exact h.elim
  case sliceStr =>
    split at h
    · obtain ⟨l, r, hb, hk⟩ := boundsK_det h
      exact ⟨_, hb, fun _ hk' => hk _ hk'⟩
    · exact h.elim
  case fieldAddr => split at h <;> first | exact h.elim | exact ⟨_, h, fun _ hk => hk⟩
  case field =>
    split at h
    · simp only [chkA_iff] at h ⊢
      exact ⟨_, h.2, fun _ hk => ⟨h.1, hk⟩⟩
    · exact h.elim
  case indexAddr =>
    split at h
    · split at h
      · simp only [chkA_iff, idxA_iff] at h ⊢
        obtain ⟨h1, h2, e, h3, h4⟩ := h
        exact ⟨_, h4, fun _ hk => ⟨h1, h2, e, h3, hk⟩⟩
      · simp only [objK, idxA_iff] at h ⊢
        obtain ⟨ob, hob, h⟩ := h
        split at h
        · simp only [chkA_iff] at h
          exact ⟨_, h.2.2.2, fun _ hk => ⟨_, hob, by simp only [chkA_iff]; exact ⟨h.1, h.2.1, h.2.2.1, hk⟩⟩⟩
        · exact h.elim
      · exact h.elim
    · exact h.elim
  case indexStr =>
    split at h
    · simp only [idxA_iff] at h ⊢
      obtain ⟨h1, e, h2, h3⟩ := h
      exact ⟨_, h3, fun _ hk => ⟨h1, e, h2, hk⟩⟩
    · exact h.elim
  case extract =>
    split at h
    · simp only [idxA_iff] at h ⊢
      obtain ⟨e, h2, h3⟩ := h
      exact ⟨_, h3, fun _ hk => ⟨e, h2, hk⟩⟩
    · exact h.elim
  case makeFunc => exact ⟨_, h, fun _ hk => hk⟩
  case len =>
    split at h
    · exact ⟨_, h, fun _ hk => hk⟩
    · exact ⟨_, h, fun _ hk => hk⟩
    · simp only [objK, idxA_iff] at h ⊢
      obtain ⟨ob, hob, h⟩ := h
      split at h
      · simp only [chkA_iff] at h
        exact ⟨_, h.2, fun _ hk => ⟨_, hob, by simp only [chkA_iff]; exact ⟨h.1, hk⟩⟩⟩
      · exact h.elim
    · exact h.elim
  case lenS => split at h <;> first | exact h.elim | exact ⟨_, h, fun _ hk => hk⟩
  case convSS => split at h <;> first | exact h.elim | exact ⟨_, h, fun _ hk => hk⟩
  case mn => split at h <;> first | exact h.elim | exact ⟨_, h, fun _ hk => hk⟩
  case mx => split at h <;> first | exact h.elim | exact ⟨_, h, fun _ hk => hk⟩
  case nop => split at h <;> first | exact h.elim | exact ⟨_, h, fun _ hk => hk⟩
  case slice00 =>
    split at h
    · exact ⟨_, h, fun _ hk => hk⟩
    · simp only [chkA_iff] at h ⊢
      exact ⟨_, h.2, fun _ hk => ⟨h.1, hk⟩⟩
    · exact ⟨_, h, fun _ hk => hk⟩
    · exact h.elim

/-! ### A quiet operation looks at its slots alone -/

theorem ev_same {x : AOpd} (h : ∀ t ∈ x.slots, getT ρ' t = getT ρ t) : ev ρ' x = ev ρ x := by
  cases x with
  | t n => exact h n (by simp [AOpd.slots])
  | c v => rfl

theorem evs_same : ∀ (xs : List AOpd), (∀ t ∈ xs.flatMap AOpd.slots, getT ρ' t = getT ρ t) → xs.map (ev ρ') = xs.map (ev ρ)
  | [], _ => rfl
  | x :: xs, h => by
    rw [List.map_cons, List.map_cons, ev_same fun t ht => h t (by simp [ht]), evs_same xs fun t ht => h t (by
      simp only [List.flatMap_cons, List.mem_append]; exact .inr ht)]

theorem fillK_same : ∀ (ps : List (Nat × Nat × AOpd)) (cs : List AVal) (k : List AVal → Prop), (∀ t ∈ ps.flatMap fun p => p.2.2.slots, getT ρ' t = getT ρ t) → fillK ρ' ps cs k = fillK ρ ps cs k
  | [], cs, k, _ => rfl
  | (off, sz, x) :: ps, cs, k, h => by
    simp only [fillK_cons, evK_eq]
    rw [ev_same fun t ht => h t (by simp [ht])]
    split
    · rw [fillK_same ps _ k fun t ht => h t (by simp only [List.flatMap_cons, List.mem_append]; exact .inr ht)]
    · rfl

theorem fillSK_same {sz : Nat} : ∀ (ps : List (Nat × AOpd)) (es : List (List AVal)) (k : List (List AVal) → Prop), (∀ t ∈ ps.flatMap fun p => p.2.slots, getT ρ' t = getT ρ t) → fillSK ρ' sz ps es k = fillSK ρ sz ps es k
  | [], es, k, _ => rfl
  | (i, x) :: ps, es, k, h => by
    simp only [fillSK_cons, evK_eq, forceK_eq, setEK_eq]
    rw [ev_same fun t ht => h t (by simp [ht])]
    split
    · rw [fillSK_same ps _ k fun t ht => h t (by simp only [List.flatMap_cons, List.mem_append]; exact .inr ht)]
    · rfl

theorem boundsK_same {lo hi : Option AOpd} {len : Nat} {k : Nat → Nat → Prop} (h : ∀ t ∈ optSlots lo ++ optSlots hi, getT ρ' t = getT ρ t) : boundsK ρ' lo hi len k = boundsK ρ lo hi len k := by
  cases lo <;> cases hi <;> simp only [boundsK, evK_eq]
  · rw [ev_same fun t ht => h t (by simp [optSlots, ht])]
  · rw [ev_same fun t ht => h t (by simp [optSlots, ht])]
  · rw [ev_same fun t ht => h t (by simp [optSlots, ht]), ev_same fun t ht => h t (by simp [optSlots, ht])]

theorem opA_same {o : AOp} (hq : o.quiet = true) (h : ∀ t ∈ o.slots, getT ρ' t = getT ρ t) (K : AVal → List AObj → Prop) : opA P o ρ' H K = opA P o ρ H K := by
  cases o <;> simp only [AOp.quiet] at hq <;> try (cases hq; done)
  all_goals simp only [opA, evK_eq, evsK_eq]
  all_goals simp only [AOp.slots] at h
  case build => exact fillK_same _ _ _ h
  case buildSlice => exact fillSK_same _ _ _ h
  case call => rw [evs_same _ h]
  case makeFunc => rw [evs_same _ h]
  case callv => rw [ev_same fun t ht => h t (by simp [ht]), evs_same _ fun t ht => h t (by simp only [List.mem_append]; exact .inr ht)]
  case pick => rw [ev_same fun t ht => h t (by simp [ht]), ev_same fun t ht => h t (by simp [ht]), ev_same fun t ht => h t (by simp [ht])]
  case slice => simp only [ev_same fun t ht => h t (by simp only [List.mem_append]; exact .inl (.inl ht)), boundsK_same fun t ht => h t (by simp only [List.mem_append] at ht ⊢; rcases ht with ht | ht; exact .inl (.inr ht); exact .inr ht)]
  case sliceStr => simp only [ev_same fun t ht => h t (by simp only [List.mem_append]; exact .inl (.inl ht)), boundsK_same fun t ht => h t (by simp only [List.mem_append] at ht ⊢; rcases ht with ht | ht; exact .inl (.inr ht); exact .inr ht)]
  all_goals first
    | rw [ev_same h]
    | rw [ev_same fun t ht => h t (by simp [ht]), ev_same fun t ht => h t (by simp [ht])]

/-! ### Guards -/

/-- Is the operation wanted? 'none': not known. -/
def guardV (ρ : List AVal) (g : Option (Option Nat × Bool)) : Option Bool :=
  match g with
  | none => some true
  | some (some d, want) => match getT ρ d with
    | .bool b => some (b == want)
    | .tuple [] => some false
    | _ => none
  | some (none, _) => none

theorem setT_self : ∀ (l : List AVal) (n : Nat) (v : AVal), getT l n = v → setT l n v = l
  | [], _, _, _ => rfl
  | x :: xs, 0, v, h => by simp only [getT] at h; subst h; rfl
  | x :: xs, n + 1, v, h => by simp only [getT] at h; simp only [setT, setT_self xs n v h]

theorem guardK_det {g : Option (Option Nat × Bool)} {k : List AVal → Bool → Prop} (h : guardK ρ g k) : ∃ t, guardV ρ g = some t ∧ k ρ t := by
  unfold guardK at h
  split at h
  · exact ⟨true, rfl, h⟩
  · rename_i d want
    simp only [getK_eq] at h
    unfold guardV
    split at h
    · rename_i b hv
      rw [condA_eq, setK_eq, setT_self _ _ _ hv] at h
      exact ⟨_, by simp only [hv], h⟩
    · rename_i hv
      exact ⟨_, by simp only [hv], h⟩
    · exact h.elim
  · exact h.elim

def putV (ρ : List AVal) (d : Option Nat) (v : AVal) : List AVal :=
  match d with
  | some d => setT ρ d v
  | none => ρ

theorem putK_eq (d : Option Nat) (v : AVal) (k : List AVal → Prop) : putK ρ d v k = k (putV ρ d v) := by
  cases d with
  | none => rfl
  | some d => exact setK_eq _ _ _ _

/-- In these slots the operation leaves v. -/
def YieldsI (P : Program) (H : List AObj) (i : AIns) (v : AVal) (ρ : List AVal) : Prop :=
  (guardV ρ i.guard = some true ∧ Yields P i.op ρ H v) ∨ (guardV ρ i.guard = some false ∧ v = .tuple [])

/-- The walk in the order of the text. -/
def lexA (P : Program) (H : List AObj) : List AIns → List AVal → (List AVal → Prop) → Prop
  | [], ρ, k => k ρ
  | i :: is, ρ, k => ∃ v, YieldsI P H i v ρ ∧ lexA P H is (putV ρ i.dst v) k

theorem lexA_of_runQ : ∀ (is : List AIns) (ρ : List AVal) (k : List AVal → Prop), (∀ i ∈ is, i.op.quiet = true) → runQ P H is ρ k → lexA P H is ρ k
  | [], ρ, k, _, h => h
  | i :: is, ρ, k, hq, h => by
    rw [runQ_cons] at h
    obtain ⟨t, hg, h⟩ := guardK_det h
    cases t with
    | true =>
      obtain ⟨v, hk, hy⟩ := opQ_det (hq i (by simp)) h
      rw [putK_eq] at hk
      exact ⟨v, .inl ⟨hg, hy⟩, lexA_of_runQ is _ k (fun j hj => hq j (by simp [hj])) hk⟩
    | false =>
      simp only [] at h
      rw [putK_eq] at h
      exact ⟨_, .inr ⟨hg, rfl⟩, lexA_of_runQ is _ k (fun j hj => hq j (by simp [hj])) h⟩

theorem getT_putV {d : Option Nat} {v : AVal} {t : Nat} (h : d ≠ some t) : getT (putV ρ d v) t = getT ρ t := by
  cases d with
  | none => rfl
  | some d =>
    simp only [putV, getT_setT]
    rw [if_neg]
    rintro ⟨rfl, _⟩
    exact h rfl

theorem YieldsI.same {i : AIns} {v : AVal} (hq : i.op.quiet = true) (h : YieldsI P H i v ρ) (hs : ∀ t ∈ i.slots, getT ρ' t = getT ρ t) : YieldsI P H i v ρ' := by
  have hg : guardV ρ' i.guard = guardV ρ i.guard := by
    unfold guardV
    split
    · rfl
    · rename_i d want hgd
      have : d ∈ i.slots := by
        unfold AIns.slots
        rw [hgd]; simp
      rw [hs d this]
    · rfl
  have ho : ∀ t ∈ i.op.slots, getT ρ' t = getT ρ t := fun t ht => hs t (by unfold AIns.slots; simp [ht])
  rcases h with ⟨h1, h2⟩ | ⟨h1, h2⟩
  · exact .inl ⟨hg.trans h1, fun K hk => by rw [opA_same hq ho]; exact h2 K hk⟩
  · exact .inr ⟨hg.trans h1, h2⟩

theorem setT_comm : ∀ (l : List AVal) (n m : Nat) (v u : AVal), n ≠ m → setT (setT l n v) m u = setT (setT l m u) n v
  | [], _, _, _, _, _ => rfl
  | _ :: _, 0, 0, _, _, h => absurd rfl h
  | _ :: _, 0, _ + 1, _, _, _ => rfl
  | _ :: _, _ + 1, 0, _, _, _ => rfl
  | x :: xs, n + 1, m + 1, v, u, h => by simp only [setT, setT_comm xs n m v u (fun e => h (by rw [e]))]

theorem putV_comm {d e : Option Nat} {v u : AVal} (h : ∀ x, d = some x → e ≠ some x) : putV (putV ρ d v) e u = putV (putV ρ e u) d v := by
  cases d with
  | none => rfl
  | some d =>
    cases e with
    | none => rfl
    | some e => exact setT_comm _ _ _ _ _ (fun x => h d rfl (by rw [x]))

/-- Two operations do not touch each other's slots. -/
def apartA (x y : AIns) : Prop := (∀ d, x.dst = some d → d ∉ y.slots) ∧ (∀ d, x.dst = some d → y.dst ≠ some d) ∧ (∀ d, y.dst = some d → d ∉ x.slots)

theorem YieldsI.put {i j : AIns} {v u : AVal} (hi : i.op.quiet = true) (h : YieldsI P H i v ρ) (hd : ∀ d, j.dst = some d → d ∉ i.slots) : YieldsI P H i v (putV ρ j.dst u) :=
  h.same hi fun t ht => getT_putV fun e => hd t e ht

theorem YieldsI.unput {i j : AIns} {v u : AVal} (hi : i.op.quiet = true) (h : YieldsI P H i v (putV ρ j.dst u)) (hd : ∀ d, j.dst = some d → d ∉ i.slots) : YieldsI P H i v ρ :=
  h.same hi fun t ht => (getT_putV fun e => hd t e ht).symm

/-- Whatever order is taken among the first n operations; L holds behind them. -/
def anyA (P : Program) (ops : Array Oper) (is : List AIns) (H : List AObj) (n : Nat) (L : Array Bool → List AVal → Prop) : Nat → Array Bool → List AVal → Prop
  | 0, listed, ρ => L listed ρ
  | f + 1, listed, ρ => Region.ready .any ops listed ≠ [] ∧ ∀ j ∈ Region.ready .any ops listed, j < n ∧ ∃ i v, is[j]? = some i ∧ YieldsI P H i v ρ ∧ anyA P ops is H n L f (listed.setIfInBounds j true) (putV ρ i.dst v)

theorem anyA_first {ops : Array Oper} {is : List AIns} {n k : Nat} {i : AIns} {v : AVal} {L : Array Bool → List AVal → Prop} (hi : is[k]? = some i) (hquiet : ∀ j x, j < n → is[j]? = some x → x.op.quiet = true) (hkn : k < n)
    (hap : ∀ (j m : Nat) (oj om : Oper) (x y : AIns), ops[j]? = some oj → ops[m]? = some om → is[j]? = some x → is[m]? = some y → j < n → m < n → oj.apart ops om = true → apartA x y)
    (hdone : ∀ listed ρ, L listed ρ → ∀ j ∈ Region.ready .any ops listed, n ≤ j) (hok : ∃ oi, ops[k]? = some oi)
    (Inv : Array Bool → Prop) (hwait : ∀ listed, Inv listed → listed.getD k true = false → ∀ t, n ≤ t → t ∉ Region.ready .any ops listed) (hinv : ∀ listed j, Inv listed → j ∈ Region.ready .any ops listed → j < n → Inv (listed.setIfInBounds j true)) :
    ∀ (f : Nat) (listed : Array Bool) (ρ : List AVal), Inv listed →
      (∀ oi, ops[k]? = some oi → ∀ j oj, ops[j]? = some oj → j ≠ k → listed.getD j true = false → (∀ e ∈ oj.after, Region.binds .any e = true → e.on ≠ k) → oi.apart ops oj = true) →
      k ∈ Region.ready .any ops listed → YieldsI P H i v ρ →
      anyA P ops is H n L f (listed.setIfInBounds k true) (putV ρ i.dst v) → anyA P ops is H n L (f + 1) listed ρ := by
  obtain ⟨oi, hoi⟩ := hok
  intro f
  induction f with
  | zero =>
    intro listed ρ inv _ hr hy hH
    have hun := (mem_ready.1 hr).1
    refine ⟨fun h => (by rw [h] at hr; cases hr), fun j hj => ?_⟩
    have hjn : j < n := by
      rcases Nat.lt_or_ge j n with h | h
      · exact h
      · exact absurd hj (hwait listed inv hun j h)
    refine ⟨hjn, ?_⟩
    by_cases hji : j = k
    · subst hji; exact ⟨i, v, hi, hy, hH⟩
    · have := hdone _ _ hH j (ready_mono hj hji)
      omega
  | succ f ih =>
    intro listed ρ inv hfree hr hy hH
    have hun := (mem_ready.1 hr).1
    refine ⟨fun h => (by rw [h] at hr; cases hr), fun j hj => ?_⟩
    have hjn : j < n := by
      rcases Nat.lt_or_ge j n with h | h
      · exact h
      · exact absurd hj (hwait listed inv hun j h)
    refine ⟨hjn, ?_⟩
    by_cases hji : j = k
    · subst hji; exact ⟨i, v, hi, hy, hH⟩
    · obtain ⟨_, x, u, hx, hyx, hrest⟩ := hH.2 j (ready_mono hj hji)
      obtain ⟨hjun, oj, hoj, hall⟩ := mem_ready.1 hj
      have hnot : ∀ e ∈ oj.after, Region.binds .any e = true → e.on ≠ k := fun e he hb heq => by
        have h1 := hall e he hb
        rw [heq, getD_both hun] at h1
        cases h1
      have hapt := hap k j oi oj i x hoi hoj hi hx hkn hjn (hfree oi hoi j oj hoj hji hjun hnot)
      have hqi := hquiet k i hkn hi
      have hqx := hquiet j x hjn hx
      refine ⟨x, u, hx, hyx.unput hqx hapt.1, ?_⟩
      refine ih (listed.setIfInBounds j true) (putV ρ x.dst u) (hinv listed j inv hj hjn) (fun oi' hoi' m om hm hmk hunm hno => ?_) (ready_mono hr (Ne.symm hji)) (hy.put hqi hapt.2.2) ?_
      · refine hfree oi' hoi' m om hm hmk ?_ hno
        by_cases hjm : j = m
        · subst hjm; exact hjun
        · rw [getD_set_ne true hjm] at hunm; exact hunm
      · rw [Array.setIfInBounds_comm _ _ hji, putV_comm fun d hd => fun e => hapt.2.1 d e hd]
        exact hrest

theorem anyA_lex {ops : Array Oper} {is : List AIns} {n g : Nat} {kρ : List AVal → Prop} (hquiet : ∀ j x, j < n → is[j]? = some x → x.op.quiet = true)
    (hap : ∀ (j m : Nat) (oj om : Oper) (x y : AIns), ops[j]? = some oj → ops[m]? = some om → is[j]? = some x → is[m]? = some y → j < n → m < n → oj.apart ops om = true → apartA x y)
    (hok : ∀ j, j < n → ∃ oi, ops[j]? = some oi)
    (Inv : Array Bool → Prop) (hwait : ∀ listed k, Inv listed → k < n → listed.getD k true = false → ∀ t, n ≤ t → t ∉ Region.ready .any ops listed) (hinv : ∀ listed j, Inv listed → j ∈ Region.ready .any ops listed → j < n → Inv (listed.setIfInBounds j true)) :
    ∀ (l : List AIns) (k : Nat) (listed : Array Bool) (ρ : List AVal), (∀ j, j < l.length → l[j]? = is[k + j]?) → k + l.length = n → Inv listed → Region.lexHead .any ops g l.length k listed = true → lexA P H l ρ kρ →
      anyA P ops is H n (fun listed' ρ' => Region.seqB .any ops g n listed' = true ∧ kρ ρ') l.length listed ρ
  | [], k, listed, ρ, _, hk, _, hB, h => by
    have : k = n := by simpa using hk
    subst this
    exact ⟨by simpa [Region.lexHead] using hB, h⟩
  | i :: l, k, listed, ρ, hl, hk, inv, hB, h => by
    have h0 : is[k]? = some i := by simpa using (hl 0 (by simp)).symm
    simp only [List.length_cons, Region.lexHead, Bool.and_eq_true] at hB
    obtain ⟨⟨hr, hf⟩, hB'⟩ := hB
    have hkn : k < n := by simp only [List.length_cons] at hk; omega
    have hr' : k ∈ Region.ready .any ops listed := by simpa using hr
    obtain ⟨v, hy, hK⟩ := h
    exact anyA_first h0 hquiet hkn hap (fun listed' ρ' hL => seqB_ready hL.1) (hok k hkn) Inv (fun listed' inv' hun => hwait listed' k inv' hkn hun) hinv l.length listed ρ inv (fun oi hoi => Region.free_spec hoi hf) hr' hy
      (anyA_lex hquiet hap hok Inv hwait hinv l (k + 1) _ _ (fun j hj => by have := hl (j + 1) (by simp; omega); simpa [Nat.add_assoc, Nat.add_comm 1 j] using this) (by simp only [List.length_cons] at hk; omega) (hinv listed k inv hr' hkn) hB' hK)

theorem wpAny_of_seqOps {ops : Array Oper} {Q : Exit → Act → World → Prop} : ∀ (g k : Nat) (listed : Array Bool) (a : Act) (w : World), Region.seqB .any ops g k listed = true → wpOps P ops Q (List.range' k g) a w → wpAny P .any ops Q g listed a w
  | 0, _, _, _, _, hB, h => ⟨by simpa [Region.seqB] using hB, by simpa [wpOps] using h⟩
  | g + 1, k, listed, a, w, hB, h => by
    simp only [Region.seqB, Bool.and_eq_true, decide_eq_true_eq] at hB
    refine ⟨fun h1 => (by rw [hB.1] at h1; cases h1), fun i hi => ?_⟩
    rw [hB.1] at hi
    have hik : i = k := by simpa using hi
    subst hik
    rw [List.range'_succ, wpOps_cons] at h
    exact wpOp_mono (fun a' w' h' => wpAny_of_seqOps g (i + 1) _ a' w' hB.2 h') h

theorem wanted_of_guardV {ops : Array Oper} {o : Oper} {t : Bool} (hs : SA E C τ ρ H a w) (h : guardV ρ (o.guard.map fun (j, want) => ((ops[j]?).bind (·.dst), want)) = some t) : Region.wanted o (yielded ops a.tmps) = t := by
  have hk : guardK ρ (o.guard.map fun (j, want) => ((ops[j]?).bind (·.dst), want)) (fun _ b => b = t) := by
    generalize (o.guard.map fun (j, want) => ((ops[j]?).bind (·.dst), want)) = g at h
    unfold guardV at h
    unfold guardK
    split at h
    · cases h; rfl
    · simp only [getK_eq]
      split at h
      · rename_i b hv
        simp only [hv, condA_eq, setK_eq]
        cases h; rfl
      · rename_i hv
        simp only [hv]
        cases h; rfl
      · cases h
    · cases h
  obtain ⟨_, h1, _⟩ := guard_sound hs hk
  exact h1

theorem compList_get {ob : List Nat} {ops : Array Oper} : ∀ (l : List Oper) (is : List AIns), compList P ob ops l = some is → ∀ (j : Nat) (o : Oper), l[j]? = some o → ∃ i, is[j]? = some i ∧ compIns P ob ops o = some i
  | [], is, _, j, o, h => by simp at h
  | x :: l, is, hc, j, o, h => by
    obtain ⟨i, r, hi, hr, rfl⟩ := compList_cons hc
    cases j with
    | zero => simp at h; subst h; exact ⟨i, rfl, hi⟩
    | succ j => simp at h; exact compList_get l r hr j o h

theorem compList_length {ob : List Nat} {ops : Array Oper} : ∀ (l : List Oper) (is : List AIns), compList P ob ops l = some is → is.length = l.length
  | [], is, h => by simp only [compList, Option.some.injEq] at h; subst h; rfl
  | x :: l, is, h => by
    obtain ⟨i, r, hi, hr, rfl⟩ := compList_cons h
    simp [compList_length l r hr]

theorem wpAny_of_anyA {ob : List Nat} {ops : Array Oper} {is : List AIns} {Q : Exit → Act → World → Prop} {n g : Nat} {L : Array Bool → List AVal → Prop} (hc : compList P ob ops ops.toList = some is)
    (hL : ∀ (listed : Array Bool) (ρ : List AVal) (C : Nat → Nat) (τ : Nat → Option Loc) (a : Act) (w : World), L listed ρ → SA E C τ ρ H a w → wpAny P .any ops Q g listed a w) :
    ∀ (f : Nat) (listed : Array Bool) (ρ : List AVal) (C : Nat → Nat) (τ : Nat → Option Loc) (a : Act) (w : World), anyA P ops is H n L f listed ρ → SA E C τ ρ H a w → wpAny P .any ops Q (f + g) listed a w
  | 0, listed, ρ, C, τ, a, w, h, hs => by rw [Nat.zero_add]; exact hL listed ρ C τ a w h hs
  | f + 1, listed, ρ, C, τ, a, w, h, hs => by
    rw [show f + 1 + g = (f + g) + 1 by omega]
    refine ⟨fun h0 => absurd h0 h.1, fun j hj => ?_⟩
    obtain ⟨_, i, v, hi, hy, hrest⟩ := h.2 j hj
    obtain ⟨_, o, ho, _⟩ := mem_ready.1 hj
    obtain ⟨i', hi', hcomp⟩ := compList_get ops.toList is hc j o (by simpa using ho)
    rw [hi] at hi'; cases hi'
    obtain ⟨ao, hao, rfl⟩ := compIns_parts hcomp
    unfold wpOp
    simp only [ho]
    rcases hy with ⟨hg, hy⟩ | ⟨hg, rfl⟩
    · rw [wanted_of_guardV hs hg]
      simp only [if_true]
      refine .inl ?_
      unfold Oper.wp
      refine upon_of_opRes (op_sound (K := fun u H' => u = v ∧ H' = H) hao hs (hy _ ⟨rfl, rfl⟩)) fun u w' hout => ?_
      obtain ⟨v', C', τ', H', ⟨e1, e2⟩, hrel, hsa⟩ := hout
      rw [e1, e2] at hrel
      rw [e2] at hsa
      obtain ⟨ρ2, hk2, hsa2⟩ := hsa.putO hrel o.dst (k := fun x => x = putV ρ o.dst v) (by rw [putK_eq])
      subst hk2
      exact wpAny_of_anyA hc hL f _ _ C' τ' _ w' hrest hsa2
    · rw [wanted_of_guardV hs hg]
      simp only [Bool.false_eq_true, if_false]
      obtain ⟨ρ2, hk2, hsa2⟩ := hs.putO rel_skip o.dst (k := fun x => x = putV ρ o.dst (.tuple [])) (by rw [putK_eq])
      subst hk2
      exact wpAny_of_anyA hc hL f _ _ C τ _ w hrest hsa2

theorem quietLen_spec : ∀ (is : List AIns) (j : Nat) (x : AIns), j < quietLen is → is[j]? = some x → x.op.quiet = true
  | [], j, x, h, _ => by simp [quietLen] at h
  | i :: is, j, x, h, hx => by
    unfold quietLen at h
    split at h
    · rename_i hq
      cases j with
      | zero => simp at hx; subst hx; exact hq
      | succ j => exact quietLen_spec is j x (by omega) (by simpa using hx)
    · omega

theorem quietLen_le : ∀ (is : List AIns), quietLen is ≤ is.length
  | [] => Nat.le_refl _
  | i :: is => by
    unfold quietLen
    split
    · have := quietLen_le is; simp; omega
    · exact Nat.zero_le _

theorem slotsOk_spec {ops : Array Oper} : ∀ (l : List Oper) (is : List AIns), slotsOk ops l is = true → ∀ (j : Nat) (o : Oper) (i : AIns), l[j]? = some o → is[j]? = some i → ∀ t ∈ i.slots, t ∈ o.looksAt ops
  | [], _, _, j, o, i, h, _ => by simp at h
  | _ :: _, [], _, j, o, i, _, h => by simp at h
  | x :: l, y :: is, hB, j, o, i, ho, hi => by
    simp only [slotsOk, Bool.and_eq_true] at hB
    cases j with
    | zero =>
      simp at ho hi; subst ho hi
      intro t ht
      have := List.all_eq_true.1 hB.1 t ht
      simpa using this
    | succ j => exact slotsOk_spec l is hB.2 j o i (by simpa using ho) (by simpa using hi)

/-- **A region whose order is open.** -/
theorem draw_sound {ob : List Nat} {id : Nat} {ops : Array Oper} {is : List AIns} {Q : AExit → List AVal → List AObj → Prop} (hc : compList P ob ops ops.toList = some is) (hB : drawB P ops is = true)
    (h : awp P E.H0.length (.draw (is.take (quietLen is)) (is.drop (quietLen is))) Q ρ H) (hs : SA E C τ ρ H a w) : (Code.region id ops true).wp P (QR E Q) a w := by
  unfold drawB at hB
  simp only [Bool.and_eq_true] at hB
  obtain ⟨⟨hm, hslots⟩, hB⟩ := hB
  have hlen := compList_length _ _ hc
  have hql := quietLen_le is
  have hsz : ops.toList.length = ops.size := by simp
  obtain ⟨st, s1⟩ := hs.st.same (w' := { w with drawn := w.drawn + 1 }) rfl rfl rfl rfl
  have hs' := hs.go st s1
  have hrun : lexA P H (is.take (quietLen is)) ρ (fun ρ' => runA P (is.drop (quietLen is)) ρ' H (Q .normal)) := by
    refine lexA_of_runQ _ _ _ (fun i hi => ?_) h
    obtain ⟨j, hj, rfl⟩ := List.getElem_of_mem hi
    have hj' : j < quietLen is := by simp at hj; omega
    rw [List.getElem_take]
    exact quietLen_spec is j _ hj' (List.getElem?_eq_getElem (by omega))
  have hquiet := quietLen_spec is
  have hget : ∀ (j : Nat) (o : Oper) (i : AIns), ops[j]? = some o → is[j]? = some i → i.dst = o.dst := by
    intro j o i ho hi
    obtain ⟨i', hi', hcomp⟩ := compList_get ops.toList is hc j o (by simpa using ho)
    rw [hi] at hi'; cases hi'
    obtain ⟨ao, _, rfl⟩ := compIns_parts hcomp
    rfl
  have hap : ∀ (j m : Nat) (oj om : Oper) (x y : AIns), ops[j]? = some oj → ops[m]? = some om → is[j]? = some x → is[m]? = some y → j < quietLen is → m < quietLen is → oj.apart ops om = true → apartA x y := by
    intro j m oj om x y hj hmm hx hy _ _ hab
    obtain ⟨a1, a2, a3⟩ := Oper.apart_spec hab
    have d1 := hget j oj x hj hx
    have d2 := hget m om y hmm hy
    have sx := slotsOk_spec ops.toList is hslots j oj x (by simpa using hj) hx
    have sy := slotsOk_spec ops.toList is hslots m om y (by simpa using hmm) hy
    exact ⟨fun d hd ht => a1 d (d1 ▸ hd) (sy d ht), fun d hd => by rw [d2]; exact a2 d (d1 ▸ hd), fun d hd ht => a3 d (d2 ▸ hd) (sx d ht)⟩
  have hok : ∀ j, j < quietLen is → ∃ oi, ops[j]? = some oi := fun j hj => ⟨ops[j]'(by omega), Array.getElem?_eq_getElem (by omega)⟩
  have htake : (is.take (quietLen is)).length = quietLen is := by simp; omega
  have hpre : ∀ j, j < (is.take (quietLen is)).length → (is.take (quietLen is))[j]? = is[0 + j]? := fun j hj => by
    rw [List.getElem?_take_of_lt (by omega), Nat.zero_add]
  -- behind the quiet operations: the rest in the text's order
  have hleaf : ∀ (listed : Array Bool) (ρ' : List AVal) (C' : Nat → Nat) (τ' : Nat → Option Loc) (a' : Act) (w' : World), (Region.seqB .any ops (ops.size - quietLen is) (quietLen is) listed = true ∧ runA P (is.drop (quietLen is)) ρ' H (Q .normal)) → SA E C' τ' ρ' H a' w' →
      wpAny P .any ops (QR E Q) (ops.size - quietLen is) listed a' w' := by
    intro listed ρ' C' τ' a' w' ⟨h1, h2⟩ hs2
    have hdrop : compList P ob ops (ops.toList.drop (quietLen is)) = some (is.drop (quietLen is)) := by
      have : ∀ (n : Nat) (l : List Oper) (is : List AIns), compList P ob ops l = some is → compList P ob ops (l.drop n) = some (is.drop n) := by
        intro n
        induction n with
        | zero => intro l is h; simpa using h
        | succ n ih =>
          intro l is h
          cases l with
          | nil => simp only [compList, Option.some.injEq] at h; subst h; rfl
          | cons x l =>
            obtain ⟨i, r, hi, hr, rfl⟩ := compList_cons h
            exact ih l r hr
      exact this _ _ _ hc
    have := region_sound (E := E) (Q := QR E Q) (Kr := Q .normal) (fun ρ H a w C τ hk hs => ⟨ρ, H, C, τ, hk, hs⟩) (ops.toList.drop (quietLen is)) (quietLen is) _ C' τ' ρ' H a' w' (fun j => by simp) hdrop h2 hs2
    rw [show (ops.toList.drop (quietLen is)).length = ops.size - quietLen is from by simp] at this
    exact wpAny_of_seqOps _ _ _ _ _ h1 this
  have fin : ∀ (Inv : Array Bool → Prop), Inv (Array.replicate ops.size false) → (∀ listed k, Inv listed → k < quietLen is → listed.getD k true = false → ∀ t, quietLen is ≤ t → t ∉ Region.ready .any ops listed) →
      (∀ listed j, Inv listed → j ∈ Region.ready .any ops listed → j < quietLen is → Inv (listed.setIfInBounds j true)) → Region.lexHead .any ops (ops.size - quietLen is) (quietLen is) 0 (Array.replicate ops.size false) = true →
      (Code.region id ops true).wp P (QR E Q) a w := by
    intro Inv inv0 hwait hinv hlex
    refine wp_region_any hm ?_
    have hany := anyA_lex (P := P) (H := H) (is := is) hquiet hap hok Inv hwait hinv (is.take (quietLen is)) 0 _ ρ hpre (by omega) inv0 (by rw [htake]; exact hlex) hrun
    rw [htake] at hany
    have := wpAny_of_anyA (E := E) (Q := QR E Q) hc hleaf (quietLen is) _ ρ C τ a _ hany hs'
    rw [show quietLen is + (ops.size - quietLen is) = ops.size from by omega] at this
    exact this
  split at hB
  · rename_i hq
    have hq' : quietLen is = ops.size := by omega
    refine fin (fun _ => True) trivial (fun listed k _ _ _ t ht hr => ?_) (fun _ _ _ _ _ => trivial) ?_
    · obtain ⟨_, o, ho, _⟩ := mem_ready.1 hr
      have := (Array.getElem?_eq_some_iff.1 ho).1
      omega
    · rw [hq', Nat.sub_self]; exact hB
  · simp only [Region.lexTailB, Bool.and_eq_true, decide_eq_true_eq] at hB
    obtain ⟨⟨⟨⟨_, hn⟩, hsink⟩, hchain⟩, hlex⟩ := hB
    refine fin (HeadInv .any ops (quietLen is)) ?_ (fun listed k inv hk hun => tail_waits hsink hchain hn inv _ k rfl hk hun) (fun listed j inv hj hjn => inv.set hj hjn) hlex
    exact ⟨by simp, fun j oj _ hl => (by rw [getD_replicate_false] at hl; cases hl), fun t _ ht => getD_in (by simpa using ht) (getD_replicate_false _ _)⟩
end
end Go.AW
