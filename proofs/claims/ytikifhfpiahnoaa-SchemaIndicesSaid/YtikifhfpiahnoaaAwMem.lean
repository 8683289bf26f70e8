/-
  How a state of the abstract machine goes on when a block is made, a cell is written, an order is drawn.
  No condition: plain laws on worlds.
-/
import Derived.Test.YtikifhfpiahnoaaAwCore
namespace Go.AW

def updF {α : Type} (f : Nat → α) (i : Nat) (v : α) : Nat → α := fun j => if j = i then v else f j

theorem updF_same {α : Type} (f : Nat → α) (i : Nat) (v : α) : updF f i v i = v := by simp [updF]
theorem updF_other {α : Type} (f : Nat → α) {i j : Nat} (v : α) (h : j ≠ i) : updF f i v j = f j := by simp [updF, h]

theorem cell_heap {w w' : World} {b i : Nat} (h : w'.heap[b]? = w.heap[b]?) : w'.cell? ⟨b, i, none⟩ = w.cell? ⟨b, i, none⟩ := by
  simp [World.cell?, h]

theorem heap_alloc_lt (w : World) (o : Obj) {b : Nat} (h : b < w.heap.size) : (w.alloc o).heap[b]? = w.heap[b]? := by
  simp only [World.alloc, Array.getElem?_push]; rw [if_neg (by omega)]

theorem heap_alloc_self (w : World) (o : Obj) : (w.alloc o).heap[w.heap.size]? = some o := by
  simp only [World.alloc, Array.getElem?_push, if_true]

theorem lt_of_heap {w : World} {b : Nat} {o : Obj} (h : w.heap[b]? = some o) : b < w.heap.size := by
  by_cases hb : b < w.heap.size
  · exact hb
  · simp [Array.getElem?_eq_none (by omega : w.heap.size ≤ b)] at h

section
variable {C : Nat → Nat} {τ : Nat → Option Loc} {H : List AObj} {w w0 : World} {Pr : Nat → Prop}

theorem WF.locLt (h : WF C τ H w) {id : Nat} {l : Loc} (hi : id < H.length) (ht : τ id = some l) : l.b < w.heap.size := by
  have ho : H[id]? = some H[id] := List.getElem?_eq_getElem hi
  have := h.objs id _ l ho ht
  cases hx : H[id] with
  | arr esz es => rw [hx] at this; obtain ⟨_, _, _, _, hh, _⟩ := this; exact lt_of_heap hh
  | iter s p => rw [hx] at this; exact lt_of_heap this

/-- An object reads as it did where its block is as it was and all values read as they did. -/
theorem ObjAt.mono {C' : Nat → Nat} {τ' : Nat → Option Loc} {H' : List AObj} {w' : World} {l : Loc} {o : AObj} (h : ObjAt C w τ H l o)
    (s : Step C τ H w C' τ' H' w') (hh : w'.heap[l.b]? = w.heap[l.b]?) : ObjAt C' w' τ' H' l o := by
  cases o with
  | arr esz es =>
    obtain ⟨hl, cells, elem, fz, h1, h2, h3, h4⟩ := h
    refine ⟨hl, cells, elem, fz, hh.trans h1, h2, h3, fun i j e d he hd => ?_⟩
    obtain ⟨v, hv, hr⟩ := h4 i j e d he hd
    exact ⟨v, hv, hr.mono s⟩
  | iter s' p => exact Eq.trans hh h

/-- A change of the world that leaves every block as it was (a draw). -/
theorem St.same {w' : World} (h : St w0 Pr C τ H w) (hh : w'.heap = w.heap) (ho : w'.os = w.os) (ht : w'.tape = w.tape) (hp : w'.output = w.output) :
    St w0 Pr C τ H w' ∧ Step C τ H w C τ H w' := by
  have s : Step C τ H w C τ H w' := ⟨fun _ => Nat.le_refl _, fun b i _ => cell_heap (by rw [hh]), fun _ o h => ⟨o, h, o.after_refl _⟩, by rw [hh]; exact Nat.le_refl _, fun _ _ => rfl⟩
  refine ⟨⟨⟨h.wf.ok, h.wf.virt, fun id o l h1 h2 => (h.wf.objs id o l h1 h2).mono s (by rw [hh]), h.wf.comm, h.wf.inj, fun b hb => by rw [hh]; exact h.wf.lt b hb⟩, ?_, h.own, h.plt⟩, s⟩
  exact ⟨ho.trans h.fr.os, ht.trans h.fr.tape, hp.trans h.fr.output, by rw [hh]; exact h.fr.size, fun b hb => by rw [hh]; exact h.fr.prot b hb⟩

/-- A new block that is no object and of which n cells are committed (n = 0: none). -/
theorem St.alloc_comm (h : St w0 Pr C τ H w) (o : Obj) (n : Nat) :
    St w0 Pr (updF C w.heap.size (C w.heap.size + n)) τ H (w.alloc o) ∧ Step C τ H w (updF C w.heap.size (C w.heap.size + n)) τ H (w.alloc o) := by
  have hlt : ∀ b i, i < C b → b < w.heap.size := fun b i hi => h.wf.lt b (by omega)
  have s : Step C τ H w (updF C w.heap.size (C w.heap.size + n)) τ H (w.alloc o) := by
    refine ⟨fun b => ?_, fun b i hi => cell_heap (heap_alloc_lt _ _ (hlt b i hi)), fun _ o h => ⟨o, h, o.after_refl _⟩, by simp, fun b hb => updF_other _ _ (by omega)⟩
    by_cases hb : b = w.heap.size
    · subst hb; rw [updF_same]; omega
    · rw [updF_other _ _ hb]; exact Nat.le_refl _
  refine ⟨⟨⟨h.wf.ok, h.wf.virt, fun id ob l h1 h2 => (h.wf.objs id ob l h1 h2).mono s (heap_alloc_lt _ _ ?_), fun id l h1 h2 => ?_, h.wf.inj, fun b hb => ?_⟩, ?_, h.own, h.plt⟩, s⟩
  · exact h.wf.locLt (List.getElem?_eq_some_iff.1 h1).1 h2
  · have hl := h.wf.locLt h1 h2
    rw [updF_other _ _ (by omega)]; exact h.wf.comm id l h1 h2
  · simp only [World.size_alloc]
    by_cases e : b = w.heap.size
    · omega
    · rw [updF_other _ _ e] at hb; have := h.wf.lt b hb; omega
  · refine ⟨h.fr.os, h.fr.tape, h.fr.output, by simp only [World.size_alloc]; have := h.fr.size; omega, fun b hb => ?_⟩
    rw [heap_alloc_lt _ _ (Nat.lt_of_lt_of_le (h.plt b hb) h.fr.size)]; exact h.fr.prot b hb

theorem after_snoc {H : List AObj} {τ : Nat → Option Loc} {n : AObj} {t : Option Loc} (id : Nat) (o : AObj) (ho : H[id]? = some o) :
    ∃ o' : AObj, (H ++ [n])[id]? = some o' ∧ o.after o' (τ id) (updF τ H.length t id) := by
  have hi := (List.getElem?_eq_some_iff.1 ho).1
  exact ⟨o, by rw [List.getElem?_append_left hi]; exact ho, by rw [updF_other _ _ (by omega)]; exact o.after_refl _⟩

/-- A new object that lies nowhere yet. -/
theorem St.virt (h : St w0 Pr C τ H w) (esz : Nat) :
    St w0 Pr C (updF τ H.length none) (H ++ [.arr esz []]) w ∧ Step C τ H w C (updF τ H.length none) (H ++ [.arr esz []]) w := by
  have s : Step C τ H w C (updF τ H.length none) (H ++ [.arr esz []]) w := ⟨fun _ => Nat.le_refl _, fun _ _ _ => rfl, after_snoc, Nat.le_refl _, fun _ _ => rfl⟩
  have old : ∀ id o, (H ++ [AObj.arr esz []])[id]? = some o → (H[id]? = some o ∧ id < H.length) ∨ (id = H.length ∧ o = .arr esz []) := by
    intro id o ho
    by_cases hi : id < H.length
    · rw [List.getElem?_append_left hi] at ho; exact .inl ⟨ho, hi⟩
    · rw [List.getElem?_append_right (by omega)] at ho
      by_cases e : id - H.length = 0
      · rw [e] at ho; simp at ho; exact .inr ⟨by omega, ho.symm⟩
      · obtain ⟨k, hk⟩ : ∃ k, id - H.length = k + 1 := ⟨id - H.length - 1, by omega⟩
        rw [hk] at ho; simp at ho
  have lt : ∀ id l, id < (H ++ [AObj.arr esz []]).length → updF τ H.length none id = some l → id < H.length ∧ τ id = some l := by
    intro id l h1 h2
    by_cases e : id = H.length
    · subst e; rw [updF_same] at h2; cases h2
    · rw [updF_other _ _ e] at h2; simp at h1; exact ⟨by omega, h2⟩
  refine ⟨⟨⟨fun id o ho => ?_, fun id o ho ht => ?_, fun id o l ho ht => ?_, fun id l h1 h2 => ?_, fun i j li lj h1 h2 h3 h4 => ?_, h.wf.lt⟩, h.fr, ?_, h.plt⟩, s⟩
  · rcases old id o ho with ⟨h1, _⟩ | ⟨_, rfl⟩
    · exact h.wf.ok id o h1
    · intro e he; simp at he
  · rcases old id o ho with ⟨h1, h2⟩ | ⟨_, rfl⟩
    · rw [updF_other _ _ (by omega)] at ht; exact h.wf.virt id o h1 ht
    · exact ⟨_, rfl⟩
  · have := lt id l (List.getElem?_eq_some_iff.1 ho).1 ht
    rw [List.getElem?_append_left this.1] at ho
    exact (h.wf.objs id o l ho this.2).mono s rfl
  · have := lt id l h1 h2; exact h.wf.comm id l this.1 this.2
  · have a := lt i li h1 h3; have b := lt j lj h2 h4
    exact h.wf.inj i j li lj a.1 b.1 a.2 b.2
  · rintro b ⟨id, l, h1, h2, h3⟩
    have := lt id l h1 h2; exact h.own b ⟨id, l, this.1, this.2, h3⟩

/-- A new object in a new block. -/
theorem St.alloc_obj (h : St w0 Pr C τ H w) (ob : Obj) (o : AObj) (cap : Nat) (hok : o.ok)
    (hat : ∀ (C' : Nat → Nat) (τ' : Nat → Option Loc) (H' : List AObj) (w' : World), Step C τ H w C' τ' H' w' → w'.heap[w.heap.size]? = some ob → ObjAt C' w' τ' H' ⟨w.heap.size, cap⟩ o) :
    St w0 Pr C (updF τ H.length (some ⟨w.heap.size, cap⟩)) (H ++ [o]) (w.alloc ob) ∧
      Step C τ H w C (updF τ H.length (some ⟨w.heap.size, cap⟩)) (H ++ [o]) (w.alloc ob) := by
  have hlt : ∀ b i, i < C b → b < w.heap.size := fun b i hi => h.wf.lt b (by omega)
  have s : Step C τ H w C (updF τ H.length (some ⟨w.heap.size, cap⟩)) (H ++ [o]) (w.alloc ob) :=
    ⟨fun _ => Nat.le_refl _, fun b i hi => cell_heap (heap_alloc_lt _ _ (hlt b i hi)), after_snoc, by simp, fun _ _ => rfl⟩
  have hC0 : C w.heap.size = 0 := by
    rcases Nat.eq_zero_or_pos (C w.heap.size) with h0 | h0
    · exact h0
    · have := h.wf.lt _ h0; omega
  have old : ∀ id x, (H ++ [o])[id]? = some x → (H[id]? = some x ∧ id < H.length) ∨ (id = H.length ∧ x = o) := by
    intro id x ho
    by_cases hi : id < H.length
    · rw [List.getElem?_append_left hi] at ho; exact .inl ⟨ho, hi⟩
    · rw [List.getElem?_append_right (by omega)] at ho
      by_cases e : id - H.length = 0
      · rw [e] at ho; simp at ho; exact .inr ⟨by omega, ho.symm⟩
      · obtain ⟨k, hk⟩ : ∃ k, id - H.length = k + 1 := ⟨id - H.length - 1, by omega⟩
        rw [hk] at ho; simp at ho
  have lt : ∀ id l, id < (H ++ [o]).length → updF τ H.length (some ⟨w.heap.size, cap⟩) id = some l → (id < H.length ∧ τ id = some l) ∨ (id = H.length ∧ l = ⟨w.heap.size, cap⟩) := by
    intro id l h1 h2
    by_cases e : id = H.length
    · subst e; rw [updF_same] at h2; cases h2; exact .inr ⟨rfl, rfl⟩
    · rw [updF_other _ _ e] at h2; simp at h1; exact .inl ⟨by omega, h2⟩
  refine ⟨⟨⟨fun id x ho => ?_, fun id x ho ht => ?_, fun id x l ho ht => ?_, fun id l h1 h2 => ?_, fun i j li lj h1 h2 h3 h4 h5 => ?_, fun b hb => ?_⟩, ?_, ?_, h.plt⟩, s⟩
  · rcases old id x ho with ⟨h1, _⟩ | ⟨_, rfl⟩
    · exact h.wf.ok id x h1
    · exact hok
  · rcases old id x ho with ⟨h1, h2⟩ | ⟨rfl, rfl⟩
    · rw [updF_other _ _ (by omega)] at ht; exact h.wf.virt id x h1 ht
    · rw [updF_same] at ht; cases ht
  · rcases old id x ho with ⟨h1, h2⟩ | ⟨rfl, rfl⟩
    · rw [updF_other _ _ (by omega)] at ht
      exact (h.wf.objs id x l h1 ht).mono s (heap_alloc_lt _ _ (h.wf.locLt h2 ht))
    · rw [updF_same] at ht; cases ht
      exact hat _ _ _ _ s (heap_alloc_self _ _)
  · rcases lt id l h1 h2 with ⟨a, b⟩ | ⟨rfl, rfl⟩
    · exact h.wf.comm id l a b
    · exact hC0
  · rcases lt i li h1 h3 with ⟨a, b⟩ | ⟨rfl, rfl⟩ <;> rcases lt j lj h2 h4 with ⟨c, d⟩ | ⟨rfl, rfl⟩
    · exact h.wf.inj i j li lj a c b d h5
    · have := h.wf.locLt a b; simp at h5; omega
    · have := h.wf.locLt c d; simp at h5; omega
    · rfl
  · simp only [World.size_alloc]; have := h.wf.lt b hb; omega
  · refine ⟨h.fr.os, h.fr.tape, h.fr.output, by simp only [World.size_alloc]; have := h.fr.size; omega, fun b hb => ?_⟩
    rw [heap_alloc_lt _ _ (Nat.lt_of_lt_of_le (h.plt b hb) h.fr.size)]; exact h.fr.prot b hb
  · rintro b ⟨id, l, h1, h2, rfl⟩ hp
    rcases lt id l h1 h2 with ⟨a, c⟩ | ⟨rfl, rfl⟩
    · exact h.own _ ⟨id, l, a, c, rfl⟩ hp
    · have := h.plt _ hp; have := h.fr.size; simp at *; omega

/-- An object's block is written: the object turns into o'. -/
theorem St.set_obj {w' : World} {id : Nat} {o o' : AObj} {l : Loc} (h : St w0 Pr C τ H w) (ho : H[id]? = some o) (hl : τ id = some l)
    (hoth : ∀ b, b ≠ l.b → w'.heap[b]? = w.heap[b]?) (hsz : w'.heap.size = w.heap.size) (e1 : w'.os = w.os) (e2 : w'.tape = w.tape) (e3 : w'.output = w.output)
    (haft : o.after o' (some l) (some l)) (hok : o'.ok)
    (hat : ∀ (C' : Nat → Nat) (τ' : Nat → Option Loc) (H' : List AObj), Step C τ H w C' τ' H' w' → ObjAt C' w' τ' H' l o') :
    St w0 Pr C τ (H.set id o') w' ∧ Step C τ H w C τ (H.set id o') w' := by
  have hi := (List.getElem?_eq_some_iff.1 ho).1
  have hC := h.wf.comm id l hi hl
  have s : Step C τ H w C τ (H.set id o') w' := by
    refine ⟨fun _ => Nat.le_refl _, fun b i hb => cell_heap (hoth b ?_), fun j x hx => ?_, by rw [hsz]; exact Nat.le_refl _, fun _ _ => rfl⟩
    · rintro rfl; omega
    · by_cases e : j = id
      · subst e
        refine ⟨o', by rw [List.getElem?_set_self hi], ?_⟩
        rw [ho] at hx; cases hx; rw [hl]; exact haft
      · exact ⟨x, by rw [List.getElem?_set_ne (Ne.symm e)]; exact hx, x.after_refl _⟩
  refine ⟨⟨⟨fun j x hx => ?_, fun j x hx ht => ?_, fun j x lj hx ht => ?_, fun j lj h1 h2 => ?_, fun i j li lj h1 h2 => ?_, fun b hb => ?_⟩, ?_, ?_, h.plt⟩, s⟩
  · by_cases e : j = id
    · subst e; rw [List.getElem?_set_self hi] at hx; cases hx; exact hok
    · rw [List.getElem?_set_ne (Ne.symm e)] at hx; exact h.wf.ok j x hx
  · by_cases e : j = id
    · subst e; rw [hl] at ht; cases ht
    · rw [List.getElem?_set_ne (Ne.symm e)] at hx; exact h.wf.virt j x hx ht
  · by_cases e : j = id
    · subst e; rw [List.getElem?_set_self hi] at hx; cases hx
      rw [hl] at ht; cases ht; exact hat _ _ _ s
    · rw [List.getElem?_set_ne (Ne.symm e)] at hx
      refine (h.wf.objs j x lj hx ht).mono s (hoth _ fun eb => e ?_)
      exact h.wf.inj j id lj l (List.getElem?_eq_some_iff.1 hx).1 hi ht hl eb
  · rw [List.length_set] at h1; exact h.wf.comm j lj h1 h2
  · rw [List.length_set] at h1 h2; exact h.wf.inj i j li lj h1 h2
  · rw [hsz]; exact h.wf.lt b hb
  · refine ⟨e1.trans h.fr.os, e2.trans h.fr.tape, e3.trans h.fr.output, by rw [hsz]; exact h.fr.size, fun b hb => ?_⟩
    rw [hoth b ?_]
    · exact h.fr.prot b hb
    · rintro rfl; exact h.own _ ⟨id, l, hi, hl, rfl⟩ hb
  · rintro b ⟨j, lj, h1, h2, h3⟩
    rw [List.length_set] at h1; exact h.own b ⟨j, lj, h1, h2, h3⟩

/-- An object moves into a new block and is longer there. -/
theorem St.move_obj {id : Nat} {o o' : AObj} (h : St w0 Pr C τ H w) (ho : H[id]? = some o) (ob : Obj) (cap : Nat)
    (haft : o.after o' (τ id) (some ⟨w.heap.size, cap⟩)) (hok : o'.ok)
    (hat : ∀ (C' : Nat → Nat) (τ' : Nat → Option Loc) (H' : List AObj) (w' : World), Step C τ H w C' τ' H' w' → w'.heap[w.heap.size]? = some ob → ObjAt C' w' τ' H' ⟨w.heap.size, cap⟩ o') :
    St w0 Pr C (updF τ id (some ⟨w.heap.size, cap⟩)) (H.set id o') (w.alloc ob) ∧
      Step C τ H w C (updF τ id (some ⟨w.heap.size, cap⟩)) (H.set id o') (w.alloc ob) := by
  have hi := (List.getElem?_eq_some_iff.1 ho).1
  have hlt : ∀ b i, i < C b → b < w.heap.size := fun b i hi => h.wf.lt b (by omega)
  have hC0 : C w.heap.size = 0 := by
    rcases Nat.eq_zero_or_pos (C w.heap.size) with h0 | h0
    · exact h0
    · have := h.wf.lt _ h0; omega
  have s : Step C τ H w C (updF τ id (some ⟨w.heap.size, cap⟩)) (H.set id o') (w.alloc ob) := by
    refine ⟨fun _ => Nat.le_refl _, fun b i hb => cell_heap (heap_alloc_lt _ _ (hlt b i hb)), fun j x hx => ?_, by simp, fun _ _ => rfl⟩
    by_cases e : j = id
    · subst e
      refine ⟨o', by rw [List.getElem?_set_self hi], ?_⟩
      rw [ho] at hx; cases hx; rw [updF_same]; exact haft
    · exact ⟨x, by rw [List.getElem?_set_ne (Ne.symm e)]; exact hx, by rw [updF_other _ _ e]; exact x.after_refl _⟩
  have lt : ∀ j lj, j < (H.set id o').length → updF τ id (some ⟨w.heap.size, cap⟩) j = some lj → (j ≠ id ∧ j < H.length ∧ τ j = some lj) ∨ (j = id ∧ lj = ⟨w.heap.size, cap⟩) := by
    intro j lj h1 h2
    rw [List.length_set] at h1
    by_cases e : j = id
    · subst e; rw [updF_same] at h2; cases h2; exact .inr ⟨rfl, rfl⟩
    · rw [updF_other _ _ e] at h2; exact .inl ⟨e, h1, h2⟩
  refine ⟨⟨⟨fun j x hx => ?_, fun j x hx ht => ?_, fun j x lj hx ht => ?_, fun j lj h1 h2 => ?_, fun i j li lj h1 h2 h3 h4 h5 => ?_, fun b hb => ?_⟩, ?_, ?_, h.plt⟩, s⟩
  · by_cases e : j = id
    · subst e; rw [List.getElem?_set_self hi] at hx; cases hx; exact hok
    · rw [List.getElem?_set_ne (Ne.symm e)] at hx; exact h.wf.ok j x hx
  · by_cases e : j = id
    · subst e; rw [updF_same] at ht; cases ht
    · rw [List.getElem?_set_ne (Ne.symm e)] at hx; rw [updF_other _ _ e] at ht; exact h.wf.virt j x hx ht
  · by_cases e : j = id
    · subst e; rw [List.getElem?_set_self hi] at hx; cases hx
      rw [updF_same] at ht; cases ht; exact hat _ _ _ _ s (heap_alloc_self _ _)
    · rw [List.getElem?_set_ne (Ne.symm e)] at hx; rw [updF_other _ _ e] at ht
      exact (h.wf.objs j x lj hx ht).mono s (heap_alloc_lt _ _ (h.wf.locLt (List.getElem?_eq_some_iff.1 hx).1 ht))
  · rcases lt j lj h1 h2 with ⟨_, a, b⟩ | ⟨rfl, rfl⟩
    · exact h.wf.comm j lj a b
    · exact hC0
  · rcases lt i li h1 h3 with ⟨_, a, b⟩ | ⟨rfl, rfl⟩ <;> rcases lt j lj h2 h4 with ⟨_, c, d⟩ | ⟨rfl, rfl⟩
    · exact h.wf.inj i j li lj a c b d h5
    · have := h.wf.locLt a b; simp at h5; omega
    · have := h.wf.locLt c d; simp at h5; omega
    · rfl
  · simp only [World.size_alloc]; have := h.wf.lt b hb; omega
  · refine ⟨h.fr.os, h.fr.tape, h.fr.output, by simp only [World.size_alloc]; have := h.fr.size; omega, fun b hb => ?_⟩
    rw [heap_alloc_lt _ _ (Nat.lt_of_lt_of_le (h.plt b hb) h.fr.size)]; exact h.fr.prot b hb
  · rintro b ⟨j, lj, h1, h2, rfl⟩ hp
    rcases lt j lj h1 h2 with ⟨_, a, c⟩ | ⟨rfl, rfl⟩
    · exact h.own _ ⟨j, lj, a, c, rfl⟩ hp
    · have := h.plt _ hp; have := h.fr.size; simp at *; omega
end
end Go.AW
