/-
  Contracts used where the caller holds objects: arguments that are weaker, objects that are lent for a call, and what a call leaves dropped.
  No condition: plain laws over any program.
-/
import Derived.Test.YtikifhfpiahnoaaAwPub
namespace Go.AW

section
variable {P : Program} {C C' : Nat → Nat} {τ τ' : Nat → Option Loc} {H H' : List AObj} {w w' : World}

/-- The second says less than the first of the same value. -/
inductive Wk : AVal → AVal → Prop where
  | refl (a : AVal) : Wk a a
  | nil (x : Bool) (sz : Nat) : Wk .nil (.list x sz [])
  | list (x y : Bool) (sz : Nat) (es : List (List AVal)) (h : y = true → x = true) : Wk (.list x sz es) (.list y sz es)
  | agg (as bs : List AVal) (hl : as.length = bs.length) (h : ∀ (i : Nat) (a b : AVal), as[i]? = some a → bs[i]? = some b → Wk a b) : Wk (.agg as) (.agg bs)

theorem Rd.weak {a b : AVal} {v : Value} (h : Rd C w a v) (hw : Wk a b) : Rd C w b v := by
  cases hw with
  | refl => exact h
  | nil x sz => cases h; exact .list0 x sz none 0 (fun _ => rfl)
  | list x y sz es hxy =>
    cases h with
    | list0 _ _ a cap hx => exact .list0 y sz a cap fun hy => hx (hxy hy)
    | list _ _ _ b off cap vs hx hcap hsz hC hcell hp hrd => exact .list y sz es b off cap vs (fun hy => hx (hxy hy)) hcap hsz hC hcell hp hrd
  | agg => cases h

theorem Rel.weak {a b : AVal} {v : Value} (h : Rel C w τ H a v) (hw : Wk a b) : Rel C w τ H b v := by
  induction hw generalizing v with
  | refl => exact h
  | nil x sz =>
    cases h with
    | rd h => exact .rd (h.weak (.nil x sz))
  | list x y sz es hxy =>
    cases h with
    | rd h => exact .rd (h.weak (.list x y sz es hxy))
  | agg as bs hl h2 ih =>
    cases h with
    | rd h => cases h
    | agg _ vs hlv hv =>
      refine .agg bs vs (by omega) fun i c u hc hu => ?_
      have hi : i < as.length := by have := (List.getElem?_eq_some_iff.1 hc).1; omega
      exact ih i as[i] c (List.getElem?_eq_getElem hi) hc (hv i as[i] u (List.getElem?_eq_getElem hi) hu)

def Wks (as bs : List AVal) : Prop := as.length = bs.length ∧ ∀ (i : Nat) (a b : AVal), as[i]? = some a → bs[i]? = some b → Wk a b

theorem Wks.nil : Wks [] [] := ⟨rfl, fun i a b h => by simp at h⟩
theorem Wks.cons {a b : AVal} {as bs : List AVal} (h : Wk a b) (hs : Wks as bs) : Wks (a :: as) (b :: bs) := by
  refine ⟨by simp [hs.1], fun i x y hx hy => ?_⟩
  cases i with
  | zero => simp at hx hy; subst hx hy; exact h
  | succ i => exact hs.2 i x y (by simpa using hx) (by simpa using hy)

/-- **A contract for less is one for more.** -/
theorem ACalls.weak {f : FuncId} {args bs : List AVal} {Q : AVal → List AObj → Prop} (h : ACalls P f bs H Q) (hw : Wks args bs) : ACalls P f args H Q := by
  intro C τ w vs hwf hl hr
  refine h C τ w vs hwf (by rw [← hw.1]; exact hl) fun i b v hb hv => ?_
  have hi : i < args.length := by have := (List.getElem?_eq_some_iff.1 hb).1; have := hw.1; omega
  exact (hr i args[i] v (List.getElem?_eq_getElem hi) hv).weak (hw.2 i args[i] b (List.getElem?_eq_getElem hi) hb)

/-- Nothing of memory is named. -/
def AVal.scalar : AVal → Bool
  | .bool _ | .int _ _ | .str _ => true
  | .tuple vs => vs.all fun v => match v with
    | .bool _ | .int _ _ | .str _ => true
    | .agg cs => cs.all fun c => match c with
      | .bool _ | .int _ _ | .str _ => true
      | _ => false
    | _ => false
  | .agg cs => cs.all fun c => match c with
    | .bool _ | .int _ _ | .str _ => true
    | _ => false
  | _ => false

theorem Rel.flat {c : AVal} {v : Value} (hc : (match c with
    | .bool _ | .int _ _ | .str _ => true
    | _ => false) = true) (h : Rel C w τ H c v) : Rel C' w' τ' H' c v := by
  cases c <;> simp only [] at hc <;> try (cases hc; done)
  all_goals
    cases h with
    | rd h => cases h; first | exact .rd (.bool _) | exact .rd (.int _ _) | exact .rd (.str _)

theorem Rel.flatAgg {cs : List AVal} {v : Value} (hc : (cs.all fun c => match c with
    | .bool _ | .int _ _ | .str _ => true
    | _ => false) = true) (h : Rel C w τ H (.agg cs) v) : Rel C' w' τ' H' (.agg cs) v := by
  cases h with
  | rd h => cases h
  | agg _ vs hl h => exact .agg cs vs hl fun i c u h1 h2 => (h i c u h1 h2).flat (List.all_eq_true.1 hc c (List.mem_of_getElem? h1))

theorem Rel.scalar {a : AVal} {v : Value} (ha : a.scalar = true) (h : Rel C w τ H a v) : Rel C' w' τ' H' a v := by
  cases a <;> simp only [AVal.scalar] at ha <;> try (cases ha; done)
  case bool => exact h.flat rfl
  case int => exact h.flat rfl
  case str => exact h.flat rfl
  case agg => exact h.flatAgg ha
  case tuple cs =>
    cases h with
    | rd h => cases h
    | tuple _ vs hl h =>
      refine .tuple cs vs hl fun i c u h1 h2 => ?_
      have hc := List.all_eq_true.1 ha c (List.mem_of_getElem? h1)
      have := h i c u h1 h2
      cases c <;> simp only [] at hc <;> try (cases hc; done)
      case bool => exact this.flat rfl
      case int => exact this.flat rfl
      case str => exact this.flat rfl
      case agg => exact this.flatAgg hc

/-- An argument that is lent: the caller's object as a list that the call can't change. -/
inductive Lent (H : List AObj) : AVal → AVal → Prop where
  | same (a : AVal) (h : a.closed = true) : Lent H a a
  | sl (id ep off len sz : Nat) (es : List (List AVal)) (ho : H[id]? = some (.arr sz es)) (hep : ep = es.length) (hp : pureEs es = true) :
      Lent H (.sl id ep off len) (.list false sz ((es.drop off).take len))
  | agg (as bs : List AVal) (hl : as.length = bs.length) (h : ∀ (i : Nat) (a b : AVal), as[i]? = some a → bs[i]? = some b → Lent H a b) : Lent H (.agg as) (.agg bs)

def Lents (H : List AObj) (as bs : List AVal) : Prop := as.length = bs.length ∧ ∀ (i : Nat) (a b : AVal), as[i]? = some a → bs[i]? = some b → Lent H a b

theorem Lents.nil : Lents H [] [] := ⟨rfl, fun i a b h => by simp at h⟩
theorem Lents.cons {a b : AVal} {as bs : List AVal} (h : Lent H a b) (hs : Lents H as bs) : Lents H (a :: as) (b :: bs) := by
  refine ⟨by simp [hs.1], fun i x y hx hy => ?_⟩
  cases i with
  | zero => simp at hx hy; subst hx hy; exact h
  | succ i => exact hs.2 i x y (by simpa using hx) (by simpa using hy)

theorem Lent.rel {a b : AVal} {v : Value} (h : Lent H a b) (hw : WF C τ H w) (hr : Rel C w τ H a v) : Rel (commit C τ H []) w τ [] b v := by
  induction h generalizing v with
  | same a h => exact hr.closed h (commit_le hw) (fun _ _ _ => rfl)
  | sl id ep off len sz es ho hep hp =>
    exact pub_rel (n := 0) (ids := []) (τ2 := τ) (H2 := []) hw (fun k id h => by simp at h) (.frz id ep off len sz es ho hep hp (by simp)) hr
  | agg as bs hl h ih =>
    cases hr with
    | rd h => cases h
    | agg _ vs hlv hv =>
      refine .agg bs vs (by omega) fun i c u hc hu => ?_
      have hi : i < as.length := by have := (List.getElem?_eq_some_iff.1 hc).1; omega
      exact ih i as[i] c (List.getElem?_eq_getElem hi) hc (hv i as[i] u (List.getElem?_eq_getElem hi) hu)

/-- **A contract that only looks serves with objects that are lent to it.** -/
theorem ACalls.bor {f : FuncId} {args bs : List AVal} {R : AVal} (hR : R.scalar = true) (h : ACalls P f bs [] (fun r _ => r = R)) (hl : Lents H args bs) : ACalls P f args H (fun r H' => r = R ∧ H' = H) := by
  intro C τ w vs hw hlen hr
  have hw0 : WF (commit C τ H []) τ [] w := by
    refine ⟨fun id o h => by simp at h, fun id o h => by simp at h, fun id o l h => by simp at h, fun id l h => by simp at h, fun i j li lj h => by simp at h, fun b hb => ?_⟩
    by_cases hex : ∃ id l, id < H.length ∧ τ id = some l ∧ l.b = b
    · obtain ⟨id, l, h1, h2, rfl⟩ := hex
      exact hw.locLt h1 h2
    · rw [commit_other fun id l h1 _ h2 h3 => hex ⟨id, l, h1, h2, h3⟩] at hb
      exact hw.lt b hb
  have hc := h (commit C τ H []) τ w vs hw0 (by rw [← hl.1]; exact hlen) fun i b v hb hv => by
    have hi : i < args.length := by have := (List.getElem?_eq_some_iff.1 hb).1; have := hl.1; omega
    exact (hl.2 i args[i] b (List.getElem?_eq_getElem hi) hb).rel hw (hr i args[i] v (List.getElem?_eq_getElem hi) hv)
  have fin : ∀ (e : Ending) (w' : World), (∃ v r C' τ' H', e = .returned v ∧ r = R ∧ Rel C' w' τ' H' r v ∧ St w (PrCall τ [] w) C' τ' H' w' ∧ Step (commit C τ H []) τ [] w C' τ' H' w') →
      ∃ v r C' τ' H', e = .returned v ∧ (r = R ∧ H' = H) ∧ Rel C' w' τ' H' r v ∧ St w (PrCall τ H w) C' τ' H' w' ∧ Step C τ H w C' τ' H' w' := by
    rintro e w' ⟨v, r, C1, τ1, H1, rfl, rfl, hrel, hst, hstep⟩
    have hheap : ∀ b, b < w.heap.size → w'.heap[b]? = w.heap[b]? := fun b hb => hst.fr.prot b ⟨hb, by rintro ⟨id, l, h, _⟩; simp at h⟩
    have step : Step C τ H w C τ H w' := ⟨fun _ => Nat.le_refl _, fun b i hi => cell_heap (hheap b (hw.lt b (by omega))), fun _ o h => ⟨o, h, o.after_refl _⟩, hst.fr.size, fun _ _ => rfl⟩
    have hwf : WF C τ H w' := by
      refine ⟨hw.ok, hw.virt, fun id o l h1 h2 => (hw.objs id o l h1 h2).mono step (hheap _ (hw.locLt (List.getElem?_eq_some_iff.1 h1).1 h2)), hw.comm, hw.inj, fun b hb => ?_⟩
      have := hw.lt b hb
      have := hst.fr.size
      omega
    refine ⟨v, r, C, τ, H, rfl, ⟨rfl, rfl⟩, hrel.scalar hR, ⟨hwf, ⟨hst.fr.os, hst.fr.tape, hst.fr.output, hst.fr.size, fun b hb => hheap b hb.1⟩, fun b ho hp => hp.2 ho, fun b hp => hp.1⟩, step⟩
  unfold CallsX at hc ⊢
  split at hc
  · exact Calls.mono hc fun e w' hh => fin e w' hh
  · exact fin _ _ hc
  · exact hc

theorem Rel.narrow {C1 : Nat → Nat} {w1 : World} {τ1 : Nat → Option Loc} {G : List AObj} {d : AVal} {v : Value} (h : Rel C1 w1 τ1 (H ++ G) d v) : (∃ v0, Rel C w τ H d v0) → Rel C1 w1 τ1 H d v := by
  have get : ∀ {id : Nat} {o o' : AObj}, H[id]? = some o → (H ++ G)[id]? = some o' → H[id]? = some o' := by
    intro id o o' h1 h2
    rw [List.getElem?_append_left (List.getElem?_eq_some_iff.1 h1).1] at h2
    exact h2
  induction h with
  | rd h => exact fun _ => .rd h
  | undef v => exact fun _ => .undef v
  | sl id ep off len a cap esz es ho hep h =>
    rintro ⟨v0, h0⟩
    cases h0 with
    | rd h0 => cases h0
    | sl _ _ _ _ a0 cap0 esz0 es0 ho0 hep0 h0 => exact .sl id ep off len a cap esz es (get ho0 ho) hep h
  | ptr id ep idx fld a esz es ho hep h =>
    rintro ⟨v0, h0⟩
    cases h0 with
    | rd h0 => cases h0
    | ptr _ _ _ _ a0 esz0 es0 ho0 hep0 h0 => exact .ptr id ep idx fld a esz es (get ho0 ho) hep h
  | it id s pos l ho ht =>
    rintro ⟨v0, h0⟩
    cases h0 with
    | rd h0 => cases h0
    | it _ s0 p0 l0 ho0 ht0 => exact .it id s pos l (get ho0 ho) ht
  | agg cs vs hl h ih =>
    rintro ⟨v0, h0⟩
    cases h0 with
    | rd h0 => cases h0
    | agg _ vs0 hl0 h0 => exact .agg cs vs hl fun i c u hc hu => ih i c u hc hu ⟨_, h0 i c vs0[i]! hc (by have := (List.getElem?_eq_some_iff.1 hc).1; rw [getElem!_pos vs0 i (by omega)]; exact Array.getElem?_eq_getElem (by omega))⟩
  | tuple cs vs hl h ih =>
    rintro ⟨v0, h0⟩
    cases h0 with
    | rd h0 => cases h0
    | tuple _ vs0 hl0 h0 => exact .tuple cs vs hl fun i c u hc hu => ih i c u hc hu ⟨_, h0 i c vs0[i]! hc (by have := (List.getElem?_eq_some_iff.1 hc).1; rw [getElem!_pos vs0 i (by omega)]; exact Array.getElem?_eq_getElem (by omega))⟩
  | fn f cs vs hl h ih =>
    rintro ⟨v0, h0⟩
    cases h0 with
    | rd h0 =>
      cases h0
      exact .fn f [] vs hl fun i c u hc => by simp at hc
    | fn _ _ vs0 hl0 h0 => exact .fn f cs vs hl fun i c u hc hu => ih i c u hc hu ⟨_, h0 i c vs0[i]! hc (by have := (List.getElem?_eq_some_iff.1 hc).1; rw [getElem!_pos vs0 i (by omega)]; exact Array.getElem?_eq_getElem (by omega))⟩

/-- **What a call leaves behind its caller's objects is dropped.** -/
theorem ACalls.drop {f : FuncId} {args : List AVal} {R : AVal} (hR : R.scalar = true) (h : ACalls P f args H (fun r H' => r = R ∧ ∃ G, H' = H ++ G)) : ACalls P f args H (fun r H' => r = R ∧ H' = H) := by
  intro C τ w vs hw hlen hr
  have hc := h C τ w vs hw hlen hr
  have fin : ∀ (e : Ending) (w' : World), (∃ v r C' τ' H', e = .returned v ∧ (r = R ∧ ∃ G, H' = H ++ G) ∧ Rel C' w' τ' H' r v ∧ St w (PrCall τ H w) C' τ' H' w' ∧ Step C τ H w C' τ' H' w') →
      ∃ v r C' τ' H', e = .returned v ∧ (r = R ∧ H' = H) ∧ Rel C' w' τ' H' r v ∧ St w (PrCall τ H w) C' τ' H' w' ∧ Step C τ H w C' τ' H' w' := by
    rintro e w' ⟨v, r, C1, τ1, H1, rfl, ⟨rfl, G, rfl⟩, hrel, hst, hstep⟩
    have hmem : ∀ {id : Nat} {o : AObj}, H[id]? = some o → (H ++ G)[id]? = some o := fun h => by rw [List.getElem?_append_left (List.getElem?_eq_some_iff.1 h).1]; exact h
    have hlt : ∀ {id : Nat}, id < H.length → id < (H ++ G).length := fun h => by rw [List.length_append]; omega
    have hτ : ∀ {id : Nat} {o : AObj}, H[id]? = some o → τ1 id = τ id := by
      intro id o ho
      obtain ⟨o', h1, h2⟩ := hstep.obj id o ho
      rw [hmem ho] at h1
      cases h1
      cases o with
      | arr esz es => exact h2.2.2 rfl
      | iter s p => exact h2
    refine ⟨v, r, C1, τ1, H, rfl, ⟨rfl, rfl⟩, hrel.scalar hR, ⟨⟨fun id o h => hst.wf.ok id o (hmem h), fun id o h => hst.wf.virt id o (hmem h), fun id o l h1 h2 => ?_, fun id l h1 => hst.wf.comm id l (hlt h1), fun i j li lj h1 h2 => hst.wf.inj i j li lj (hlt h1) (hlt h2), hst.wf.lt⟩,
      hst.fr, fun b ⟨id, l, h1, h2, h3⟩ => hst.own b ⟨id, l, hlt h1, h2, h3⟩, hst.plt⟩, ⟨hstep.le, hstep.cell, fun id o ho => ?_, hstep.grow, hstep.old⟩⟩
    · have hob := hst.wf.objs id o l (hmem h1) h2
      have hob0 := hw.objs id o l h1 (by rw [← hτ h1]; exact h2)
      cases o with
      | iter s p => exact hob
      | arr esz es =>
        obtain ⟨g1, cells, elem, fz, g2, g3, g4, g5⟩ := hob
        obtain ⟨_, _, _, _, _, _, _, k5⟩ := hob0
        refine ⟨g1, cells, elem, fz, g2, g3, g4, fun i j e d he hd => ?_⟩
        obtain ⟨u, hu, hru⟩ := g5 i j e d he hd
        obtain ⟨u0, _, hru0⟩ := k5 i j e d he hd
        exact ⟨u, hu, hru.narrow ⟨u0, hru0⟩⟩
    · obtain ⟨o', h1, h2⟩ := hstep.obj id o ho
      rw [hmem ho] at h1
      cases h1
      exact ⟨o, ho, h2⟩
  unfold CallsX at hc ⊢
  split at hc
  · exact Calls.mono hc fun e w' hh => fin e w' hh
  · exact fin _ _ hc
  · exact hc
end
end Go.AW
