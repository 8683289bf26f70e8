/-
  An abstract machine over the model, the code of functions on it, and their contracts: what the claim needs.
  No condition: definitions, plain laws, contracts over any program that has this code.
-/
import Derived.Test.YtmomepfdfmjceaaZ1
set_option linter.all false
namespace Go.AW
section
variable {P : Program} {C C' : Nat → Nat} {τ τ' : Nat → Option Loc} {H H' : List AObj} {w w' : World}
inductive Wk : AVal → AVal → Prop where
  | refl (a : AVal) : Wk a a
  | nil (x : Bool) (sz : Nat) : Wk .nil (.list x sz [])
  | list (x y : Bool) (sz : Nat) (es : List (List AVal)) (h : y = true → x = true) : Wk (.list x sz es) (.list y sz es)
  | agg (as bs : List AVal) (hl : as.length = bs.length) (h : ∀ (i : Nat) (a b : AVal), as[i]? = some a → bs[i]? = some b → Wk a b) : Wk (.agg as) (.agg bs)

theorem Rd.weak {a b : AVal} {v : Value} (h : Rd C w a v) (hw : Wk a b) : Rd C w b v := by
  cases hw with
  | refl => exact h
  | nil x sz => cases h; exact .list0 x sz none 0 (fun _ => rfl)
  | list x y sz es hxy =>
    cases h with
    | list0 _ _ a cap hx => exact .list0 y sz a cap fun hy => hx (hxy hy)
    | list _ _ _ b off cap vs hx hcap hsz hC hcell hp hrd => exact .list y sz es b off cap vs (fun hy => hx (hxy hy)) hcap hsz hC hcell hp hrd
  | agg => cases h

theorem Rel.weak {a b : AVal} {v : Value} (h : Rel C w τ H a v) (hw : Wk a b) : Rel C w τ H b v := by
  induction hw generalizing v with
  | refl => exact h
  | nil x sz =>
    cases h with
    | rd h => exact .rd (h.weak (.nil x sz))
  | list x y sz es hxy =>
    cases h with
    | rd h => exact .rd (h.weak (.list x y sz es hxy))
  | agg as bs hl h2 ih =>
    cases h with
    | rd h => cases h
    | agg _ vs hlv hv =>
      refine .agg bs vs (by omega) fun i c u hc hu => ?_
      have hi : i < as.length := by have := (List.getElem?_eq_some_iff.1 hc).1; omega
      exact ih i as[i] c (List.getElem?_eq_getElem hi) hc (hv i as[i] u (List.getElem?_eq_getElem hi) hu)

def Wks (as bs : List AVal) : Prop := as.length = bs.length ∧ ∀ (i : Nat) (a b : AVal), as[i]? = some a → bs[i]? = some b → Wk a b

theorem Wks.nil : Wks [] [] := ⟨rfl, fun i a b h => by simp at h⟩

theorem Wks.cons {a b : AVal} {as bs : List AVal} (h : Wk a b) (hs : Wks as bs) : Wks (a :: as) (b :: bs) := by
  refine ⟨by simp [hs.1], fun i x y hx hy => ?_⟩
  cases i with
  | zero => simp at hx hy; subst hx hy; exact h
  | succ i => exact hs.2 i x y (by simpa using hx) (by simpa using hy)

theorem ACalls.weak {f : FuncId} {args bs : List AVal} {Q : AVal → List AObj → Prop} (h : ACalls P f bs H Q) (hw : Wks args bs) : ACalls P f args H Q := by
  intro C τ w vs hwf hl hr
  refine h C τ w vs hwf (by rw [← hw.1]; exact hl) fun i b v hb hv => ?_
  have hi : i < args.length := by have := (List.getElem?_eq_some_iff.1 hb).1; have := hw.1; omega
  exact (hr i args[i] v (List.getElem?_eq_getElem hi) hv).weak (hw.2 i args[i] b (List.getElem?_eq_getElem hi) hb)

def AVal.scalar : AVal → Bool
  | .bool _ | .int _ _ | .str _ => true
  | .tuple vs => vs.all fun v => match v with
    | .bool _ | .int _ _ | .str _ => true
    | .agg cs => cs.all fun c => match c with
      | .bool _ | .int _ _ | .str _ => true
      | _ => false
    | _ => false
  | .agg cs => cs.all fun c => match c with
    | .bool _ | .int _ _ | .str _ => true
    | _ => false
  | _ => false

theorem Rel.flat {c : AVal} {v : Value} (hc : (match c with
    | .bool _ | .int _ _ | .str _ => true
    | _ => false) = true) (h : Rel C w τ H c v) : Rel C' w' τ' H' c v := by
  cases c <;> simp only [] at hc <;> try (cases hc; done)
  all_goals
    cases h with
    | rd h => cases h; first | exact .rd (.bool _) | exact .rd (.int _ _) | exact .rd (.str _)

theorem Rel.flatAgg {cs : List AVal} {v : Value} (hc : (cs.all fun c => match c with
    | .bool _ | .int _ _ | .str _ => true
    | _ => false) = true) (h : Rel C w τ H (.agg cs) v) : Rel C' w' τ' H' (.agg cs) v := by
  cases h with
  | rd h => cases h
  | agg _ vs hl h => exact .agg cs vs hl fun i c u h1 h2 => (h i c u h1 h2).flat (List.all_eq_true.1 hc c (List.mem_of_getElem? h1))

theorem Rel.scalar {a : AVal} {v : Value} (ha : a.scalar = true) (h : Rel C w τ H a v) : Rel C' w' τ' H' a v := by
  cases a <;> simp only [AVal.scalar] at ha <;> try (cases ha; done)
  case bool => exact h.flat rfl
  case int => exact h.flat rfl
  case str => exact h.flat rfl
  case agg => exact h.flatAgg ha
  case tuple cs =>
    cases h with
    | rd h => cases h
    | tuple _ vs hl h =>
      refine .tuple cs vs hl fun i c u h1 h2 => ?_
      have hc := List.all_eq_true.1 ha c (List.mem_of_getElem? h1)
      have := h i c u h1 h2
      cases c <;> simp only [] at hc <;> try (cases hc; done)
      case bool => exact this.flat rfl
      case int => exact this.flat rfl
      case str => exact this.flat rfl
      case agg => exact this.flatAgg hc

inductive Lent (H : List AObj) : AVal → AVal → Prop where
  | same (a : AVal) (h : a.closed = true) : Lent H a a
  | sl (id ep off len sz : Nat) (es : List (List AVal)) (ho : H[id]? = some (.arr sz es)) (hep : ep = es.length) (hp : pureEs es = true) :
      Lent H (.sl id ep off len) (.list false sz ((es.drop off).take len))
  | agg (as bs : List AVal) (hl : as.length = bs.length) (h : ∀ (i : Nat) (a b : AVal), as[i]? = some a → bs[i]? = some b → Lent H a b) : Lent H (.agg as) (.agg bs)

def Lents (H : List AObj) (as bs : List AVal) : Prop := as.length = bs.length ∧ ∀ (i : Nat) (a b : AVal), as[i]? = some a → bs[i]? = some b → Lent H a b

theorem Lents.nil : Lents H [] [] := ⟨rfl, fun i a b h => by simp at h⟩

theorem Lents.cons {a b : AVal} {as bs : List AVal} (h : Lent H a b) (hs : Lents H as bs) : Lents H (a :: as) (b :: bs) := by
  refine ⟨by simp [hs.1], fun i x y hx hy => ?_⟩
  cases i with
  | zero => simp at hx hy; subst hx hy; exact h
  | succ i => exact hs.2 i x y (by simpa using hx) (by simpa using hy)

theorem Lent.rel {a b : AVal} {v : Value} (h : Lent H a b) (hw : WF C τ H w) (hr : Rel C w τ H a v) : Rel (commit C τ H []) w τ [] b v := by
  induction h generalizing v with
  | same a h => exact hr.closed h (commit_le hw) (fun _ _ _ => rfl)
  | sl id ep off len sz es ho hep hp =>
    exact pub_rel (n := 0) (ids := []) (τ2 := τ) (H2 := []) hw (fun k id h => by simp at h) (.frz id ep off len sz es ho hep hp (by simp)) hr
  | agg as bs hl h ih =>
    cases hr with
    | rd h => cases h
    | agg _ vs hlv hv =>
      refine .agg bs vs (by omega) fun i c u hc hu => ?_
      have hi : i < as.length := by have := (List.getElem?_eq_some_iff.1 hc).1; omega
      exact ih i as[i] c (List.getElem?_eq_getElem hi) hc (hv i as[i] u (List.getElem?_eq_getElem hi) hu)

theorem ACalls.bor {f : FuncId} {args bs : List AVal} {R : AVal} (hR : R.scalar = true) (h : ACalls P f bs [] (fun r _ => r = R)) (hl : Lents H args bs) : ACalls P f args H (fun r H' => r = R ∧ H' = H) := by
  intro C τ w vs hw hlen hr
  have hw0 : WF (commit C τ H []) τ [] w := by
    refine ⟨fun id o h => by simp at h, fun id o h => by simp at h, fun id o l h => by simp at h, fun id l h => by simp at h, fun i j li lj h => by simp at h, fun b hb => ?_⟩
    by_cases hex : ∃ id l, id < H.length ∧ τ id = some l ∧ l.b = b
    · obtain ⟨id, l, h1, h2, rfl⟩ := hex
      exact hw.locLt h1 h2
    · rw [commit_other fun id l h1 _ h2 h3 => hex ⟨id, l, h1, h2, h3⟩] at hb
      exact hw.lt b hb
  have hc := h (commit C τ H []) τ w vs hw0 (by rw [← hl.1]; exact hlen) fun i b v hb hv => by
    have hi : i < args.length := by have := (List.getElem?_eq_some_iff.1 hb).1; have := hl.1; omega
    exact (hl.2 i args[i] b (List.getElem?_eq_getElem hi) hb).rel hw (hr i args[i] v (List.getElem?_eq_getElem hi) hv)
  have fin : ∀ (e : Ending) (w' : World), (∃ v r C' τ' H', e = .returned v ∧ r = R ∧ Rel C' w' τ' H' r v ∧ St w (PrCall τ [] w) C' τ' H' w' ∧ Step (commit C τ H []) τ [] w C' τ' H' w') →
      ∃ v r C' τ' H', e = .returned v ∧ (r = R ∧ H' = H) ∧ Rel C' w' τ' H' r v ∧ St w (PrCall τ H w) C' τ' H' w' ∧ Step C τ H w C' τ' H' w' := by
    rintro e w' ⟨v, r, C1, τ1, H1, rfl, rfl, hrel, hst, hstep⟩
    have hheap : ∀ b, b < w.heap.size → w'.heap[b]? = w.heap[b]? := fun b hb => hst.fr.prot b ⟨hb, by rintro ⟨id, l, h, _⟩; simp at h⟩
    have step : Step C τ H w C τ H w' := ⟨fun _ => Nat.le_refl _, fun b i hi => cell_heap (hheap b (hw.lt b (by omega))), fun _ o h => ⟨o, h, o.after_refl _⟩, hst.fr.size, fun _ _ => rfl⟩
    have hwf : WF C τ H w' := by
      refine ⟨hw.ok, hw.virt, fun id o l h1 h2 => (hw.objs id o l h1 h2).mono step (hheap _ (hw.locLt (List.getElem?_eq_some_iff.1 h1).1 h2)), hw.comm, hw.inj, fun b hb => ?_⟩
      have := hw.lt b hb
      have := hst.fr.size
      omega
    refine ⟨v, r, C, τ, H, rfl, ⟨rfl, rfl⟩, hrel.scalar hR, ⟨hwf, ⟨hst.fr.os, hst.fr.tape, hst.fr.output, hst.fr.size, fun b hb => hheap b hb.1⟩, fun b ho hp => hp.2 ho, fun b hp => hp.1⟩, step⟩
  unfold CallsX at hc ⊢
  split at hc
  · exact Calls.mono hc fun e w' hh => fin e w' hh
  · exact fin _ _ hc
  · exact hc

theorem Rel.narrow {C1 : Nat → Nat} {w1 : World} {τ1 : Nat → Option Loc} {G : List AObj} {d : AVal} {v : Value} (h : Rel C1 w1 τ1 (H ++ G) d v) : (∃ v0, Rel C w τ H d v0) → Rel C1 w1 τ1 H d v := by
  have get : ∀ {id : Nat} {o o' : AObj}, H[id]? = some o → (H ++ G)[id]? = some o' → H[id]? = some o' := by
    intro id o o' h1 h2
    rw [List.getElem?_append_left (List.getElem?_eq_some_iff.1 h1).1] at h2
    exact h2
  induction h with
  | rd h => exact fun _ => .rd h
  | undef v => exact fun _ => .undef v
  | sl id ep off len a cap esz es ho hep h =>
    rintro ⟨v0, h0⟩
    cases h0 with
    | rd h0 => cases h0
    | sl _ _ _ _ a0 cap0 esz0 es0 ho0 hep0 h0 => exact .sl id ep off len a cap esz es (get ho0 ho) hep h
  | ptr id ep idx fld a esz es ho hep h =>
    rintro ⟨v0, h0⟩
    cases h0 with
    | rd h0 => cases h0
    | ptr _ _ _ _ a0 esz0 es0 ho0 hep0 h0 => exact .ptr id ep idx fld a esz es (get ho0 ho) hep h
  | it id s pos l ho ht =>
    rintro ⟨v0, h0⟩
    cases h0 with
    | rd h0 => cases h0
    | it _ s0 p0 l0 ho0 ht0 => exact .it id s pos l (get ho0 ho) ht
  | agg cs vs hl h ih =>
    rintro ⟨v0, h0⟩
    cases h0 with
    | rd h0 => cases h0
    | agg _ vs0 hl0 h0 => exact .agg cs vs hl fun i c u hc hu => ih i c u hc hu ⟨_, h0 i c vs0[i]! hc (by have := (List.getElem?_eq_some_iff.1 hc).1; rw [getElem!_pos vs0 i (by omega)]; exact Array.getElem?_eq_getElem (by omega))⟩
  | tuple cs vs hl h ih =>
    rintro ⟨v0, h0⟩
    cases h0 with
    | rd h0 => cases h0
    | tuple _ vs0 hl0 h0 => exact .tuple cs vs hl fun i c u hc hu => ih i c u hc hu ⟨_, h0 i c vs0[i]! hc (by have := (List.getElem?_eq_some_iff.1 hc).1; rw [getElem!_pos vs0 i (by omega)]; exact Array.getElem?_eq_getElem (by omega))⟩
  | fn f cs vs hl h ih =>
    rintro ⟨v0, h0⟩
    cases h0 with
    | rd h0 =>
      cases h0
      exact .fn f [] vs hl fun i c u hc => by simp at hc
    | fn _ _ vs0 hl0 h0 => exact .fn f cs vs hl fun i c u hc hu => ih i c u hc hu ⟨_, h0 i c vs0[i]! hc (by have := (List.getElem?_eq_some_iff.1 hc).1; rw [getElem!_pos vs0 i (by omega)]; exact Array.getElem?_eq_getElem (by omega))⟩

theorem ACalls.drop {f : FuncId} {args : List AVal} {R : AVal} (hR : R.scalar = true) (h : ACalls P f args H (fun r H' => r = R ∧ ∃ G, H' = H ++ G)) : ACalls P f args H (fun r H' => r = R ∧ H' = H) := by
  intro C τ w vs hw hlen hr
  have hc := h C τ w vs hw hlen hr
  have fin : ∀ (e : Ending) (w' : World), (∃ v r C' τ' H', e = .returned v ∧ (r = R ∧ ∃ G, H' = H ++ G) ∧ Rel C' w' τ' H' r v ∧ St w (PrCall τ H w) C' τ' H' w' ∧ Step C τ H w C' τ' H' w') →
      ∃ v r C' τ' H', e = .returned v ∧ (r = R ∧ H' = H) ∧ Rel C' w' τ' H' r v ∧ St w (PrCall τ H w) C' τ' H' w' ∧ Step C τ H w C' τ' H' w' := by
    rintro e w' ⟨v, r, C1, τ1, H1, rfl, ⟨rfl, G, rfl⟩, hrel, hst, hstep⟩
    have hmem : ∀ {id : Nat} {o : AObj}, H[id]? = some o → (H ++ G)[id]? = some o := fun h => by rw [List.getElem?_append_left (List.getElem?_eq_some_iff.1 h).1]; exact h
    have hlt : ∀ {id : Nat}, id < H.length → id < (H ++ G).length := fun h => by rw [List.length_append]; omega
    have hτ : ∀ {id : Nat} {o : AObj}, H[id]? = some o → τ1 id = τ id := by
      intro id o ho
      obtain ⟨o', h1, h2⟩ := hstep.obj id o ho
      rw [hmem ho] at h1
      cases h1
      cases o with
      | arr esz es => exact h2.2.2 rfl
      | iter s p => exact h2
    refine ⟨v, r, C1, τ1, H, rfl, ⟨rfl, rfl⟩, hrel.scalar hR, ⟨⟨fun id o h => hst.wf.ok id o (hmem h), fun id o h => hst.wf.virt id o (hmem h), fun id o l h1 h2 => ?_, fun id l h1 => hst.wf.comm id l (hlt h1), fun i j li lj h1 h2 => hst.wf.inj i j li lj (hlt h1) (hlt h2), hst.wf.lt⟩,
      hst.fr, fun b ⟨id, l, h1, h2, h3⟩ => hst.own b ⟨id, l, hlt h1, h2, h3⟩, hst.plt⟩, ⟨hstep.le, hstep.cell, fun id o ho => ?_, hstep.grow, hstep.old⟩⟩
    · have hob := hst.wf.objs id o l (hmem h1) h2
      have hob0 := hw.objs id o l h1 (by rw [← hτ h1]; exact h2)
      cases o with
      | iter s p => exact hob
      | arr esz es =>
        obtain ⟨g1, cells, elem, fz, g2, g3, g4, g5⟩ := hob
        obtain ⟨_, _, _, _, _, _, _, k5⟩ := hob0
        refine ⟨g1, cells, elem, fz, g2, g3, g4, fun i j e d he hd => ?_⟩
        obtain ⟨u, hu, hru⟩ := g5 i j e d he hd
        obtain ⟨u0, _, hru0⟩ := k5 i j e d he hd
        exact ⟨u, hu, hru.narrow ⟨u0, hru0⟩⟩
    · obtain ⟨o', h1, h2⟩ := hstep.obj id o ho
      rw [hmem ho] at h1
      cases h1
      exact ⟨o, ho, h2⟩
  unfold CallsX at hc ⊢
  split at hc
  · exact Calls.mono hc fun e w' hh => fin e w' hh
  · exact fin _ _ hc
  · exact hc

end
end Go.AW

namespace Go.AW
def c_warehousebase_Moment : AFunc := ⟨29, [.tmp 2],
  (.seq
  (.region [
    ⟨(some 2), .move (.c (.int .i64 0)), none⟩])
  (.seq
  (.region [
    ⟨(some 3), .move (.t 0), none⟩,
    ⟨(some 4), .bin .and (.t 3) (.c (.int .i64 65535)), none⟩,
    ⟨(some 0), .move (.t 4), none⟩])
  (.seq
  (.seq
  (.region [
    ⟨(some 5), .move (.t 0), none⟩,
    ⟨(some 6), .bin .shr (.t 5) (.c (.int .u64 8)), none⟩,
    ⟨(some 7), .bin .and (.t 6) (.c (.int .i64 15)), none⟩,
    ⟨(some 8), .bin .eql (.t 7) (.c (.int .i64 0)), none⟩])
  (.cond (.t 8)
    (.seq
    (.region [
      ⟨(some 9), .buildSlice 1 6 [(.int .i64 0)] [(0, (.c (.int .i64 0))), (1, (.c (.int .i64 1))), (2, (.c (.int .i64 575999999))), (3, (.c (.int .i64 575999998))), (4, (.c (.int .i64 1439))), (5, (.c (.int .i64 1440)))], none⟩,
      ⟨(some 10), .move (.t 0), none⟩,
      ⟨(some 11), .bin .rem (.t 10) (.c (.int .i64 6)), none⟩,
      ⟨(some 12), .indexAddr 1 (.t 9) (.t 11), none⟩,
      ⟨(some 13), .load false 1 (.t 12), none⟩,
      ⟨(some 2), .move (.t 13), none⟩])
    .ret)
    .skip))
  (.seq
  (.region [
    ⟨(some 14), .move (.t 0), none⟩,
    ⟨(some 15), .bin .shr (.t 14) (.c (.int .u64 3)), none⟩,
    ⟨(some 16), .bin .and (.t 15) (.c (.int .i64 3)), none⟩,
    ⟨(some 17), .bin .mul (.t 16) (.c (.int .i64 1440)), none⟩,
    ⟨(some 18), .bin .add (.c (.int .i64 144000)) (.t 17), none⟩,
    ⟨(some 19), .move (.t 0), none⟩,
    ⟨(some 20), .bin .rem (.t 19) (.c (.int .i64 7)), none⟩,
    ⟨(some 21), .bin .mul (.t 20) (.c (.int .i64 200)), none⟩,
    ⟨(some 22), .bin .add (.t 18) (.t 21), none⟩,
    ⟨(some 23), .move (.t 0), none⟩,
    ⟨(some 24), .bin .shr (.t 23) (.c (.int .u64 5)), none⟩,
    ⟨(some 25), .bin .and (.t 24) (.c (.int .i64 1)), none⟩,
    ⟨(some 26), .bin .mul (.t 25) (.c (.int .i64 1439)), none⟩,
    ⟨(some 27), .bin .add (.t 22) (.t 26), none⟩,
    ⟨(some 28), .bin .sub (.t 27) (.c (.int .i64 600)), none⟩,
    ⟨(some 2), .move (.t 28), none⟩])
  .ret))))⟩

structure F_warehousebase_Moment (P : Program) where
  id : FuncId
  has : Has P id [] c_warehousebase_Moment

def c_warehousebase_Value (f_warehousebase_Moment : FuncId) : AFunc := ⟨48, [.cell true 3 4],
  (.seq
  (.region [
    ⟨(some 4), .alloc [(.int .i64 0), (.int .i64 0), (.str (bs []))], none⟩])
  (.seq
  (.region [
    ⟨(some 6), .move (.t 1), none⟩,
    ⟨(some 7), .bin .and (.t 6) (.c (.int .i64 65535)), none⟩,
    ⟨(some 1), .move (.t 7), none⟩])
  (.seq
  (.seq
  (.region [
    ⟨(some 8), .move (.t 0), none⟩])
  (.block 0
    (.seq
    (.region [
      ⟨(some 10), .bin .eql (.t 8) (.c (.int .i64 1)), none⟩,
      ⟨(some 9), .move (.t 10), none⟩])
    (.cond (.t 9)
      (.seq
      (.region [
        ⟨(some 11), .move (.t 1), none⟩,
        ⟨(some 12), .bin .and (.t 11) (.c (.int .i64 1)), none⟩,
        ⟨(some 13), .build [(.int .i64 0), (.int .i64 0), (.str (bs []))] [(0, 1, (.c (.int .i64 1))), (1, 1, (.t 12))], none⟩,
        ⟨none, .store 3 (.t 4) (.t 13), none⟩])
      .ret)
      (.seq
      (.region [
        ⟨(some 15), .bin .eql (.t 8) (.c (.int .i64 2)), none⟩,
        ⟨(some 14), .move (.t 15), none⟩])
      (.cond (.t 14)
        (.seq
        (.region [
          ⟨(some 16), .move (.t 1), none⟩,
          ⟨(some 17), .bin .rem (.t 16) (.c (.int .i64 7)), none⟩,
          ⟨(some 18), .bin .sub (.t 17) (.c (.int .i64 2)), none⟩,
          ⟨(some 5), .move (.t 18), none⟩])
        (.seq
        (.seq
        (.region [
          ⟨(some 19), .move (.t 1), none⟩,
          ⟨(some 20), .bin .shr (.t 19) (.c (.int .u64 8)), none⟩,
          ⟨(some 21), .bin .and (.t 20) (.c (.int .i64 31)), none⟩])
        (.block 1
          (.seq
          (.region [
            ⟨(some 23), .bin .eql (.t 21) (.c (.int .i64 0)), none⟩,
            ⟨(some 22), .move (.t 23), none⟩])
          (.cond (.t 22)
            (.region [
              ⟨(some 24), .move (.t 1), none⟩,
              ⟨(some 25), .bin .and (.t 24) (.c (.int .i64 1)), none⟩,
              ⟨(some 26), .bin .sub (.c (.int .i64 1073741824)) (.t 25), none⟩,
              ⟨(some 5), .move (.t 26), none⟩])
            (.seq
            (.region [
              ⟨(some 28), .bin .eql (.t 21) (.c (.int .i64 1)), none⟩,
              ⟨(some 27), .move (.t 28), none⟩])
            (.cond (.t 27)
              (.region [
                ⟨(some 29), .move (.t 1), none⟩,
                ⟨(some 30), .bin .and (.t 29) (.c (.int .i64 3)), none⟩,
                ⟨(some 31), .bin .sub (.t 30) (.c (.int .i64 1073741824)), none⟩,
                ⟨(some 5), .move (.t 31), none⟩])
              .skip))))))
        (.seq
        (.region [
          ⟨(some 32), .move (.t 5), none⟩,
          ⟨(some 33), .build [(.int .i64 0), (.int .i64 0), (.str (bs []))] [(0, 1, (.c (.int .i64 2))), (1, 1, (.t 32))], none⟩,
          ⟨none, .store 3 (.t 4) (.t 33), none⟩])
        .ret)))
        (.seq
        (.region [
          ⟨(some 35), .bin .eql (.t 8) (.c (.int .i64 3)), none⟩,
          ⟨(some 34), .move (.t 35), none⟩])
        (.cond (.t 34)
          (.seq
          (.region [
            ⟨(some 36), .buildSlice 1 6 [(.str (bs []))] [(0, (.c (.str (bs [97])))), (1, (.c (.str (bs [98])))), (2, (.c (.str (bs [99])))), (3, (.c (.str (bs [])))), (4, (.c (.str (bs [105, 116, 39, 115])))), (5, (.c (.str (bs [97, 32, 98]))))], none⟩,
            ⟨(some 37), .move (.t 1), none⟩,
            ⟨(some 38), .bin .rem (.t 37) (.c (.int .i64 6)), none⟩,
            ⟨(some 39), .indexAddr 1 (.t 36) (.t 38), none⟩,
            ⟨(some 40), .load false 1 (.t 39), none⟩,
            ⟨(some 41), .build [(.int .i64 0), (.int .i64 0), (.str (bs []))] [(0, 1, (.c (.int .i64 3))), (2, 1, (.t 40))], none⟩,
            ⟨none, .store 3 (.t 4) (.t 41), none⟩])
          .ret)
          (.seq
          (.region [
            ⟨(some 43), .bin .eql (.t 8) (.c (.int .i64 4)), none⟩,
            ⟨(some 42), .move (.t 43), none⟩])
          (.cond (.t 42)
            (.seq
            (.region [
              ⟨(some 44), .move (.t 1), none⟩,
              ⟨(some 45), .call f_warehousebase_Moment [(.t 44)], none⟩,
              ⟨(some 46), .build [(.int .i64 0), (.int .i64 0), (.str (bs []))] [(0, 1, (.c (.int .i64 4))), (1, 1, (.t 45))], none⟩,
              ⟨none, .store 3 (.t 4) (.t 46), none⟩])
            .ret)
            .skip))))))))))
  (.seq
  (.region [
    ⟨(some 47), .build [(.int .i64 0), (.int .i64 0), (.str (bs []))] [], none⟩,
    ⟨none, .store 3 (.t 4) (.t 47), none⟩])
  .ret))))⟩

structure F_warehousebase_Value (P : Program) where
  id : FuncId
  warehousebase_Moment : F_warehousebase_Moment P
  has : Has P id [] (c_warehousebase_Value warehousebase_Moment.id)

def c_value_Valid : AFunc := ⟨66, [.tmp 2],
  (.seq
  (.region [
    ⟨(some 1), .box (.t 0), none⟩,
    ⟨(some 2), .move (.c (.bool false)), none⟩])
  (.seq
  (.seq
  (.region [
    ⟨(some 3), .fieldAddr 0 (.t 1), none⟩,
    ⟨(some 4), .load false 1 (.t 3), none⟩])
  (.block 0
    (.seq
    (.region [
      ⟨(some 6), .bin .eql (.t 4) (.c (.int .i64 0)), none⟩,
      ⟨(some 5), .move (.t 6), none⟩])
    (.cond (.t 5)
      (.seq
      (.region [
        ⟨(some 7), .load true 3 (.t 1), none⟩,
        ⟨(some 8), .build [(.int .i64 0), (.int .i64 0), (.str (bs []))] [], none⟩,
        ⟨(some 9), .eqs false [1, 1, 2] (.t 7) (.t 8), none⟩,
        ⟨(some 2), .move (.t 9), none⟩])
      .ret)
      (.seq
      (.region [
        ⟨(some 11), .bin .eql (.t 4) (.c (.int .i64 1)), none⟩,
        ⟨(some 10), .move (.t 11), none⟩])
      (.cond (.t 10)
        (.seq
        (.region [
          ⟨(some 12), .fieldAddr 2 (.t 1), none⟩,
          ⟨(some 13), .load false 1 (.t 12), none⟩,
          ⟨(some 14), .bin .eql (.t 13) (.c (.str (bs []))), none⟩,
          ⟨(some 15), .move (.t 14), none⟩,
          ⟨(some 16), .fieldAddr 1 (.t 1), some (some 15, true)⟩,
          ⟨(some 17), .load false 1 (.t 16), some (some 15, true)⟩,
          ⟨(some 18), .bin .eql (.t 17) (.c (.int .i64 0)), some (some 15, true)⟩,
          ⟨(some 19), .move (.t 18), some (some 15, true)⟩,
          ⟨(some 20), .fieldAddr 1 (.t 1), some (some 19, false)⟩,
          ⟨(some 21), .load false 1 (.t 20), some (some 19, false)⟩,
          ⟨(some 22), .bin .eql (.t 21) (.c (.int .i64 1)), some (some 19, false)⟩,
          ⟨(some 23), .pick (.t 19) (.c (.bool true)) (.t 22), some (some 15, true)⟩,
          ⟨(some 24), .pick (.t 15) (.t 23) (.c (.bool false)), none⟩,
          ⟨(some 2), .move (.t 24), none⟩])
        .ret)
        (.seq
        (.region [
          ⟨(some 26), .bin .eql (.t 4) (.c (.int .i64 2)), none⟩,
          ⟨(some 25), .move (.t 26), none⟩])
        (.cond (.t 25)
          (.seq
          (.region [
            ⟨(some 27), .fieldAddr 2 (.t 1), none⟩,
            ⟨(some 28), .load false 1 (.t 27), none⟩,
            ⟨(some 29), .bin .eql (.t 28) (.c (.str (bs []))), none⟩,
            ⟨(some 30), .move (.t 29), none⟩,
            ⟨(some 31), .fieldAddr 1 (.t 1), some (some 30, true)⟩,
            ⟨(some 32), .load false 1 (.t 31), some (some 30, true)⟩,
            ⟨(some 33), .bin .geq (.t 32) (.c (.int .i64 (-1073741824))), some (some 30, true)⟩,
            ⟨(some 34), .pick (.t 30) (.t 33) (.c (.bool false)), none⟩,
            ⟨(some 35), .move (.t 34), none⟩,
            ⟨(some 36), .fieldAddr 1 (.t 1), some (some 35, true)⟩,
            ⟨(some 37), .load false 1 (.t 36), some (some 35, true)⟩,
            ⟨(some 38), .bin .leq (.t 37) (.c (.int .i64 1073741824)), some (some 35, true)⟩,
            ⟨(some 39), .pick (.t 35) (.t 38) (.c (.bool false)), none⟩,
            ⟨(some 2), .move (.t 39), none⟩])
          .ret)
          (.seq
          (.region [
            ⟨(some 41), .bin .eql (.t 4) (.c (.int .i64 3)), none⟩,
            ⟨(some 40), .move (.t 41), none⟩])
          (.cond (.t 40)
            (.seq
            (.region [
              ⟨(some 42), .fieldAddr 1 (.t 1), none⟩,
              ⟨(some 43), .load false 1 (.t 42), none⟩,
              ⟨(some 44), .bin .eql (.t 43) (.c (.int .i64 0)), none⟩,
              ⟨(some 45), .move (.t 44), none⟩,
              ⟨(some 46), .fieldAddr 2 (.t 1), some (some 45, true)⟩,
              ⟨(some 47), .load false 1 (.t 46), some (some 45, true)⟩,
              ⟨(some 48), .lenS (.t 47), some (some 45, true)⟩,
              ⟨(some 49), .bin .leq (.t 48) (.c (.int .i64 64)), some (some 45, true)⟩,
              ⟨(some 50), .pick (.t 45) (.t 49) (.c (.bool false)), none⟩,
              ⟨(some 2), .move (.t 50), none⟩])
            .ret)
            (.seq
            (.region [
              ⟨(some 52), .bin .eql (.t 4) (.c (.int .i64 4)), none⟩,
              ⟨(some 51), .move (.t 52), none⟩])
            (.cond (.t 51)
              (.seq
              (.region [
                ⟨(some 53), .fieldAddr 2 (.t 1), none⟩,
                ⟨(some 54), .load false 1 (.t 53), none⟩,
                ⟨(some 55), .bin .eql (.t 54) (.c (.str (bs []))), none⟩,
                ⟨(some 56), .move (.t 55), none⟩,
                ⟨(some 57), .fieldAddr 1 (.t 1), some (some 56, true)⟩,
                ⟨(some 58), .load false 1 (.t 57), some (some 56, true)⟩,
                ⟨(some 59), .bin .geq (.t 58) (.c (.int .i64 0)), some (some 56, true)⟩,
                ⟨(some 60), .pick (.t 56) (.t 59) (.c (.bool false)), none⟩,
                ⟨(some 61), .move (.t 60), none⟩,
                ⟨(some 62), .fieldAddr 1 (.t 1), some (some 61, true)⟩,
                ⟨(some 63), .load false 1 (.t 62), some (some 61, true)⟩,
                ⟨(some 64), .bin .leq (.t 63) (.c (.int .i64 575999999)), some (some 61, true)⟩,
                ⟨(some 65), .pick (.t 61) (.t 64) (.c (.bool false)), none⟩,
                ⟨(some 2), .move (.t 65), none⟩])
              .ret)
              .skip))))))))))))
  (.seq
  (.region [
    ⟨(some 2), .move (.c (.bool false)), none⟩])
  .ret)))⟩

structure F_value_Valid (P : Program) where
  id : FuncId
  has : Has P id [] c_value_Valid

def c_warehouseref1_Valid : AFunc := ⟨71, [.tmp 2],
  (.seq
  (.region [
    ⟨(some 1), .box (.t 0), none⟩,
    ⟨(some 2), .move (.c (.bool false)), none⟩])
  (.seq
  (.seq
  (.region [
    ⟨(some 3), .fieldAddr 0 (.t 1), none⟩,
    ⟨(some 4), .load false 1 (.t 3), none⟩])
  (.block 0
    (.seq
    (.region [
      ⟨(some 6), .bin .eql (.t 4) (.c (.int .i64 0)), none⟩,
      ⟨(some 5), .move (.t 6), none⟩])
    (.cond (.t 5)
      (.seq
      (.region [
        ⟨(some 7), .fieldAddr 1 (.t 1), none⟩,
        ⟨(some 8), .load false 1 (.t 7), none⟩,
        ⟨(some 9), .bin .eql (.t 8) (.c (.int .i64 0)), none⟩,
        ⟨(some 10), .move (.t 9), none⟩,
        ⟨(some 11), .fieldAddr 2 (.t 1), some (some 10, true)⟩,
        ⟨(some 12), .load false 1 (.t 11), some (some 10, true)⟩,
        ⟨(some 13), .bin .eql (.t 12) (.c (.str (bs []))), some (some 10, true)⟩,
        ⟨(some 14), .pick (.t 10) (.t 13) (.c (.bool false)), none⟩,
        ⟨(some 2), .move (.t 14), none⟩])
      .ret)
      (.seq
      (.region [
        ⟨(some 16), .bin .eql (.t 4) (.c (.int .i64 1)), none⟩,
        ⟨(some 15), .move (.t 16), none⟩])
      (.cond (.t 15)
        (.seq
        (.region [
          ⟨(some 17), .fieldAddr 1 (.t 1), none⟩,
          ⟨(some 18), .load false 1 (.t 17), none⟩,
          ⟨(some 19), .bin .eql (.t 18) (.c (.int .i64 0)), none⟩,
          ⟨(some 20), .move (.t 19), none⟩,
          ⟨(some 21), .fieldAddr 1 (.t 1), some (some 20, false)⟩,
          ⟨(some 22), .load false 1 (.t 21), some (some 20, false)⟩,
          ⟨(some 23), .bin .eql (.t 22) (.c (.int .i64 1)), some (some 20, false)⟩,
          ⟨(some 24), .pick (.t 20) (.c (.bool true)) (.t 23), none⟩,
          ⟨(some 25), .move (.t 24), none⟩,
          ⟨(some 26), .fieldAddr 2 (.t 1), some (some 25, true)⟩,
          ⟨(some 27), .load false 1 (.t 26), some (some 25, true)⟩,
          ⟨(some 28), .bin .eql (.t 27) (.c (.str (bs []))), some (some 25, true)⟩,
          ⟨(some 29), .pick (.t 25) (.t 28) (.c (.bool false)), none⟩,
          ⟨(some 2), .move (.t 29), none⟩])
        .ret)
        (.seq
        (.region [
          ⟨(some 31), .bin .eql (.t 4) (.c (.int .i64 2)), none⟩,
          ⟨(some 30), .move (.t 31), none⟩])
        (.cond (.t 30)
          (.seq
          (.region [
            ⟨(some 32), .fieldAddr 1 (.t 1), none⟩,
            ⟨(some 33), .load false 1 (.t 32), none⟩,
            ⟨(some 34), .bin .geq (.t 33) (.c (.int .i64 (-1073741824))), none⟩,
            ⟨(some 35), .move (.t 34), none⟩,
            ⟨(some 36), .fieldAddr 1 (.t 1), some (some 35, true)⟩,
            ⟨(some 37), .load false 1 (.t 36), some (some 35, true)⟩,
            ⟨(some 38), .bin .leq (.t 37) (.c (.int .i64 1073741824)), some (some 35, true)⟩,
            ⟨(some 39), .pick (.t 35) (.t 38) (.c (.bool false)), none⟩,
            ⟨(some 40), .move (.t 39), none⟩,
            ⟨(some 41), .fieldAddr 2 (.t 1), some (some 40, true)⟩,
            ⟨(some 42), .load false 1 (.t 41), some (some 40, true)⟩,
            ⟨(some 43), .bin .eql (.t 42) (.c (.str (bs []))), some (some 40, true)⟩,
            ⟨(some 44), .pick (.t 40) (.t 43) (.c (.bool false)), none⟩,
            ⟨(some 2), .move (.t 44), none⟩])
          .ret)
          (.seq
          (.region [
            ⟨(some 46), .bin .eql (.t 4) (.c (.int .i64 3)), none⟩,
            ⟨(some 45), .move (.t 46), none⟩])
          (.cond (.t 45)
            (.seq
            (.region [
              ⟨(some 47), .fieldAddr 1 (.t 1), none⟩,
              ⟨(some 48), .load false 1 (.t 47), none⟩,
              ⟨(some 49), .bin .eql (.t 48) (.c (.int .i64 0)), none⟩,
              ⟨(some 50), .move (.t 49), none⟩,
              ⟨(some 51), .fieldAddr 2 (.t 1), some (some 50, true)⟩,
              ⟨(some 52), .load false 1 (.t 51), some (some 50, true)⟩,
              ⟨(some 53), .lenS (.t 52), some (some 50, true)⟩,
              ⟨(some 54), .bin .leq (.t 53) (.c (.int .i64 64)), some (some 50, true)⟩,
              ⟨(some 55), .pick (.t 50) (.t 54) (.c (.bool false)), none⟩,
              ⟨(some 2), .move (.t 55), none⟩])
            .ret)
            (.seq
            (.region [
              ⟨(some 57), .bin .eql (.t 4) (.c (.int .i64 4)), none⟩,
              ⟨(some 56), .move (.t 57), none⟩])
            (.cond (.t 56)
              (.seq
              (.region [
                ⟨(some 58), .fieldAddr 1 (.t 1), none⟩,
                ⟨(some 59), .load false 1 (.t 58), none⟩,
                ⟨(some 60), .bin .geq (.t 59) (.c (.int .i64 0)), none⟩,
                ⟨(some 61), .move (.t 60), none⟩,
                ⟨(some 62), .fieldAddr 1 (.t 1), some (some 61, true)⟩,
                ⟨(some 63), .load false 1 (.t 62), some (some 61, true)⟩,
                ⟨(some 64), .bin .leq (.t 63) (.c (.int .i64 575999999)), some (some 61, true)⟩,
                ⟨(some 65), .pick (.t 61) (.t 64) (.c (.bool false)), none⟩,
                ⟨(some 66), .move (.t 65), none⟩,
                ⟨(some 67), .fieldAddr 2 (.t 1), some (some 66, true)⟩,
                ⟨(some 68), .load false 1 (.t 67), some (some 66, true)⟩,
                ⟨(some 69), .bin .eql (.t 68) (.c (.str (bs []))), some (some 66, true)⟩,
                ⟨(some 70), .pick (.t 66) (.t 69) (.c (.bool false)), none⟩,
                ⟨(some 2), .move (.t 70), none⟩])
              .ret)
              .skip))))))))))))
  (.seq
  (.region [
    ⟨(some 2), .move (.c (.bool false)), none⟩])
  .ret)))⟩

structure F_warehouseref1_Valid (P : Program) where
  id : FuncId
  has : Has P id [] c_warehouseref1_Valid

def c_cmp_isNaN_int : AFunc := ⟨6, [.tmp 2],
  (.seq
  (.region [
    ⟨(some 2), .move (.c (.bool false)), none⟩])
  (.seq
  (.region [
    ⟨(some 3), .move (.t 0), none⟩,
    ⟨(some 4), .move (.t 0), none⟩,
    ⟨(some 5), .bin .neq (.t 3) (.t 4), none⟩,
    ⟨(some 2), .move (.t 5), none⟩])
  .ret))⟩

structure F_cmp_isNaN_int (P : Program) where
  id : FuncId
  has : Has P id [] c_cmp_isNaN_int

def c_cmp_Compare_int (f_cmp_isNaN_int : FuncId) : AFunc := ⟨20, [.tmp 4],
  (.seq
  (.region [
    ⟨(some 4), .move (.c (.int .i64 0)), none⟩])
  (.seq
  (.region [
    ⟨(some 7), .move (.t 0), none⟩,
    ⟨(some 8), .call f_cmp_isNaN_int [(.t 7)], none⟩,
    ⟨(some 5), .move (.t 8), none⟩])
  (.seq
  (.region [
    ⟨(some 9), .move (.t 1), none⟩,
    ⟨(some 10), .call f_cmp_isNaN_int [(.t 9)], none⟩,
    ⟨(some 6), .move (.t 10), none⟩])
  (.seq
  (.seq
  (.region [
    ⟨(some 11), .move (.t 5), none⟩])
  (.cond (.t 11)
    (.seq
    (.seq
    (.region [
      ⟨(some 12), .move (.t 6), none⟩])
    (.cond (.t 12)
      (.seq
      (.region [
        ⟨(some 4), .move (.c (.int .i64 0)), none⟩])
      .ret)
      .skip))
    (.seq
    (.region [
      ⟨(some 4), .move (.c (.int .i64 (-1))), none⟩])
    .ret))
    .skip))
  (.seq
  (.seq
  (.region [
    ⟨(some 13), .move (.t 6), none⟩])
  (.cond (.t 13)
    (.seq
    (.region [
      ⟨(some 4), .move (.c (.int .i64 1)), none⟩])
    .ret)
    .skip))
  (.seq
  (.seq
  (.region [
    ⟨(some 14), .move (.t 0), none⟩,
    ⟨(some 15), .move (.t 1), none⟩,
    ⟨(some 16), .bin .lss (.t 14) (.t 15), none⟩])
  (.cond (.t 16)
    (.seq
    (.region [
      ⟨(some 4), .move (.c (.int .i64 (-1))), none⟩])
    .ret)
    .skip))
  (.seq
  (.seq
  (.region [
    ⟨(some 17), .move (.t 0), none⟩,
    ⟨(some 18), .move (.t 1), none⟩,
    ⟨(some 19), .bin .gtr (.t 17) (.t 18), none⟩])
  (.cond (.t 19)
    (.seq
    (.region [
      ⟨(some 4), .move (.c (.int .i64 1)), none⟩])
    .ret)
    .skip))
  (.seq
  (.region [
    ⟨(some 4), .move (.c (.int .i64 0)), none⟩])
  .ret))))))))⟩

structure F_cmp_Compare_int (P : Program) where
  id : FuncId
  cmp_isNaN_int : F_cmp_isNaN_int P
  has : Has P id [] (c_cmp_Compare_int cmp_isNaN_int.id)

def c_cmp_isNaN_string : AFunc := ⟨6, [.tmp 2],
  (.seq
  (.region [
    ⟨(some 2), .move (.c (.bool false)), none⟩])
  (.seq
  (.region [
    ⟨(some 3), .move (.t 0), none⟩,
    ⟨(some 4), .move (.t 0), none⟩,
    ⟨(some 5), .bin .neq (.t 3) (.t 4), none⟩,
    ⟨(some 2), .move (.t 5), none⟩])
  .ret))⟩

structure F_cmp_isNaN_string (P : Program) where
  id : FuncId
  has : Has P id [] c_cmp_isNaN_string

def c_cmp_Compare_string (f_cmp_isNaN_string : FuncId) : AFunc := ⟨20, [.tmp 4],
  (.seq
  (.region [
    ⟨(some 4), .move (.c (.int .i64 0)), none⟩])
  (.seq
  (.region [
    ⟨(some 7), .move (.t 0), none⟩,
    ⟨(some 8), .call f_cmp_isNaN_string [(.t 7)], none⟩,
    ⟨(some 5), .move (.t 8), none⟩])
  (.seq
  (.region [
    ⟨(some 9), .move (.t 1), none⟩,
    ⟨(some 10), .call f_cmp_isNaN_string [(.t 9)], none⟩,
    ⟨(some 6), .move (.t 10), none⟩])
  (.seq
  (.seq
  (.region [
    ⟨(some 11), .move (.t 5), none⟩])
  (.cond (.t 11)
    (.seq
    (.seq
    (.region [
      ⟨(some 12), .move (.t 6), none⟩])
    (.cond (.t 12)
      (.seq
      (.region [
        ⟨(some 4), .move (.c (.int .i64 0)), none⟩])
      .ret)
      .skip))
    (.seq
    (.region [
      ⟨(some 4), .move (.c (.int .i64 (-1))), none⟩])
    .ret))
    .skip))
  (.seq
  (.seq
  (.region [
    ⟨(some 13), .move (.t 6), none⟩])
  (.cond (.t 13)
    (.seq
    (.region [
      ⟨(some 4), .move (.c (.int .i64 1)), none⟩])
    .ret)
    .skip))
  (.seq
  (.seq
  (.region [
    ⟨(some 14), .move (.t 0), none⟩,
    ⟨(some 15), .move (.t 1), none⟩,
    ⟨(some 16), .bin .lss (.t 14) (.t 15), none⟩])
  (.cond (.t 16)
    (.seq
    (.region [
      ⟨(some 4), .move (.c (.int .i64 (-1))), none⟩])
    .ret)
    .skip))
  (.seq
  (.seq
  (.region [
    ⟨(some 17), .move (.t 0), none⟩,
    ⟨(some 18), .move (.t 1), none⟩,
    ⟨(some 19), .bin .gtr (.t 17) (.t 18), none⟩])
  (.cond (.t 19)
    (.seq
    (.region [
      ⟨(some 4), .move (.c (.int .i64 1)), none⟩])
    .ret)
    .skip))
  (.seq
  (.region [
    ⟨(some 4), .move (.c (.int .i64 0)), none⟩])
  .ret))))))))⟩

structure F_cmp_Compare_string (P : Program) where
  id : FuncId
  cmp_isNaN_string : F_cmp_isNaN_string P
  has : Has P id [] (c_cmp_Compare_string cmp_isNaN_string.id)

def c_cmp_Or_int : AFunc := ⟨18, [.tmp 2],
  (.seq
  (.region [
    ⟨(some 2), .move (.c (.int .i64 0)), none⟩])
  (.seq
  (.region [
    ⟨(some 3), .move (.c (.int .i64 0)), none⟩])
  (.seq
  (.seq
  (.region [
    ⟨(some 6), .move (.t 0), none⟩,
    ⟨(some 7), .len (.t 6), none⟩,
    ⟨(some 8), .move (.c (.int .i64 0)), none⟩])
  (.block 0
    (.loop
      (.seq
      (.region [
        ⟨(some 9), .bin .lss (.t 8) (.t 7), none⟩])
      (.seq
      (.cond (.t 9)
        .skip
        (.exit 0))
      (.seq
      (.block 1
        (.seq
        (.region [
          ⟨(some 10), .indexAddr 1 (.t 6) (.t 8), none⟩,
          ⟨(some 11), .load false 1 (.t 10), none⟩,
          ⟨(some 5), .move (.t 11), none⟩])
        (.seq
        (.region [
          ⟨(some 12), .move (.t 5), none⟩,
          ⟨(some 13), .move (.t 3), none⟩,
          ⟨(some 14), .bin .neq (.t 12) (.t 13), none⟩])
        (.cond (.t 14)
          (.seq
          (.region [
            ⟨(some 15), .move (.t 5), none⟩,
            ⟨(some 2), .move (.t 15), none⟩])
          .ret)
          .skip))))
      (.region [
        ⟨(some 16), .bin .add (.t 8) (.c (.int .i64 1)), none⟩,
        ⟨(some 8), .move (.t 16), none⟩])))))))
  (.seq
  (.region [
    ⟨(some 17), .move (.t 3), none⟩,
    ⟨(some 2), .move (.t 17), none⟩])
  .ret))))⟩

structure F_cmp_Or_int (P : Program) where
  id : FuncId
  has : Has P id [] c_cmp_Or_int

def c_value_Compare (f_cmp_Compare_int : FuncId) (f_cmp_Compare_string : FuncId) (f_cmp_Or_int : FuncId) : AFunc := ⟨22, [.tmp 4],
  (.seq
  (.region [
    ⟨(some 2), .box (.t 0), none⟩,
    ⟨(some 3), .box (.t 1), none⟩,
    ⟨(some 4), .move (.c (.int .i64 0)), none⟩])
  (.seq
  (.draw [
    (⟨(some 5), .fieldAddr 0 (.t 2), none⟩, []),
    (⟨(some 6), .load false 1 (.t 5), none⟩, []),
    (⟨(some 7), .fieldAddr 0 (.t 3), none⟩, []),
    (⟨(some 8), .load false 1 (.t 7), none⟩, []),
    (⟨(some 9), .call f_cmp_Compare_int [(.t 6), (.t 8)], none⟩, []),
    (⟨(some 10), .fieldAddr 1 (.t 2), none⟩, []),
    (⟨(some 11), .load false 1 (.t 10), none⟩, []),
    (⟨(some 12), .fieldAddr 1 (.t 3), none⟩, []),
    (⟨(some 13), .load false 1 (.t 12), none⟩, []),
    (⟨(some 14), .call f_cmp_Compare_int [(.t 11), (.t 13)], none⟩, []),
    (⟨(some 15), .fieldAddr 2 (.t 2), none⟩, []),
    (⟨(some 16), .load false 1 (.t 15), none⟩, []),
    (⟨(some 17), .fieldAddr 2 (.t 3), none⟩, []),
    (⟨(some 18), .load false 1 (.t 17), none⟩, []),
    (⟨(some 19), .call f_cmp_Compare_string [(.t 16), (.t 18)], none⟩, []),
    (⟨(some 20), .buildSlice 1 3 [(.int .i64 0)] [(0, (.t 9)), (1, (.t 14)), (2, (.t 19))], none⟩, []),
    (⟨(some 21), .call f_cmp_Or_int [(.t 20)], none⟩, []),
    (⟨(some 4), .move (.t 21), none⟩, [])])
  .ret))⟩

structure F_value_Compare (P : Program) where
  id : FuncId
  cmp_Compare_int : F_cmp_Compare_int P
  cmp_Compare_string : F_cmp_Compare_string P
  cmp_Or_int : F_cmp_Or_int P
  has : Has P id [] (c_value_Compare cmp_Compare_int.id cmp_Compare_string.id cmp_Or_int.id)

def c_warehouseref1_numbers : AFunc := ⟨13, [.tmp 4],
  (.seq
  (.region [
    ⟨(some 4), .move (.c (.int .i64 0)), none⟩])
  (.seq
  (.block 0
    (.seq
    (.region [
      ⟨(some 6), .move (.t 0), none⟩,
      ⟨(some 7), .move (.t 1), none⟩,
      ⟨(some 8), .bin .lss (.t 6) (.t 7), none⟩,
      ⟨(some 5), .move (.t 8), none⟩])
    (.cond (.t 5)
      (.seq
      (.region [
        ⟨(some 4), .move (.c (.int .i64 (-1))), none⟩])
      .ret)
      (.seq
      (.region [
        ⟨(some 10), .move (.t 0), none⟩,
        ⟨(some 11), .move (.t 1), none⟩,
        ⟨(some 12), .bin .gtr (.t 10) (.t 11), none⟩,
        ⟨(some 9), .move (.t 12), none⟩])
      (.cond (.t 9)
        (.seq
        (.region [
          ⟨(some 4), .move (.c (.int .i64 1)), none⟩])
        .ret)
        .skip)))))
  (.seq
  (.region [
    ⟨(some 4), .move (.c (.int .i64 0)), none⟩])
  .ret)))⟩

structure F_warehouseref1_numbers (P : Program) where
  id : FuncId
  has : Has P id [] c_warehouseref1_numbers

def c_warehouseref1_Compare (f_warehouseref1_numbers : FuncId) : AFunc := ⟨35, [.tmp 4],
  (.seq
  (.region [
    ⟨(some 2), .box (.t 0), none⟩,
    ⟨(some 3), .box (.t 1), none⟩,
    ⟨(some 4), .move (.c (.int .i64 0)), none⟩])
  (.seq
  (.seq
  (.region [
    ⟨(some 7), .fieldAddr 0 (.t 2), none⟩,
    ⟨(some 8), .load false 1 (.t 7), none⟩,
    ⟨(some 9), .fieldAddr 0 (.t 3), none⟩,
    ⟨(some 10), .load false 1 (.t 9), none⟩,
    ⟨(some 11), .call f_warehouseref1_numbers [(.t 8), (.t 10)], none⟩,
    ⟨(some 5), .move (.t 11), none⟩])
  (.seq
  (.region [
    ⟨(some 12), .move (.t 5), none⟩,
    ⟨(some 13), .bin .neq (.t 12) (.c (.int .i64 0)), none⟩])
  (.cond (.t 13)
    (.seq
    (.region [
      ⟨(some 14), .move (.t 5), none⟩,
      ⟨(some 4), .move (.t 14), none⟩])
    .ret)
    .skip)))
  (.seq
  (.seq
  (.region [
    ⟨(some 15), .fieldAddr 1 (.t 2), none⟩,
    ⟨(some 16), .load false 1 (.t 15), none⟩,
    ⟨(some 17), .fieldAddr 1 (.t 3), none⟩,
    ⟨(some 18), .load false 1 (.t 17), none⟩,
    ⟨(some 19), .call f_warehouseref1_numbers [(.t 16), (.t 18)], none⟩,
    ⟨(some 6), .move (.t 19), none⟩])
  (.seq
  (.region [
    ⟨(some 20), .move (.t 6), none⟩,
    ⟨(some 21), .bin .neq (.t 20) (.c (.int .i64 0)), none⟩])
  (.cond (.t 21)
    (.seq
    (.region [
      ⟨(some 22), .move (.t 6), none⟩,
      ⟨(some 4), .move (.t 22), none⟩])
    .ret)
    .skip)))
  (.seq
  (.block 0
    (.seq
    (.region [
      ⟨(some 24), .fieldAddr 2 (.t 2), none⟩,
      ⟨(some 25), .load false 1 (.t 24), none⟩,
      ⟨(some 26), .fieldAddr 2 (.t 3), none⟩,
      ⟨(some 27), .load false 1 (.t 26), none⟩,
      ⟨(some 28), .bin .lss (.t 25) (.t 27), none⟩,
      ⟨(some 23), .move (.t 28), none⟩])
    (.cond (.t 23)
      (.seq
      (.region [
        ⟨(some 4), .move (.c (.int .i64 (-1))), none⟩])
      .ret)
      (.seq
      (.region [
        ⟨(some 30), .fieldAddr 2 (.t 2), none⟩,
        ⟨(some 31), .load false 1 (.t 30), none⟩,
        ⟨(some 32), .fieldAddr 2 (.t 3), none⟩,
        ⟨(some 33), .load false 1 (.t 32), none⟩,
        ⟨(some 34), .bin .gtr (.t 31) (.t 33), none⟩,
        ⟨(some 29), .move (.t 34), none⟩])
      (.cond (.t 29)
        (.seq
        (.region [
          ⟨(some 4), .move (.c (.int .i64 1)), none⟩])
        .ret)
        .skip)))))
  (.seq
  (.region [
    ⟨(some 4), .move (.c (.int .i64 0)), none⟩])
  .ret)))))⟩

structure F_warehouseref1_Compare (P : Program) where
  id : FuncId
  warehouseref1_numbers : F_warehouseref1_numbers P
  has : Has P id [] (c_warehouseref1_Compare warehouseref1_numbers.id)

def c_warehousebase_At : AFunc := ⟨24, [.tmp 4],
  (.seq
  (.region [
    ⟨(some 4), .move (.c (.int .i64 0)), none⟩])
  (.seq
  (.region [
    ⟨(some 5), .move (.t 1), none⟩,
    ⟨(some 6), .bin .and (.t 5) (.c (.int .i64 65535)), none⟩,
    ⟨(some 1), .move (.t 6), none⟩])
  (.seq
  (.seq
  (.region [
    ⟨(some 7), .move (.t 0), none⟩,
    ⟨(some 8), .len (.t 7), none⟩,
    ⟨(some 9), .bin .eql (.t 8) (.c (.int .i64 0)), none⟩])
  (.cond (.t 9)
    (.seq
    (.region [
      ⟨(some 10), .move (.t 1), none⟩,
      ⟨(some 4), .move (.t 10), none⟩])
    .ret)
    .skip))
  (.seq
  (.draw [
    (⟨(some 11), .move (.t 0), none⟩, []),
    (⟨(some 12), .move (.t 1), none⟩, []),
    (⟨(some 13), .move (.t 0), none⟩, []),
    (⟨(some 14), .len (.t 13), none⟩, []),
    (⟨(some 15), .bin .rem (.t 12) (.t 14), none⟩, []),
    (⟨(some 16), .indexAddr 1 (.t 11) (.t 15), none⟩, []),
    (⟨(some 17), .load false 1 (.t 16), none⟩, []),
    (⟨(some 18), .bin .and (.t 17) (.c (.int .i64 65535)), none⟩, []),
    (⟨(some 19), .move (.t 1), none⟩, []),
    (⟨(some 20), .move (.t 0), none⟩, []),
    (⟨(some 21), .len (.t 20), none⟩, []),
    (⟨(some 22), .bin .quo (.t 19) (.t 21), none⟩, []),
    (⟨(some 23), .bin .add (.t 18) (.t 22), none⟩, []),
    (⟨(some 4), .move (.t 23), none⟩, [])])
  .ret))))⟩

structure F_warehousebase_At (P : Program) where
  id : FuncId
  has : Has P id [] c_warehousebase_At

def c_slices_CompareFunc_LValue_Value : AFunc := ⟨39, [.tmp 6],
  (.seq
  (.region [
    ⟨(some 6), .move (.c (.int .i64 0)), none⟩])
  (.seq
  (.seq
  (.region [
    ⟨(some 11), .move (.t 0), none⟩,
    ⟨(some 12), .len (.t 11), none⟩,
    ⟨(some 13), .move (.c (.int .i64 0)), none⟩])
  (.block 0
    (.loop
      (.seq
      (.region [
        ⟨(some 14), .bin .lss (.t 13) (.t 12), none⟩])
      (.seq
      (.cond (.t 14)
        .skip
        (.exit 0))
      (.seq
      (.block 1
        (.seq
        (.region [
          ⟨(some 15), .move (.t 13), none⟩,
          ⟨(some 16), .indexAddr 3 (.t 11) (.t 13), none⟩,
          ⟨(some 17), .load true 3 (.t 16), none⟩,
          ⟨(some 8), .alloc [(.int .i64 0), (.int .i64 0), (.str (bs []))], none⟩,
          ⟨(some 7), .move (.t 15), none⟩,
          ⟨none, .store 3 (.t 8) (.t 17), none⟩])
        (.seq
        (.seq
        (.region [
          ⟨(some 18), .move (.t 7), none⟩,
          ⟨(some 19), .move (.t 1), none⟩,
          ⟨(some 20), .len (.t 19), none⟩,
          ⟨(some 21), .bin .geq (.t 18) (.t 20), none⟩])
        (.cond (.t 21)
          (.seq
          (.region [
            ⟨(some 6), .move (.c (.int .i64 1)), none⟩])
          .ret)
          .skip))
        (.seq
        (.region [
          ⟨(some 22), .move (.t 1), none⟩,
          ⟨(some 23), .move (.t 7), none⟩,
          ⟨(some 24), .indexAddr 3 (.t 22) (.t 23), none⟩,
          ⟨(some 25), .load true 3 (.t 24), none⟩,
          ⟨(some 9), .alloc [(.int .i64 0), (.int .i64 0), (.str (bs []))], none⟩,
          ⟨none, .store 3 (.t 9) (.t 25), none⟩])
        (.seq
        (.region [
          ⟨(some 26), .move (.t 2), none⟩,
          ⟨(some 27), .load true 3 (.t 8), none⟩,
          ⟨(some 28), .load true 3 (.t 9), none⟩,
          ⟨(some 29), .callv (.t 26) [(.t 27), (.t 28)], none⟩,
          ⟨(some 10), .move (.t 29), none⟩])
        (.seq
        (.region [
          ⟨(some 30), .move (.t 10), none⟩,
          ⟨(some 31), .bin .neq (.t 30) (.c (.int .i64 0)), none⟩])
        (.cond (.t 31)
          (.seq
          (.region [
            ⟨(some 32), .move (.t 10), none⟩,
            ⟨(some 6), .move (.t 32), none⟩])
          .ret)
          .skip)))))))
      (.region [
        ⟨(some 33), .bin .add (.t 13) (.c (.int .i64 1)), none⟩,
        ⟨(some 13), .move (.t 33), none⟩])))))))
  (.seq
  (.seq
  (.region [
    ⟨(some 34), .move (.t 0), none⟩,
    ⟨(some 35), .len (.t 34), none⟩,
    ⟨(some 36), .move (.t 1), none⟩,
    ⟨(some 37), .len (.t 36), none⟩,
    ⟨(some 38), .bin .lss (.t 35) (.t 37), none⟩])
  (.cond (.t 38)
    (.seq
    (.region [
      ⟨(some 6), .move (.c (.int .i64 (-1))), none⟩])
    .ret)
    .skip))
  (.seq
  (.region [
    ⟨(some 6), .move (.c (.int .i64 0)), none⟩])
  .ret))))⟩

structure F_slices_CompareFunc_LValue_Value (P : Program) where
  id : FuncId
  has : Has P id [] c_slices_CompareFunc_LValue_Value

def c_value_CompareRows (f_slices_CompareFunc_LValue_Value : FuncId) (f_value_Compare : FuncId) : AFunc := ⟨8, [.tmp 4],
  (.seq
  (.region [
    ⟨(some 4), .move (.c (.int .i64 0)), none⟩])
  (.seq
  (.region [
    ⟨(some 5), .move (.t 0), none⟩,
    ⟨(some 6), .move (.t 1), none⟩,
    ⟨(some 7), .call f_slices_CompareFunc_LValue_Value [(.t 5), (.t 6), (.c (.fn f_value_Compare []))], none⟩,
    ⟨(some 4), .move (.t 7), none⟩])
  .ret))⟩

structure F_value_CompareRows (P : Program) where
  id : FuncId
  slices_CompareFunc_LValue_Value : F_slices_CompareFunc_LValue_Value P
  value_Compare : F_value_Compare P
  has : Has P id [] (c_value_CompareRows slices_CompareFunc_LValue_Value.id value_Compare.id)

def c_warehouseref1_CompareRows (f_warehouseref1_Compare : FuncId) (f_warehouseref1_numbers : FuncId) : AFunc := ⟨36, [.tmp 4],
  (.seq
  (.region [
    ⟨(some 4), .move (.c (.int .i64 0)), none⟩])
  (.seq
  (.seq
  (.region [
    ⟨(some 5), .move (.c (.int .i64 0)), none⟩])
  (.block 0
    (.loop
      (.seq
      (.seq
      (.region [
        ⟨(some 7), .move (.t 5), none⟩,
        ⟨(some 8), .move (.t 0), none⟩,
        ⟨(some 9), .len (.t 8), none⟩,
        ⟨(some 10), .bin .lss (.t 7) (.t 9), none⟩,
        ⟨(some 11), .move (.t 10), none⟩,
        ⟨(some 12), .move (.t 5), some (some 11, true)⟩,
        ⟨(some 13), .move (.t 1), some (some 11, true)⟩,
        ⟨(some 14), .len (.t 13), some (some 11, true)⟩,
        ⟨(some 15), .bin .lss (.t 12) (.t 14), some (some 11, true)⟩,
        ⟨(some 16), .pick (.t 11) (.t 15) (.c (.bool false)), none⟩])
      (.cond (.t 16)
        .skip
        (.exit 0)))
      (.seq
      (.block 1
        (.seq
        (.draw [
          (⟨(some 19), .move (.t 0), none⟩, []),
          (⟨(some 20), .move (.t 5), none⟩, []),
          (⟨(some 21), .indexAddr 3 (.t 19) (.t 20), none⟩, []),
          (⟨(some 22), .load true 3 (.t 21), none⟩, []),
          (⟨(some 23), .move (.t 1), none⟩, []),
          (⟨(some 24), .move (.t 5), none⟩, []),
          (⟨(some 25), .indexAddr 3 (.t 23) (.t 24), none⟩, []),
          (⟨(some 26), .load true 3 (.t 25), none⟩, []),
          (⟨(some 27), .call f_warehouseref1_Compare [(.t 22), (.t 26)], none⟩, []),
          (⟨(some 6), .move (.t 27), none⟩, [])])
        (.seq
        (.region [
          ⟨(some 28), .move (.t 6), none⟩,
          ⟨(some 29), .bin .neq (.t 28) (.c (.int .i64 0)), none⟩])
        (.cond (.t 29)
          (.seq
          (.region [
            ⟨(some 30), .move (.t 6), none⟩,
            ⟨(some 4), .move (.t 30), none⟩])
          .ret)
          .skip))))
      (.region [
        ⟨(some 17), .move (.t 5), none⟩,
        ⟨(some 18), .bin .add (.t 17) (.c (.int .i64 1)), none⟩,
        ⟨(some 5), .move (.t 18), none⟩]))))))
  (.seq
  (.region [
    ⟨(some 31), .move (.t 0), none⟩,
    ⟨(some 32), .len (.t 31), none⟩,
    ⟨(some 33), .move (.t 1), none⟩,
    ⟨(some 34), .len (.t 33), none⟩,
    ⟨(some 35), .call f_warehouseref1_numbers [(.t 32), (.t 34)], none⟩,
    ⟨(some 4), .move (.t 35), none⟩])
  .ret)))⟩

structure F_warehouseref1_CompareRows (P : Program) where
  id : FuncId
  warehouseref1_Compare : F_warehouseref1_Compare P
  warehouseref1_numbers : F_warehouseref1_numbers P
  has : Has P id [] (c_warehouseref1_CompareRows warehouseref1_Compare.id warehouseref1_numbers.id)

def c_warehouseref1_SameRow (f_warehouseref1_CompareRows : FuncId) : AFunc := ⟨9, [.tmp 4],
  (.seq
  (.region [
    ⟨(some 4), .move (.c (.bool false)), none⟩])
  (.seq
  (.region [
    ⟨(some 5), .move (.t 0), none⟩,
    ⟨(some 6), .move (.t 1), none⟩,
    ⟨(some 7), .call f_warehouseref1_CompareRows [(.t 5), (.t 6)], none⟩,
    ⟨(some 8), .bin .eql (.t 7) (.c (.int .i64 0)), none⟩,
    ⟨(some 4), .move (.t 8), none⟩])
  .ret))⟩

structure F_warehouseref1_SameRow (P : Program) where
  id : FuncId
  warehouseref1_CompareRows : F_warehouseref1_CompareRows P
  has : Has P id [] (c_warehouseref1_SameRow warehouseref1_CompareRows.id)

end Go.AW

