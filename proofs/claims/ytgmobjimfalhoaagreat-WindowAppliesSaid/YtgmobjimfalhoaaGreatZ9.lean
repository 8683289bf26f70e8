/-
  An abstract machine over the model, the code of functions on it, and their contracts: what the claim needs.
  No condition: definitions, plain laws, contracts over any program that has this code.
-/
import Derived.Test.YtgmobjimfalhoaaGreatZ8
set_option linter.all false
namespace Go.AW
variable [Draws]
open Go.Sort
section
variable {P : Program} {β : Type}
structure El1 (C : Nat → Nat) (w : World) (cell : β → AVal) where
  v : Value
  x : β
  one : v.oneCell' = true
  rd : Rd C w (cell x) v

omit [Draws] in
attribute [local instance] upD in

theorem cmpLays1_of {C : Nat → Nat} {w : World} {cell : β → AVal} [Inhabited (El1 C w cell)] {cmp : β → β → Int} {g : FuncId} {caps : List AVal} {cb : Array Value}
    (hcl : caps.length = cb.size) (hcr : ∀ (i : Nat) (c : AVal) (v : Value), caps[i]? = some c → cb[i]? = some v → Rd C w c v)
    (eg : ∀ args w, (callFunc g args).run P w = .ok (.enter g args) w)
    (hg : ∀ x y, @ACalls upD P g ([cell x, cell y] ++ caps) [] (fun r _ => r = .int .i64 (cmp x y)))
    {blk off size : Nat} (hlt : ∀ b, 0 < C b → b < w.heap.size) (hblk : C blk = 0) :
    Go.Proofs.CmpLays1 P g cb (fun e : El1 C w cell => e.v) (fun a b => cmp a.x b.x) blk off size w := by
  intro m os dk hs x y
  obtain ⟨W, hW⟩ : ∃ W, Go.Proofs.sortWorld (fun e : El1 C w cell => e.v) w blk off m dk os = W := ⟨_, rfl⟩
  rw [hW]
  have hsz : w.heap.size ≤ W.heap.size := by
    rw [← hW]
    unfold Go.Proofs.sortWorld Go.Sort.putRow mapBlock Go.Sort.grow Go.Sort.ahead
    simp
  have hcell : ∀ b i, i < C b → W.cell? ⟨b, i, none⟩ = w.cell? ⟨b, i, none⟩ := by
    intro b i hi
    have hb : b < w.heap.size := hlt b (by omega)
    have hbb : b ≠ blk := fun e => by rw [e, hblk] at hi; omega
    refine cell_heap ?_
    rw [← hW]
    unfold Go.Proofs.sortWorld Go.Sort.putRow mapBlock Go.Sort.grow Go.Sort.ahead
    simp only []
    rw [Array.getElem?_append_left (by simp; exact hb), Array.getElem?_modify, if_neg (Ne.symm hbb)]
  have hwf : WF C (fun _ => none) [] W := ⟨fun id o h => by simp at h, fun id o h => by simp at h, fun id o l h => by simp at h, fun id l h => by simp at h, fun i j li lj h => by simp at h, fun b hb => Nat.lt_of_lt_of_le (hlt b hb) hsz⟩
  have h := hg x.x y.x C (fun _ => none) W (#[x.v, y.v] ++ cb) hwf (by simp [hcl]; omega) fun i a v ha hv => by
    rcases i with _ | _ | i
    · rw [Array.getElem?_append_left (by simp)] at hv
      simp at ha hv; subst ha hv; exact .rd (x.rd.later hcell)
    · rw [Array.getElem?_append_left (by simp)] at hv
      simp at ha hv; subst ha hv; exact .rd (y.rd.later hcell)
    · rw [Array.getElem?_append_right (by simp)] at hv
      exact .rd ((hcr i a v (by simpa using ha) (by simpa using hv)).later hcell)
  unfold CallsX at h
  rw [eg] at h
  refine Calls.mono h fun e w' => ?_
  rintro ⟨v, r, C', τ', H', rfl, rfl, hrv, hst, _⟩
  refine ⟨?_, w'.drawn - W.drawn, w'.heap.extract W.heap.size w'.heap.size, ?_⟩
  · cases hrv with
    | rd h => cases h; rfl
  · have f := hst.fr
    have hp : ∀ b, b < W.heap.size → w'.heap[b]? = W.heap[b]? := fun b hb => f.prot b ⟨hb, by rintro ⟨id, l, h, _⟩; simp at h⟩
    have hh : w'.heap = W.heap ++ w'.heap.extract W.heap.size w'.heap.size := by
      refine Array.ext_getElem? fun i => ?_
      by_cases hi : i < W.heap.size
      · rw [Array.getElem?_append_left hi]; exact hp i hi
      · rw [Array.getElem?_append_right (by omega), Array.getElem?_extract]
        by_cases hi2 : i < w'.heap.size
        · rw [if_pos (by omega)]; congr 1; omega
        · rw [if_neg (by omega)]; exact Array.getElem?_eq_none (by omega)
    have hd : w'.drawn = W.drawn + (w'.drawn - W.drawn) := by have := f.drawn trivial; omega
    obtain ⟨h1, h2, h3, h4, h5⟩ := w'
    unfold Go.Sort.grow World.drewN
    simp only [World.mk.injEq]
    exact ⟨hh, f.tape, hd, f.os, f.output⟩

theorem St.putRow1 {w0 w w1 : World} {Pr : Nat → Prop} {C : Nat → Nat} {τ : Nat → Option Loc} {H : List AObj} {cell : β → AVal} (hcl : ∀ x, (cell x).isCell = true) [Inhabited (El1 C w cell)]
    (h : St w0 Pr C τ H w1) (hw1 : w1.heap = w.heap) {i0 : Nat} {es : List β} {l : Loc} (ho : H[i0]? = some (.arr 1 (es.map fun x => [cell x]))) (hl : τ i0 = some l) (d : Array (El1 C w cell)) (hd : d.size = es.length) :
    St w0 Pr C τ (H.set i0 (.arr 1 (d.toList.map fun e => [cell e.x]))) (Go.Sort.putRow (fun e : El1 C w cell => e.v) w1 l.b 0 d) ∧ Step C τ H w1 C τ (H.set i0 (.arr 1 (d.toList.map fun e => [cell e.x]))) (Go.Sort.putRow (fun e : El1 C w cell => e.v) w1 l.b 0 d) := by
  obtain ⟨hcap, cs, elem, fz, h1, h2, h3, _⟩ := h.wf.objs i0 _ l ho hl
  rw [List.length_map] at hcap
  have hw : (Go.Sort.putRow (fun e : El1 C w cell => e.v) w1 l.b 0 d).heap[l.b]? = some (.cells (Go.Sort.putCells (fun e : El1 C w cell => e.v) 0 d cs) elem fz) := by
    unfold Go.Sort.putRow mapBlock
    simp only [Array.getElem?_modify, if_true, h1, Option.map_some, onCells]
  refine h.set_obj (w' := Go.Sort.putRow (fun e : El1 C w cell => e.v) w1 l.b 0 d) (o' := .arr 1 (d.toList.map fun e => [cell e.x])) ho hl (fun b hb => ?_) (by simp [Go.Sort.putRow, mapBlock]) rfl rfl rfl rfl ⟨rfl, by simp; omega, fun _ => rfl⟩ (fun e he => ?_) fun C' τ' H' s => ?_
  · unfold Go.Sort.putRow mapBlock
    simp only [Array.getElem?_modify]
    rw [if_neg (Ne.symm hb)]
  · obtain ⟨x, _, rfl⟩ := List.mem_map.1 he
    exact ⟨rfl, fun c hc => by rw [List.mem_singleton.1 hc]; exact hcl x.x⟩
  · refine ⟨by simp; omega, _, elem, fz, hw, by simp [Go.Sort.putCells, h2], by simpa [Go.Sort.putCells] using h3, fun i j e c he hc => ?_⟩
    rw [List.getElem?_map] at he
    obtain ⟨x, hx, rfl⟩ := Option.map_eq_some_iff.1 he
    have hi : i < d.size := by have := (List.getElem?_eq_some_iff.1 hx).1; simpa using this
    obtain rfl : j = 0 := by have := (List.getElem?_eq_some_iff.1 hc).1; simpa using this
    simp at hc
    subst hc
    have hxd : d[i]! = x := by
      rw [getElem!_pos d i hi]
      have := (List.getElem?_eq_some_iff.1 hx).2
      simpa using this
    have htc : i < cs.size := by omega
    refine ⟨x.v, ?_, ?_⟩
    · unfold Go.Sort.putCells
      rw [Nat.mul_one, Nat.add_zero, Array.getElem?_mapIdx, Array.getElem?_eq_getElem htc]
      simp only [Option.map_some, Nat.zero_le, true_and, Nat.zero_add, hi, if_true, Nat.sub_zero, hxd]
    · have hx1 : Rd C w1 (cell x.x) x.v := x.rd.later fun b i _ => cell_heap (by rw [hw1])
      exact (Rel.rd hx1).mono s

theorem row_of1 {w0 w : World} {Pr : Nat → Prop} {C : Nat → Nat} {τ : Nat → Option Loc} {H : List AObj} {cell : β → AVal} (hpu : ∀ x, (cell x).isPure = true)
    (h : St w0 Pr C τ H w) {i0 : Nat} {es : List β} {l : Loc} (ho : H[i0]? = some (.arr 1 (es.map fun x => [cell x]))) (hl : τ i0 = some l) :
    ∃ d : Array (El1 C w cell), d.size = es.length ∧ d.toList.map (fun e => e.x) = es ∧ ∀ [Inhabited (El1 C w cell)], Holds (fun e : El1 C w cell => e.v) w l.b 0 d := by
  obtain ⟨hcap, cs, elem, fz, h1, h2, h3, h4⟩ := h.wf.objs i0 _ l ho hl
  rw [List.length_map] at hcap
  have mk : ∀ i : Fin es.length, ∃ e : El1 C w cell, cs[i.1]? = some e.v ∧ e.x = es[i.1] := fun ⟨i, hi⟩ => by
    obtain ⟨v, hv, hr⟩ := h4 i 0 [cell es[i]] (cell es[i]) (by rw [List.getElem?_map, List.getElem?_eq_getElem hi]; rfl) rfl
    have hrd := hr.pure (hpu _)
    exact ⟨⟨v, es[i], hr.plain (AVal.isCell_of_isPure (hpu _)), hrd⟩, by simpa using hv, rfl⟩
  refine ⟨Array.ofFn fun i => (mk i).choose, by simp, ?_, ?_⟩
  · refine List.ext_getElem? fun i => ?_
    by_cases hi : i < es.length
    · rw [List.getElem?_map, Array.getElem?_toList, Array.getElem?_ofFn, dif_pos hi, List.getElem?_eq_getElem hi]
      show some ((mk ⟨i, hi⟩).choose).x = _
      rw [(mk ⟨i, hi⟩).choose_spec.2]
    · rw [List.getElem?_eq_none (by simp; omega), List.getElem?_eq_none (by omega)]
  · intro _ t ht
    rw [Array.size_ofFn] at ht
    have hs := (mk ⟨t, ht⟩).choose_spec.1
    have htc := (Array.getElem?_eq_some_iff.1 hs).1
    rw [getElem!_pos _ t (by rw [Array.size_ofFn]; exact ht), Array.getElem_ofFn]
    refine ⟨?_, ?_⟩
    · simp only [World.cell?, h1, Nat.zero_add]
      exact hs
    · simp only [World.frozen?, h1, Nat.zero_add]
      simp only [Bool.and_eq_false_iff, decide_eq_false_iff_not]
      simp only [] at htc
      omega

theorem sort1_spec {ρ : Go.Shelf.Ren} (L : Go.Proofs.SlLaysF.n6 P ρ)
    {cell : β → AVal} (hpu : ∀ x, (cell x).isPure = true) {cmp : β → β → Int} (hO : SWO (Go.Proofs.ltOf cmp)) {g : FuncId} {caps : List AVal} (hcp : caps.all AVal.isPure = true)
    (eg : ∀ args w, (callFunc g args).run P w = .ok (.enter g args) w)
    (hg : ∀ x y, @ACalls upD P g ([cell x, cell y] ++ caps) [] (fun r _ => r = .int .i64 (cmp x y)))
    {es : List β} (hne : es ≠ []) (hlen : es.length ≤ 1000000) {H : List AObj} {i0 : Nat} (ho : H[i0]? = some (.arr 1 (es.map fun x => [cell x]))) :
    ACalls P (ρ.f 6) [.sl i0 es.length 0 es.length, .fn g caps] H (fun r H' => r = .tuple [] ∧ ∃ es', Sorted cmp es es' ∧ H' = H.set i0 (.arr 1 (es'.map fun x => [cell x]))) := by
  intro C τ w vs hw hl hr
  obtain ⟨v0, v1, rfl⟩ : ∃ v0 v1, vs = #[v0, v1] := by
    obtain ⟨m⟩ := vs
    match m, hl with
    | [v0, v1], _ => exact ⟨v0, v1, rfl⟩
  have r0 := hr 0 _ v0 rfl rfl
  have r1 := hr 1 _ v1 rfl rfl
  obtain ⟨cb, hcl, hcr, e1⟩ : ∃ cb : Array Value, caps.length = cb.size ∧ (∀ (i : Nat) (c : AVal) (v : Value), caps[i]? = some c → cb[i]? = some v → Rd C w c v) ∧ v1 = .func (.func g) #[] cb := by
    cases r1 with
    | rd h => cases h; exact ⟨#[], rfl, fun i c v hc => by simp at hc, rfl⟩
    | fn _ _ vs hl2 h => exact ⟨vs, hl2, fun i c v hc hv => (h i c v hc hv).pure (List.all_eq_true.1 hcp c (List.mem_of_getElem? hc)), rfl⟩
  subst e1
  have hpos : 0 < es.length := List.length_pos_iff.2 hne
  cases r0 with
  | rd h => cases h
  | sl _ _ _ _ a cap esz es0 ho' hep hcur =>
  rw [ho] at ho'
  cases ho'
  obtain ⟨_, hcap, hor⟩ := hcur (by simp)
  rcases hor with ⟨_, h0⟩ | ⟨l, hlt, hlc, ha⟩
  · omega
  have ha2 : a = some ⟨l.b, 0, none⟩ := by
    rcases ha with h0 | h0
    · omega
    · rw [h0, Nat.zero_mul]
  subst ha2
  have st := St.start hw
  obtain ⟨d, hd, hdx, hH⟩ := row_of1 hpu st ho hlt
  haveI : Inhabited (El1 C w cell) := ⟨d[0]'(by omega)⟩
  have hid := (List.getElem?_eq_some_iff.1 ho).1
  have hcmp := cmpLays1_of (P := P) (C := C) (w := w) (cb := cb) hcl hcr eg hg (blk := l.b) (off := 0) (size := d.size) hw.lt (hw.comm i0 l hid hlt)
  have hO2 : SWO (Go.Proofs.ltOf fun a b : El1 C w cell => cmp a.x b.x) := ⟨fun x => hO.irrefl x.x, fun x y z => hO.trans x.x y.x z.x, fun x y z => hO.ntrans x.x y.x z.x⟩
  have main := Go.Proofs.Any.slices_SortFunc L (fun e : El1 C w cell => e.v) (fun x => x.one) (fun a b => cmp a.x b.x) hO2 g cb l.b 0 cap d w eg hcmp hH (hw.locLt hid hlt) (by omega)
  rw [hd] at main
  unfold CallsX
  have en : ∀ args w, (callFunc (ρ.f 6) args).run P w = .ok (.enter (ρ.f 6) args) w := L.f6.enters rfl
  rw [en]
  refine Calls.mono main fun e w' => ?_
  rintro ⟨rfl, d', n, os, hp, hs, rfl⟩
  have hd's : d'.size = es.length := by have := hp.1; omega
  obtain ⟨st1, s1⟩ := st.same (w' := Go.Sort.ahead w n) rfl rfl rfl rfl (Nat.le_add_right _ _)
  obtain ⟨st2, s2⟩ := st1.putRow1 (w := w) (fun x => AVal.isCell_of_isPure (hpu x)) rfl ho hlt d' hd's
  obtain ⟨st3, s3⟩ := st2.grow os.toList
  have ew : Go.Sort.grow (Go.Sort.putRow (fun e : El1 C w cell => e.v) (Go.Sort.ahead w n) l.b 0 d') os.toList.toArray = Go.Proofs.sortWorld (fun e : El1 C w cell => e.v) w l.b 0 n d' os := by
    rw [Array.toArray_toList]; rfl
  rw [ew] at st3 s3
  refine ⟨.tuple #[], .tuple [], C, τ, _, rfl, ⟨rfl, d'.toList.map (fun e => e.x), ⟨?_, fun i j x y hij hx hy => ?_⟩, by rw [List.map_map]; rfl⟩, .tuple _ _ rfl fun i c v h => by simp at h, st3, (s1.trans s2).trans s3⟩
  · have h3 := hp.2.2
    have a1 : d'.extract 0 es.length = d' := by rw [← hd's]; simp
    have a2 : d.extract 0 es.length = d := by rw [← hd]; simp
    rw [a1, a2] at h3
    have := h3.map (fun e : El1 C w cell => e.x)
    rwa [hdx] at this
  · rw [List.getElem?_map] at hx hy
    obtain ⟨ex, hx1, rfl⟩ := Option.map_eq_some_iff.1 hx
    obtain ⟨ey, hy1, rfl⟩ := Option.map_eq_some_iff.1 hy
    clear hx hy
    have hj := (List.getElem?_eq_some_iff.1 hy1).1
    rw [Array.length_toList, hd's] at hj
    have h4 := hs i j (Nat.zero_le _) hij hj
    have b1 : d'[i]! = ex := by
      rw [getElem!_pos d' i (by omega)]
      have := (List.getElem?_eq_some_iff.1 hx1).2
      simpa using this
    have b2 : d'[j]! = ey := by
      rw [getElem!_pos d' j (by omega)]
      have := (List.getElem?_eq_some_iff.1 hy1).2
      simpa using this
    rw [b1, b2] at h4
    unfold Go.Proofs.ltOf at h4
    simp at h4
    exact h4

end
end Go.AW

namespace Go.AW
variable [Draws]
open Go.Sort
attribute [local irreducible] ACalls
abbrev RowS := {r : List V // r.length ≤ 1000}

def subRw : (l : List (List V)) → (∀ r ∈ l, r.length ≤ 1000) → List RowS
  | [], _ => []
  | r :: l, h => ⟨r, h r (List.mem_cons_self ..)⟩ :: subRw l fun r hr => h r (List.mem_cons_of_mem _ hr)

theorem subRw_map : ∀ (l : List (List V)) (h : ∀ r ∈ l, r.length ≤ 1000), (subRw l h).map (fun e => e.1) = l
  | [], _ => rfl
  | e :: l, h => by rw [subRw, List.map_cons, subRw_map l]

theorem swo_O (is : List Int) : SWO (Go.Proofs.ltOf fun a b : RowS => cmpO is a.1 b.1) where
  irrefl x := by simp [Go.Proofs.ltOf, ((isCmp_O is).zero x.1 x.1).2 rfl]
  trans x y z h1 h2 := by
    simp [Go.Proofs.ltOf] at h1 h2 ⊢
    exact (isCmp_O is).trans _ _ _ h1 h2
  ntrans x y z h1 h2 := by
    simp [Go.Proofs.ltOf] at h1 h2 ⊢
    have a1 := (isCmp_O is).anti x.1 y.1
    have a2 := (isCmp_O is).anti y.1 z.1
    have a3 := (isCmp_O is).anti x.1 z.1
    have := (isCmp_O is).le_trans (x := z.1) (y := y.1) (z := x.1) (by omega) (by omega)
    omega

theorem sortR_of {P : Program} {ρ : Go.Shelf.Ren} (L : Go.Proofs.SlLaysF.n6 P ρ) (F : F_window_partitions_1 P) : SortR P (ρ.f 6) F.id := by
  intro e3 is l his hne hl hr H i0 ho
  have eg : ∀ args w, (callFunc F.id args).run P w = .ok (.enter F.id args) w := by
    obtain ⟨fn, c, h1, h2, h3, _⟩ := F.has
    exact Go.Proofs.enters_of h1 h2 h3
  have hm := subRw_map l hr
  have hcells : ((subRw l hr).map fun x => [AVal.list false 3 (vC x.1)]) = rwC l := by
    have := congrArg rwC hm
    rw [← this, rwC, rwA, List.map_map, List.map_map]; rfl
  have hlen : (subRw l hr).length = l.length := by rw [← List.length_map (f := fun e : RowS => e.1), hm]
  have main := sort1_spec (P := P) L (cell := fun e : RowS => AVal.list false 3 (vC e.1)) (fun _ => rfl) (cmp := fun a b => cmpO is a.1 b.1) (swo_O is) (g := F.id) (caps := [.cptr [.list e3 1 (iC is)] 0]) rfl eg
    (fun x y => @ACalls.mono upD P _ F.id _ _ _ (@partitions_1_spec upD P F false false e3 x.1 y.1 is (by have := x.2; omega) (by have := y.2; omega) his []) fun _ _ h => h.1)
    (es := subRw l hr) (fun h => by rw [h] at hm; exact hne hm.symm) (by omega) (H := H) (i0 := i0) (by rw [hcells]; exact ho)
  rw [hlen] at main
  refine main.mono ?_
  rintro r H' ⟨rfl, es', ⟨hp, hs⟩, rfl⟩
  refine ⟨rfl, ?_⟩
  have e : es'.map (fun e => e.1) = srtO is l := by
    refine srtC_eq (isCmp_O is) (List.pairwise_iff_getElem.2 fun i j hi hj hij => ?_) (by have := hp.map (fun e : RowS => e.1); rwa [hm] at this)
    rw [List.length_map] at hi hj
    have := hs i j es'[i] es'[j] hij (List.getElem?_eq_getElem hi) (List.getElem?_eq_getElem hj)
    replace this : 0 ≤ cmpO is (es'[j]).1 (es'[i]).1 := this
    rw [(isCmp_O is).anti] at this
    simp only [List.getElem_map]
    omega
  rw [← e, rwC, rwA, List.map_map, List.map_map]; rfl

end Go.AW

