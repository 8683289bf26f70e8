/-
  An abstract machine over the model, the code of functions on it, and their contracts: what the claim needs.
  No condition: definitions, plain laws, contracts over any program that has this code.
-/
import Derived.Test.YtjfjpaggdmafeaaGreatDoorZ2
set_option linter.all false
namespace Go.AW
variable [Draws]
section
variable {P : Program} {C C' : Nat → Nat} {τ τ' : Nat → Option Loc} {H H' : List AObj} {w w' : World}
theorem ACalls.gp {f : FuncId} {args : List AVal} {Q0 Q : AVal → List AObj → Prop} (h : ACalls P f args H Q0)
  (hq : ∀ r H', Q0 r H' → Gp (H.map AObj.olen) [r] H' (fun ρ1 H1 => ∃ r', ρ1 = [r'] ∧ Q r' H1)) : ACalls P f args H Q := by
 intro C τ w vs hw hl hr
 have hc := h C τ w vs hw hl hr
 have fin : ∀ (e : Ending) (w' : World), (∃ v r C' τ' H', e = .returned v ∧ Q0 r H' ∧ Rel C' w' τ' H' r v ∧ St w (PrCall τ H w) C' τ' H' w' ∧ Step C τ H w C' τ' H' w') →
   ∃ v r C' τ' H', e = .returned v ∧ Q r H' ∧ Rel C' w' τ' H' r v ∧ St w (PrCall τ H w) C' τ' H' w' ∧ Step C τ H w C' τ' H' w' := by
  rintro e w' ⟨v, r, C1, τ1, H1, he, hq0, hrel, hst, hstep⟩
  let E : Env := ⟨w, PrCall τ H w, C, τ, H, fun b hb hn => Classical.byContradiction fun ho => hn ⟨hb, ho⟩⟩
  have hsa : SA E C1 τ1 [r] H1 { tmps := #[v], defers := [] } w' := by
   refine ⟨hst, hstep, fun t => ?_, rfl, rfl⟩
   cases t with
   | zero => exact hrel
   | succ t => exact .undef _
  obtain ⟨ρ2, H2, C2, τ2, ⟨r', rfl, hQ⟩, hs2⟩ := hsa.regroup (hq r H1 hq0)
  exact ⟨v, r', C2, τ2, H2, he, hQ, hs2.tmps 0, hs2.st, hs2.step⟩
 unfold CallsX at hc ⊢
 split at hc
 ·exact Calls.mono hc fun e w' hh => fin e w' hh
 ·exact fin _ _ hc
 ·exact hc
def AObj.clean : AObj → Bool
 | .arr _ es => pureEs es
 | .iter _ _ => true
 | .map kvs => kvs.all fun kv => kv.2.isPure
 | .bmap _ _ _ | .mit _ _ _ => false
inductive Ren (σ : Nat → Nat) : AVal → AVal → Prop where
 | closed (v : AVal) (h : v.closed = true) : Ren σ v v
 | sl (id ep off len : Nat) : Ren σ (.sl id ep off len) (.sl (σ id) ep off len)
 | ptr (id ep idx fld : Nat) : Ren σ (.ptr id ep idx fld) (.ptr (σ id) ep idx fld)
 | agg (vs rs : List AVal) (hl : vs.length = rs.length) (h : ∀ (i : Nat) (v r : AVal), vs[i]? = some v → rs[i]? = some r → Ren σ v r) : Ren σ (.agg vs) (.agg rs)
 | tuple (vs rs : List AVal) (hl : vs.length = rs.length) (h : ∀ (i : Nat) (v r : AVal), vs[i]? = some v → rs[i]? = some r → Ren σ v r) : Ren σ (.tuple vs) (.tuple rs)
inductive RenO (σ : Nat → Nat) : AObj → AObj → Prop where
 | same (o : AObj) (h : o.clean = true) : RenO σ o o
 | arr (esz : Nat) (es es1 : List (List AVal)) (hl : es1.length = es.length) (hl2 : ∀ (i : Nat) (e e1 : List AVal), es[i]? = some e → es1[i]? = some e1 → e1.length = e.length)
   (h : ∀ (i j : Nat) (e e1 : List AVal) (d d1 : AVal), es[i]? = some e → es1[i]? = some e1 → e[j]? = some d → e1[j]? = some d1 → Ren σ d d1 ∧ d1.isCell = true) :
   RenO σ (.arr esz es) (.arr esz es1)
theorem RenO.after {σ : Nat → Nat} {o o0 o1 : AObj} {t t' : Option Loc} (h : RenO σ o0 o1) (ha : o.after o0 t t') : o.after o1 t t' := by
 cases h with
 | same => exact ha
 | arr esz es es1 hl _ _ =>
  cases o with
  | iter _ _ => exact ha
  | map _ => exact ha
  | bmap _ _ _ => exact ha
  | mit _ _ _ => exact ha
  | arr z es0 => exact ⟨ha.1, by rw [hl]; exact ha.2.1, by rw [hl]; exact ha.2.2⟩
theorem RenO.ok {σ : Nat → Nat} {o0 o1 : AObj} (h : RenO σ o0 o1) (ho : o0.ok) : o1.ok := by
 cases h with
 | same => exact ho
 | arr esz es es1 hl hl2 hp =>
  intro e1 he1
  obtain ⟨n, hn⟩ := List.getElem?_of_mem he1
  have hnl := (List.getElem?_eq_some_iff.1 hn).1
  have he : es[n]? = some es[n] := List.getElem?_eq_getElem (by omega)
  obtain ⟨g1, g2⟩ := ho _ (List.mem_of_getElem? he)
  refine ⟨(hl2 n _ _ he hn).trans g1, fun d1 hd1 => ?_⟩
  obtain ⟨j, hj⟩ := List.getElem?_of_mem hd1
  have hjl := (List.getElem?_eq_some_iff.1 hj).1
  have := hl2 n _ _ he hn
  exact (hp n j _ _ _ d1 he hn (List.getElem?_eq_getElem (by omega)) hj).2
def frN (id n : Nat) (k : Nat) : Nat := match k with
 | 0 => id
 | k + 1 => n + k
theorem ACalls.frame1 {f : FuncId} {args0 args : List AVal} {Q0 Q : AVal → List AObj → Prop} {id : Nat} {o : AObj} (ho : H[id]? = some o)
  (hp : o.clean = true)
  (hal : args0.length = args.length) (ha : ∀ (i : Nat) (a b : AVal), args0[i]? = some a → args[i]? = some b → (a = b ∧ a.closed = true) ∨ (∃ ep idx fld, a = .ptr 0 ep idx fld ∧ b = .ptr id ep idx fld) ∨ ∃ ep off len, a = .sl 0 ep off len ∧ b = .sl id ep off len)
  (h : ACalls P f args0 [o] Q0)
  (hq : ∀ r H1, Q0 r H1 → ∃ r' o1 o1' G G', H1 = o1 :: G ∧ Ren (frN id H.length) r r' ∧ RenO (frN id H.length) o1 o1' ∧ G.length = G'.length ∧
   (∀ (k : Nat) (x y : AObj), G[k]? = some x → G'[k]? = some y → RenO (frN id H.length) x y) ∧ Q r' (H.set id o1' ++ G')) : ACalls P f args H Q := by
 intro C τ w vs hw hl hr
 have hid := (List.getElem?_eq_some_iff.1 ho).1
 let τ0 : Nat → Option Loc := fun k => if k = 0 then τ id else none
 have one : ∀ {k : Nat} {x : AObj}, [o][k]? = some x → k = 0 ∧ x = o := fun {k x} h => by
  cases k with
  | zero => simp at h; exact ⟨rfl, h.symm⟩
  | succ k => simp at h
 have hw0 : WF C τ0 [o] w := by
  refine ⟨fun k x h => ?_, fun k x h ht => ?_, fun k x l h ht => ?_, fun k l hk ht => ?_, fun i j li lj hi hj _ _ _ => ?_, hw.lt, hw.gls⟩
  ·obtain ⟨rfl, rfl⟩ := one h; exact hw.ok id _ ho
  ·obtain ⟨rfl, rfl⟩ := one h; exact hw.virt id _ ho ht
  ·obtain ⟨rfl, rfl⟩ := one h
   have hob := hw.objs id _ l ho ht
   cases x with
   | iter s p => exact hob
   | map kvs =>
    obtain ⟨kvs0, es, clock, pp, a1, a2, a3, a4⟩ := hob
    exact ⟨kvs0, es, clock, pp, a1, a2, fun i e kv he hkv => ⟨(a3 i e kv he hkv).1, .rd ((a3 i e kv he hkv).2.pure (List.all_eq_true.1 hp kv (pp.mem_iff.1 (List.mem_of_getElem? hkv))))⟩, a4⟩
   | bmap _ _ _ => cases hp
   | mit _ _ _ => cases hp
   | arr esz es =>
    obtain ⟨a1, cells, elem, fz, a2, a3, a4, a5⟩ := hob
    refine ⟨a1, cells, elem, fz, a2, a3, a4, fun i j e d hi hd => ?_⟩
    obtain ⟨x, hx1, hx2⟩ := a5 i j e d hi hd
    exact ⟨x, hx1, .rd (hx2.pure (pureEs_get hp hi hd))⟩
  ·have hk0 : k = 0 := by simp at hk; omega
   subst hk0; exact hw.comm id l hid ht
  ·simp at hi hj; omega
 have hr0 : ∀ (i : Nat) (a : AVal) (v : Value), args0[i]? = some a → vs[i]? = some v → Rel C w τ0 [o] a v := fun i a v h1 h2 => by
  have hi := (List.getElem?_eq_some_iff.1 h1).1
  have hb : args[i]? = some args[i] := List.getElem?_eq_getElem (by omega)
  have hrel := hr i _ v hb h2
  rcases ha i a _ h1 hb with ⟨e, hc⟩ | ⟨ep, idx, fld, rfl, e⟩ | ⟨ep, off, len, rfl, e⟩
  ·rw [← e] at hrel
   exact hrel.closed hc (fun _ => Nat.le_refl _) (fun _ _ _ => rfl)
  ·rw [e] at hrel
   cases hrel with
   | rd h => cases h
   | ptr _ _ _ _ a esz es ho2 hep h3 =>
    rw [ho] at ho2; cases ho2
    exact .ptr 0 ep idx fld a esz es rfl hep h3
  ·rw [e] at hrel
   cases hrel with
   | rd h => cases h
   | sl _ _ _ _ a cap esz es ho2 hep h3 =>
    rw [ho] at ho2; cases ho2
    exact .sl 0 ep off len a cap esz es rfl hep h3
 have hc := h C τ0 w vs hw0 (by omega) hr0
 have fin : ∀ (e : Ending) (w' : World), (∃ v r C' τ' H', e = .returned v ∧ Q0 r H' ∧ Rel C' w' τ' H' r v ∧ St w (PrCall τ0 [o] w) C' τ' H' w' ∧ Step C τ0 [o] w C' τ' H' w') →
   ∃ v r C' τ' H', e = .returned v ∧ Q r H' ∧ Rel C' w' τ' H' r v ∧ St w (PrCall τ H w) C' τ' H' w' ∧ Step C τ H w C' τ' H' w' := by
  rintro e w' ⟨v, r, C1, τ1, H1, he, hq0, hrel, hst, hstep⟩
  obtain ⟨r', o1, o1', G, G', rfl, hrr, hro, hgl, hG, hQ⟩ := hq r H1 hq0
  
  have hoth : ∀ j l, j < H.length → j ≠ id → τ j = some l → PrCall τ0 [o] w l.b := fun j l hj hne ht =>
   ⟨hw.locLt hj ht, by
    rintro ⟨k, l', hk, ht', hb⟩
    have hk0 : k = 0 := by simp at hk; omega
    subst hk0
    exact hne (hw.inj j id l l' hj hid ht ht' hb.symm)⟩
  have hheap : ∀ j l, j < H.length → j ≠ id → τ j = some l → w'.heap[l.b]? = w.heap[l.b]? := fun j l hj hne ht => hst.fr.prot _ (hoth j l hj hne ht)
  let τ2 : Nat → Option Loc := fun i => if i = id then τ1 0 else if i < H.length then τ i else τ1 (i - H.length + 1)
  have t0 : τ2 id = τ1 0 := by simp only [τ2, if_true]
  have tO : ∀ j, j < H.length → j ≠ id → τ2 j = τ j := fun j hj hne => by simp only [τ2, if_neg hne, if_pos hj]
  have tN : ∀ k, τ2 (H.length + k) = τ1 (k + 1) := fun k => by
   simp only [τ2, if_neg (by omega : ¬ H.length + k = id), if_neg (by omega : ¬ H.length + k < H.length), Nat.add_sub_cancel_left]
  have tF : ∀ k, τ2 (frN id H.length k) = τ1 k := fun k => by
   cases k with
   | zero => exact t0
   | succ k => exact tN k
  have gid : (H.set id o1' ++ G')[id]? = some o1' := by rw [List.getElem?_append_left (by rw [List.length_set]; exact hid), List.getElem?_set_self hid]
  have gO : ∀ j, j < H.length → j ≠ id → (H.set id o1' ++ G')[j]? = H[j]? := fun j hj hne => by
   rw [List.getElem?_append_left (by rw [List.length_set]; exact hj), List.getElem?_set_ne (Ne.symm hne)]
  have gN : ∀ k, (H.set id o1' ++ G')[H.length + k]? = G'[k]? := fun k => by
   rw [List.getElem?_append_right (by rw [List.length_set]; omega), List.length_set, Nat.add_sub_cancel_left]
  
  have gF : ∀ k x, (o1 :: G)[k]? = some x → ∃ y, (H.set id o1' ++ G')[frN id H.length k]? = some y ∧ RenO (frN id H.length) x y := fun k x hx => by
   cases k with
   | zero => simp at hx; subst hx; exact ⟨o1', gid, hro⟩
   | succ k =>
    have hk : k < G.length := (List.getElem?_eq_some_iff.1 (by simpa using hx : G[k]? = some x)).1
    have hy : G'[k]? = some G'[k] := List.getElem?_eq_getElem (by omega)
    exact ⟨G'[k], (gN k).trans hy, hG k x _ (by simpa using hx) hy⟩
  have split : ∀ i, i < (H.set id o1' ++ G').length → (i < H.length ∧ i ≠ id) ∨ ∃ k, i = frN id H.length k ∧ k < (o1 :: G).length := fun i hi => by
   rw [List.length_append, List.length_set] at hi
   by_cases h1 : i = id
   ·exact .inr ⟨0, h1, by simp⟩
   ·by_cases h2 : i < H.length
    ·exact .inl ⟨h2, h1⟩
    ·exact .inr ⟨i - H.length + 1, by simp only [frN]; omega, by simp; omega⟩
  have frInj : ∀ k k', frN id H.length k = frN id H.length k' → k = k' := fun k k' h => by
   cases k <;> cases k' <;> simp only [frN] at h <;> omega
  have step : Step C τ H w C1 τ2 (H.set id o1' ++ G') w' := by
   refine ⟨hstep.le, hstep.cell, fun j x hx => ?_, hstep.grow, hstep.old⟩
   have hj := (List.getElem?_eq_some_iff.1 hx).1
   by_cases e1 : j = id
   ·subst e1
    rw [ho] at hx; cases hx
    obtain ⟨o', h1, h2⟩ := hstep.obj 0 o rfl
    simp at h1; subst h1
    refine ⟨o1', gid, ?_⟩
    rw [t0]
    have : τ0 0 = τ j := by simp only [τ0, if_true]
    rw [this] at h2
    exact hro.after h2
   ·exact ⟨x, by rw [gO j hj e1]; exact hx, by rw [tO j hj e1]; exact x.after_refl _⟩
  have ren : ∀ {a b : AVal}, Ren (frN id H.length) a b → ∀ {u : Value}, Rel C1 w' τ1 (o1 :: G) a u → Rel C1 w' τ2 (H.set id o1' ++ G') b u := by
   intro a b hab
   induction hab with
   | closed v h => intro u hu; exact hu.closed h (fun _ => Nat.le_refl _) (fun _ _ _ => rfl)
   | sl k ep off len =>
    intro u hu
    cases hu with
    | rd h => cases h
    | sl _ _ _ _ a cap esz es ho2 hep h3 =>
     obtain ⟨y, hy, hry⟩ := gF k _ ho2
     cases hry with
     | same _ _ => exact .sl _ ep off len a cap esz es hy hep fun e => by rw [tF]; exact h3 e
     | arr _ _ es1 hl1 _ _ => exact .sl _ ep off len a cap esz es1 hy (by omega) fun e => by rw [tF, hl1]; exact h3 (by omega)
   | ptr k ep idx fld =>
    intro u hu
    cases hu with
    | rd h => cases h
    | ptr _ _ _ _ a esz es ho2 hep h3 =>
     obtain ⟨y, hy, hry⟩ := gF k _ ho2
     cases hry with
     | same _ _ => exact .ptr _ ep idx fld a esz es hy hep fun e => by rw [tF]; exact h3 e
     | arr _ _ es1 hl1 _ _ => exact .ptr _ ep idx fld a esz es1 hy (by omega) fun e => by rw [tF]; exact h3 (by omega)
   | agg vs rs hl h ih =>
    intro u hu
    obtain ⟨us, rfl, hl2, hr2⟩ := hu.agg_inv
    refine .agg _ _ (by omega) fun i c v hc hv => ?_
    have hi := (List.getElem?_eq_some_iff.1 hc).1
    have hvi : vs[i]? = some vs[i] := List.getElem?_eq_getElem (by omega)
    exact ih i _ c hvi hc (hr2 i _ v hvi hv)
   | tuple vs rs hl h ih =>
    intro u hu
    obtain ⟨us, rfl, hl2, hr2⟩ := hu.tuple_inv
    refine .tuple _ _ (by omega) fun i c v hc hv => ?_
    have hi := (List.getElem?_eq_some_iff.1 hc).1
    have hvi : vs[i]? = some vs[i] := List.getElem?_eq_getElem (by omega)
    exact ih i _ c hvi hc (hr2 i _ v hvi hv)
  have hgetF : ∀ k, k < (o1 :: G).length → ∃ x, (o1 :: G)[k]? = some x := fun k hk => ⟨_, List.getElem?_eq_getElem hk⟩
  refine ⟨v, r', C1, τ2, H.set id o1' ++ G', he, hQ, ren hrr hrel, ⟨⟨fun i x hx => ?_, fun i x hx ht => ?_, fun i x l hx ht => ?_, fun i l hi ht => ?_, fun i j li lj hi hj hti htj hb => ?_, hst.wf.lt, hst.wf.gls⟩,
   ⟨hst.fr.os, hst.fr.tape, hst.fr.output, hst.fr.size, fun b hb => hst.fr.prot b ⟨hb.1, ?_⟩, hst.fr.drawn⟩, ?_, fun b hb => hb.1⟩, step⟩
  ·rcases split i (List.getElem?_eq_some_iff.1 hx).1 with ⟨h1, h2⟩ | ⟨k, rfl, hk⟩
   ·rw [gO i h1 h2] at hx; exact hw.ok i x hx
   ·obtain ⟨z, hz⟩ := hgetF k hk
    obtain ⟨y, hy, hry⟩ := gF k z hz
    rw [hx] at hy; cases hy
    exact hry.ok (hst.wf.ok k z hz)
  ·rcases split i (List.getElem?_eq_some_iff.1 hx).1 with ⟨h1, h2⟩ | ⟨k, rfl, hk⟩
   ·rw [gO i h1 h2] at hx; rw [tO i h1 h2] at ht; exact hw.virt i x hx ht
   ·obtain ⟨z, hz⟩ := hgetF k hk
    obtain ⟨y, hy, hry⟩ := gF k z hz
    rw [hx] at hy; cases hy
    rw [tF] at ht
    obtain ⟨esz, rfl⟩ := hst.wf.virt k z hz ht
    cases hry with
    | same _ _ => exact ⟨esz, rfl⟩
    | arr _ _ es1 hl1 _ _ =>
     have : es1 = [] := List.length_eq_zero_iff.1 hl1
     subst this; exact ⟨esz, rfl⟩
  ·rcases split i (List.getElem?_eq_some_iff.1 hx).1 with ⟨h1, h2⟩ | ⟨k, rfl, hk⟩
   ·rw [gO i h1 h2] at hx; rw [tO i h1 h2] at ht
    exact (hw.objs i x l hx ht).mono step (hheap i l h1 h2 ht)
   ·obtain ⟨z, hz⟩ := hgetF k hk
    obtain ⟨y, hy, hry⟩ := gF k z hz
    rw [hx] at hy; cases hy
    rw [tF] at ht
    have hob := hst.wf.objs k z l hz ht
    cases hry with
    | same _ hpz =>
     cases x with
     | iter s p => exact hob
     | map kvs =>
      obtain ⟨kvs0, es, clock, pp, a1, a2, a3, a4⟩ := hob
      exact ⟨kvs0, es, clock, pp, a1, a2, fun i e kv he hkv => ⟨(a3 i e kv he hkv).1, .rd ((a3 i e kv he hkv).2.pure (List.all_eq_true.1 hpz kv (pp.mem_iff.1 (List.mem_of_getElem? hkv))))⟩, a4⟩
     | bmap _ _ _ => cases hpz
     | mit _ _ _ => cases hpz
     | arr esz es =>
      obtain ⟨a1, cells, elem, fz, a2, a3, a4, a5⟩ := hob
      refine ⟨a1, cells, elem, fz, a2, a3, a4, fun i j e d hi hd => ?_⟩
      obtain ⟨x, hx1, hx2⟩ := a5 i j e d hi hd
      exact ⟨x, hx1, .rd (hx2.pure (pureEs_get hpz hi hd))⟩
    | arr esz es es1 hl1 hl2 hp2 =>
     obtain ⟨a1, cells, elem, fz, a2, a3, a4, a5⟩ := hob
     refine ⟨by omega, cells, elem, fz, a2, a3, a4, fun i j e1 d1 hi hd => ?_⟩
     have hil := (List.getElem?_eq_some_iff.1 hi).1
     have hjl := (List.getElem?_eq_some_iff.1 hd).1
     have he : es[i]? = some es[i] := List.getElem?_eq_getElem (by omega)
     have hl3 := hl2 i _ _ he hi
     have hd0 : es[i][j]? = some es[i][j] := List.getElem?_eq_getElem (by omega)
     obtain ⟨x, hx1, hx2⟩ := a5 i j _ _ he hd0
     exact ⟨x, hx1, ren (hp2 i j _ _ _ d1 he hi hd0 hd).1 hx2⟩
  ·rcases split i hi with ⟨h1, h2⟩ | ⟨k, rfl, hk⟩
   ·rw [tO i h1 h2] at ht
    rw [hstep.old _ (hw.locLt h1 ht)]; exact hw.comm i l h1 ht
   ·rw [tF] at ht; exact hst.wf.comm k l hk ht
  ·rcases split i hi with ⟨h1, h2⟩ | ⟨k, rfl, hk⟩ <;> rcases split j hj with ⟨h3, h4⟩ | ⟨k', rfl, hk'⟩
   ·rw [tO i h1 h2] at hti; rw [tO j h3 h4] at htj; exact hw.inj i j li lj h1 h3 hti htj hb
   ·rw [tO i h1 h2] at hti; rw [tF] at htj
    exact absurd (hb ▸ hoth i li h1 h2 hti) (hst.own _ ⟨k', lj, hk', htj, rfl⟩)
   ·rw [tF] at hti; rw [tO j h3 h4] at htj
    exact absurd (hb ▸ hoth j lj h3 h4 htj) (hst.own _ ⟨k, li, hk, hti, rfl⟩)
   ·rw [tF] at hti htj
    rw [hst.wf.inj k k' li lj hk hk' hti htj hb]
  ·rintro ⟨k, l, hk, ht, hb2⟩
   have hk0 : k = 0 := by simp at hk; omega
   subst hk0
   exact hb.2 ⟨id, l, hid, ht, hb2⟩
  ·rintro b ⟨i, l, hi, ht, rfl⟩ hp2
   rcases split i hi with ⟨h1, h2⟩ | ⟨k, rfl, hk⟩
   ·rw [tO i h1 h2] at ht; exact hp2.2 ⟨i, l, h1, ht, rfl⟩
   ·rw [tF] at ht
    refine hst.own _ ⟨k, l, hk, ht, rfl⟩ ⟨hp2.1, ?_⟩
    rintro ⟨k2, l2, hk2, ht2, hb2⟩
    have hk0 : k2 = 0 := by simp at hk2; omega
    subst hk0
    exact hp2.2 ⟨id, l2, hid, ht2, hb2⟩
 unfold CallsX at hc ⊢
 split at hc
 ·exact Calls.mono hc fun e w' hh => fin e w' hh
 ·exact fin _ _ hc
 ·exact hc
def FrArgs (id : Nat) : List AVal → List AVal → Prop
 | [], [] => True
 | a :: asv, b :: bs => ((a = b ∧ a.closed = true) ∨ (∃ ep idx fld, a = .ptr 0 ep idx fld ∧ b = .ptr id ep idx fld) ∨ ∃ ep off len, a = .sl 0 ep off len ∧ b = .sl id ep off len) ∧ FrArgs id asv bs
 | _, _ => False
theorem FrArgs.get {id : Nat} : ∀ {asv bs : List AVal}, FrArgs id asv bs → asv.length = bs.length ∧ ∀ (i : Nat) (a b : AVal), asv[i]? = some a → bs[i]? = some b → (a = b ∧ a.closed = true) ∨ (∃ ep idx fld, a = .ptr 0 ep idx fld ∧ b = .ptr id ep idx fld) ∨ ∃ ep off len, a = .sl 0 ep off len ∧ b = .sl id ep off len
 | [], [], _ => ⟨rfl, fun i a b h => by simp at h⟩
 | a :: asv, b :: bs, h => by
  obtain ⟨h1, h2⟩ := FrArgs.get h.2
  refine ⟨by simp [h1], fun i x y hx hy => ?_⟩
  cases i with
  | zero => simp at hx hy; subst hx hy; exact h.1
  | succ i => exact h2 i x y (by simpa using hx) (by simpa using hy)
 | [], _ :: _, h => h.elim
 | _ :: _, [], h => h.elim
theorem FrArgs.cl {id : Nat} {a : AVal} {asv bs : List AVal} (h : a.closed = true) (hs : FrArgs id asv bs) : FrArgs id (a :: asv) (a :: bs) := ⟨.inl ⟨rfl, h⟩, hs⟩
theorem FrArgs.pt {id : Nat} {ep idx fld : Nat} {asv bs : List AVal} (hs : FrArgs id asv bs) : FrArgs id (.ptr 0 ep idx fld :: asv) (.ptr id ep idx fld :: bs) := ⟨.inr (.inl ⟨_, _, _, rfl, rfl⟩), hs⟩
theorem ACalls.fr {f : FuncId} {args0 args : List AVal} {id : Nat} {o o1 : AObj} {R : AVal} (h : ACalls P f args0 [o] (fun r H' => r = R ∧ H' = [o1])) (ho : H[id]? = some o)
  (hp : o.clean = true) (hp1 : o1.clean = true) (ha : FrArgs id args0 args) (hR : Ren (frN id H.length) R R) : ACalls P f args H (fun r H' => r = R ∧ H' = H.set id o1) := by
 obtain ⟨hl, ha⟩ := ha.get
 refine ACalls.frame1 ho hp hl ha h ?_
 rintro r H1 ⟨rfl, rfl⟩
 exact ⟨_, o1, o1, [], [], rfl, hR, .same _ hp1, rfl, fun k x y h => by simp at h, rfl, by simp⟩
end
theorem Gp.keepL {n0 : List Nat} {n : Nat} {live : List (Nat × AVal)} {ρ : List AVal} {H H1 : List AObj} {I : List AVal → List AObj → Prop} (ids : List Nat) (hnd : ids.Nodup) (hb : keepB n0 ids H) (ho : gpO H ids ids H1) (hl : ρ.length = n) (h : SvPub H ids ρ live)
  (hI : ∀ ρ1, Sv n live ρ1 → I ρ1 H1) : Gp n0 ρ H I :=
 .inr ⟨ids, mkSl n n live fun _ => .undef, H1, hnd, hb, ho, mkSl_pub n n live ρ ρ (Nat.le_refl _) (fun k => by rw [Nat.sub_self, Nat.zero_add]) hl h, hI _ ⟨_, rfl⟩⟩
theorem keepB_one {a : Nat} {ids : List Nat} {H : List AObj} {o : AObj} (h1 : ids[0]? = some 0) (h2 : H[0]? = some o) (h3 : o.olen = a) : keepB [a] ids H := fun k n hk => by
 cases k with
 | zero => simp at hk; subst hk; exact ⟨h1, o, h2, h3⟩
 | succ k => simp at hk
theorem Gp.res {n0 : List Nat} {r r' : AVal} {H H1 : List AObj} {I : List AVal → List AObj → Prop} (ids : List Nat) (hnd : ids.Nodup) (hb : keepB n0 ids H) (ho : gpO H ids ids H1) (hp : Pub H 0 ids r r') (hI : I [r'] H1) : Gp n0 [r] H I :=
 .inr ⟨ids, [r'], H1, hnd, hb, ho, ⟨hp, trivial⟩, hI⟩
theorem ACalls.gpI {P : Program} {f : FuncId} {args : List AVal} {H H1 H2 : List AObj} {R R' : AVal} (h : ACalls P f args H (fun r H' => r = R ∧ H' = H1)) (ids : List Nat) (hnd : ids.Nodup) (hb : keepB (H.map AObj.olen) ids H1) (ho : gpO H1 ids ids H2) (hp : Pub H1 0 ids R R') :
  ACalls P f args H (fun r H' => r = R' ∧ H' = H2) := by
 refine h.gp ?_
 rintro r H' ⟨rfl, rfl⟩
 exact .inr ⟨ids, [R'], H2, hnd, hb, ho, ⟨hp, trivial⟩, R', rfl, rfl, rfl⟩
def HasX (P : Program) (f : FuncId) (e : Array Value → Sem Value) : Prop :=
 ∃ fn, P.funcs[f]? = some fn ∧ (fn.name == "runtime.NumGoroutine") = false ∧ fn.body = none ∧ Extern.findNext fn = none ∧ Extern.find fn = some e
theorem acalls_ext {P : Program} {f : FuncId} {e : Array Value → Sem Value} {args : List AVal} {H : List AObj} {R : AVal} (hf : HasX P f e)
  (h : ∀ (C : Nat → Nat) (τ : Nat → Option Loc) (w : World) (vs : Array Value), args.length = vs.size → (∀ (i : Nat) (a : AVal) (v : Value), args[i]? = some a → vs[i]? = some v → Rel C w τ H a v) →
   ∃ v, (e vs).run P w = .ok v w ∧ Rel C w τ H R v) : ACalls P f args H (fun r H' => r = R ∧ H' = H) := by
 obtain ⟨fn, hfn, hname, hbody, hnext, hfind⟩ := hf
 intro C τ w vs hw hl hr
 obtain ⟨v, hrun, hrel⟩ := h C τ w vs hl hr
 have hcall : (callFunc f vs).run P w = .ok (.value v) w := by
  simp only [callFunc, Sem.run_bind, run_program, Result.andThen_ok, hfn, hname, Bool.false_eq_true, if_false, hbody, Option.isNone_none, if_true, run_mark, hnext, hfind, hrun, Sem.run_pure]
 unfold CallsX
 rw [hcall]
 exact ⟨v, R, C, τ, H, rfl, ⟨rfl, rfl⟩, hrel, St.start hw, Step.refl⟩
theorem rel_str {C : Nat → Nat} {w : World} {τ : Nat → Option Loc} {H : List AObj} {s : ByteArray} {v : Value} (h : Rel C w τ H (.str s) v) : v = .string s := by
 cases h with
 | rd h => cases h; rfl
theorem rel_int {C : Nat → Nat} {w : World} {τ : Nat → Option Loc} {H : List AObj} {k : IntKind} {n : Int} {v : Value} (h : Rel C w τ H (.int k n) v) : v = .int k n := by
 cases h with
 | rd h => cases h; rfl
theorem indexByteString_spec {P : Program} {f : FuncId} (hf : HasX P f Extern.BytealgIndexByte.indexByte) (s : ByteArray) (c : Int) (H : List AObj) :
  ACalls P f [.str s, .int .u8 c] H (fun r H' => r = .int .i64 (Lib.indexByte s.data.toList c.toNat.toUInt8) ∧ H' = H) := by
 refine acalls_ext hf fun C τ w vs hl hr => ?_
 obtain ⟨l⟩ := vs
 match l, hl with
 | [a, b], _ =>
  cases rel_str (hr 0 _ a rfl rfl)
  cases rel_int (hr 1 _ b rfl rfl)
  exact ⟨_, Lib.run_indexByteString s c w, .rd (.int _ _)⟩
end Go.AW
namespace Go.AW
@[irreducible] noncomputable def pr : Program := Proofs.Tryz.prog
theorem prE0 : pr = Proofs.Tryz.prog := by unfold pr; rfl
theorem inL (n : Nat) : Int.ofNat n = OfNat.ofNat n := rfl
structure KD (i : Nat) (ob : List Nat) where
 c : AFunc
 has : Has pr i ob c
noncomputable def kd (i : Nat) (ob : List Nat) (f : Go.Func) (hf : Proofs.Tryz.prog.funcs[i]? = some f) {b : Go.Code} {d : Option ACode} {r : Option (List ARes)} {m : Nat} (hb : f.body = some b := by rfl) (hd : comp Proofs.Tryz.prog ob b = d := by with_unfolding_all (conv => lhs; reduce; dsimp only [↓inL,Int.reduceNegSucc])) (hr : compRes Proofs.Tryz.prog f.results.toList = r := by with_unfolding_all (conv => lhs; reduce)) (hm : f.ntmps = m := by with_unfolding_all (conv => lhs; reduce; dsimp only [])) (hn : (f.name == "runtime.NumGoroutine") = false := by rfl) (hs : d.isSome = true := by rfl) (ht : r.isSome = true := by rfl) : KD i ob :=
 ⟨⟨m, r.getD [], d.getD .skip⟩, by
  rw [prE0]
  exact ⟨f, b, hf, hn, hb, by rw [hd]; cases d <;> simp_all, hm, by rw [hr]; cases r <;> simp_all⟩⟩
set_option maxRecDepth 100000
noncomputable def k4 := kd 4 [19] Proofs.Tryz.f4 Proofs.Tryz.func4
noncomputable def k5 := kd 5 [300142] Proofs.Tryz.f5 Proofs.Tryz.func5
noncomputable def k6 := kd 6 [] Proofs.Tryz.f6 Proofs.Tryz.func6
noncomputable def k7 := kd 7 [100006] Proofs.Tryz.f7 Proofs.Tryz.func7
noncomputable def k8 := kd 8 [] Proofs.Tryz.f8 Proofs.Tryz.func8
noncomputable def k9 := kd 9 [105] Proofs.Tryz.f9 Proofs.Tryz.func9
noncomputable def k10 := kd 10 [] Proofs.Tryz.f10 Proofs.Tryz.func10
noncomputable def k11 := kd 11 [66] Proofs.Tryz.f11 Proofs.Tryz.func11
noncomputable def k12 := kd 12 [] Proofs.Tryz.f12 Proofs.Tryz.func12
noncomputable def k13 := kd 13 [37] Proofs.Tryz.f13 Proofs.Tryz.func13
noncomputable def k14 := kd 14 [] Proofs.Tryz.f14 Proofs.Tryz.func14
noncomputable def k15 := kd 15 [] Proofs.Tryz.f15 Proofs.Tryz.func15
noncomputable def k16 := kd 16 [52] Proofs.Tryz.f16 Proofs.Tryz.func16
noncomputable def k17 := kd 17 [] Proofs.Tryz.f17 Proofs.Tryz.func17
noncomputable def k18 := kd 18 [] Proofs.Tryz.f18 Proofs.Tryz.func18
noncomputable def k19 := kd 19 [54] Proofs.Tryz.f19 Proofs.Tryz.func19
noncomputable def k20 := kd 20 [] Proofs.Tryz.f20 Proofs.Tryz.func20
noncomputable def k21 := kd 21 [81] Proofs.Tryz.f21 Proofs.Tryz.func21
noncomputable def k22 := kd 22 [] Proofs.Tryz.f22 Proofs.Tryz.func22
noncomputable def k23 := kd 23 [] Proofs.Tryz.f23 Proofs.Tryz.func23
noncomputable def k24 := kd 24 [] Proofs.Tryz.f24 Proofs.Tryz.func24
noncomputable def k25 := kd 25 [95] Proofs.Tryz.f25 Proofs.Tryz.func25
noncomputable def k26 := kd 26 [] Proofs.Tryz.f26 Proofs.Tryz.func26
noncomputable def k27 := kd 27 [] Proofs.Tryz.f27 Proofs.Tryz.func27
noncomputable def k28 := kd 28 [] Proofs.Tryz.f28 Proofs.Tryz.func28
noncomputable def k29 := kd 29 [] Proofs.Tryz.f29 Proofs.Tryz.func29
noncomputable def k30 := kd 30 [] Proofs.Tryz.f30 Proofs.Tryz.func30
noncomputable def k31 := kd 31 [47] Proofs.Tryz.f31 Proofs.Tryz.func31
noncomputable def k32 := kd 32 [] Proofs.Tryz.f32 Proofs.Tryz.func32
noncomputable def k33 := kd 33 [] Proofs.Tryz.f33 Proofs.Tryz.func33
noncomputable def k34 := kd 34 [] Proofs.Tryz.f34 Proofs.Tryz.func34
noncomputable def k35 := kd 35 [] Proofs.Tryz.f35 Proofs.Tryz.func35
noncomputable def k36 := kd 36 [5] Proofs.Tryz.f36 Proofs.Tryz.func36
noncomputable def k37 := kd 37 [] Proofs.Tryz.f37 Proofs.Tryz.func37
noncomputable def k38 := kd 38 [] Proofs.Tryz.f38 Proofs.Tryz.func38
noncomputable def k39 := kd 39 [] Proofs.Tryz.f39 Proofs.Tryz.func39
noncomputable def k40 := kd 40 [] Proofs.Tryz.f40 Proofs.Tryz.func40
noncomputable def k41 := kd 41 [] Proofs.Tryz.f41 Proofs.Tryz.func41
noncomputable def k42 := kd 42 [] Proofs.Tryz.f42 Proofs.Tryz.func42
noncomputable def k43 := kd 43 [] Proofs.Tryz.f43 Proofs.Tryz.func43
noncomputable def k44 := kd 44 [61] Proofs.Tryz.f44 Proofs.Tryz.func44
noncomputable def k45 := kd 45 [] Proofs.Tryz.f45 Proofs.Tryz.func45
noncomputable def k46 := kd 46 [75] Proofs.Tryz.f46 Proofs.Tryz.func46
noncomputable def k47 := kd 47 [] Proofs.Tryz.f47 Proofs.Tryz.func47
noncomputable def k48 := kd 48 [] Proofs.Tryz.f48 Proofs.Tryz.func48
noncomputable def k49 := kd 49 [] Proofs.Tryz.f49 Proofs.Tryz.func49
noncomputable def k50 := kd 50 [] Proofs.Tryz.f50 Proofs.Tryz.func50
noncomputable def k51 := kd 51 [] Proofs.Tryz.f51 Proofs.Tryz.func51
noncomputable def k52 := kd 52 [] Proofs.Tryz.f52 Proofs.Tryz.func52
noncomputable def k53 := kd 53 [] Proofs.Tryz.f53 Proofs.Tryz.func53
noncomputable def k54 := kd 54 [] Proofs.Tryz.f54 Proofs.Tryz.func54
noncomputable def k55 := kd 55 [] Proofs.Tryz.f55 Proofs.Tryz.func55
noncomputable def k56 := kd 56 [] Proofs.Tryz.f56 Proofs.Tryz.func56
noncomputable def k57 := kd 57 [] Proofs.Tryz.f57 Proofs.Tryz.func57
noncomputable def k58 := kd 58 [] Proofs.Tryz.f58 Proofs.Tryz.func58
noncomputable def k59 := kd 59 [] Proofs.Tryz.f59 Proofs.Tryz.func59
noncomputable def k60 := kd 60 [] Proofs.Tryz.f60 Proofs.Tryz.func60
noncomputable def k61 := kd 61 [] Proofs.Tryz.f61 Proofs.Tryz.func61
noncomputable def k62 := kd 62 [] Proofs.Tryz.f62 Proofs.Tryz.func62
noncomputable def k63 := kd 63 [] Proofs.Tryz.f63 Proofs.Tryz.func63
noncomputable def k64 := kd 64 [] Proofs.Tryz.f64 Proofs.Tryz.func64
noncomputable def k65 := kd 65 [] Proofs.Tryz.f65 Proofs.Tryz.func65
noncomputable def k66 := kd 66 [] Proofs.Tryz.f66 Proofs.Tryz.func66
noncomputable def k67 := kd 67 [] Proofs.Tryz.f67 Proofs.Tryz.func67
noncomputable def k68 := kd 68 [] Proofs.Tryz.f68 Proofs.Tryz.func68
noncomputable def k69 := kd 69 [] Proofs.Tryz.f69 Proofs.Tryz.func69
noncomputable def k70 := kd 70 [] Proofs.Tryz.f70 Proofs.Tryz.func70
noncomputable def k71 := kd 71 [] Proofs.Tryz.f71 Proofs.Tryz.func71
noncomputable def k72 := kd 72 [] Proofs.Tryz.f72 Proofs.Tryz.func72
noncomputable def k73 := kd 73 [] Proofs.Tryz.f73 Proofs.Tryz.func73
noncomputable def k74 := kd 74 [] Proofs.Tryz.f74 Proofs.Tryz.func74
noncomputable def k75 := kd 75 [] Proofs.Tryz.f75 Proofs.Tryz.func75
noncomputable def k76 := kd 76 [] Proofs.Tryz.f76 Proofs.Tryz.func76
noncomputable def k77 := kd 77 [] Proofs.Tryz.f77 Proofs.Tryz.func77
noncomputable def k78 := kd 78 [] Proofs.Tryz.f78 Proofs.Tryz.func78
noncomputable def k79 := kd 79 [] Proofs.Tryz.f79 Proofs.Tryz.func79
noncomputable def k80 := kd 80 [] Proofs.Tryz.f80 Proofs.Tryz.func80
noncomputable def k81 := kd 81 [] Proofs.Tryz.f81 Proofs.Tryz.func81
noncomputable def k82 := kd 82 [] Proofs.Tryz.f82 Proofs.Tryz.func82
noncomputable def k84 := kd 84 [] Proofs.Tryz.f84 Proofs.Tryz.func84
noncomputable def k85 := kd 85 [] Proofs.Tryz.f85 Proofs.Tryz.func85
noncomputable def k87 := kd 87 [] Proofs.Tryz.f87 Proofs.Tryz.func87
noncomputable def k88 := kd 88 [] Proofs.Tryz.f88 Proofs.Tryz.func88
noncomputable def k89 := kd 89 [] Proofs.Tryz.f89 Proofs.Tryz.func89
noncomputable def k90 := kd 90 [] Proofs.Tryz.f90 Proofs.Tryz.func90
noncomputable def k91 := kd 91 [] Proofs.Tryz.f91 Proofs.Tryz.func91
noncomputable def k92 := kd 92 [] Proofs.Tryz.f92 Proofs.Tryz.func92
noncomputable def k93 := kd 93 [] Proofs.Tryz.f93 Proofs.Tryz.func93
noncomputable def k94 := kd 94 [] Proofs.Tryz.f94 Proofs.Tryz.func94
noncomputable def k95 := kd 95 [] Proofs.Tryz.f95 Proofs.Tryz.func95
noncomputable def k96 := kd 96 [] Proofs.Tryz.f96 Proofs.Tryz.func96
noncomputable def k97 := kd 97 [] Proofs.Tryz.f97 Proofs.Tryz.func97
noncomputable def k98 := kd 98 [] Proofs.Tryz.f98 Proofs.Tryz.func98
noncomputable def k99 := kd 99 [] Proofs.Tryz.f99 Proofs.Tryz.func99
noncomputable def k100 := kd 100 [] Proofs.Tryz.f100 Proofs.Tryz.func100
noncomputable def k101 := kd 101 [] Proofs.Tryz.f101 Proofs.Tryz.func101
noncomputable def k102 := kd 102 [] Proofs.Tryz.f102 Proofs.Tryz.func102
noncomputable def k103 := kd 103 [] Proofs.Tryz.f103 Proofs.Tryz.func103
noncomputable def k104 := kd 104 [] Proofs.Tryz.f104 Proofs.Tryz.func104
noncomputable def k105 := kd 105 [] Proofs.Tryz.f105 Proofs.Tryz.func105
noncomputable def k106 := kd 106 [] Proofs.Tryz.f106 Proofs.Tryz.func106
noncomputable def k107 := kd 107 [] Proofs.Tryz.f107 Proofs.Tryz.func107
noncomputable def k108 := kd 108 [] Proofs.Tryz.f108 Proofs.Tryz.func108
noncomputable def k109 := kd 109 [] Proofs.Tryz.f109 Proofs.Tryz.func109
noncomputable def k110 := kd 110 [] Proofs.Tryz.f110 Proofs.Tryz.func110
noncomputable def k111 := kd 111 [] Proofs.Tryz.f111 Proofs.Tryz.func111
noncomputable def k112 := kd 112 [] Proofs.Tryz.f112 Proofs.Tryz.func112
noncomputable def k113 := kd 113 [] Proofs.Tryz.f113 Proofs.Tryz.func113
noncomputable def k114 := kd 114 [] Proofs.Tryz.f114 Proofs.Tryz.func114
noncomputable def k115 := kd 115 [] Proofs.Tryz.f115 Proofs.Tryz.func115
noncomputable def k116 := kd 116 [] Proofs.Tryz.f116 Proofs.Tryz.func116
noncomputable def k117 := kd 117 [] Proofs.Tryz.f117 Proofs.Tryz.func117
noncomputable def k119 := kd 119 [] Proofs.Tryz.f119 Proofs.Tryz.func119
noncomputable def k120 := kd 120 [] Proofs.Tryz.f120 Proofs.Tryz.func120
noncomputable def k121 := kd 121 [] Proofs.Tryz.f121 Proofs.Tryz.func121
noncomputable def k122 := kd 122 [] Proofs.Tryz.f122 Proofs.Tryz.func122
noncomputable def k123 := kd 123 [] Proofs.Tryz.f123 Proofs.Tryz.func123
noncomputable def k124 := kd 124 [] Proofs.Tryz.f124 Proofs.Tryz.func124
noncomputable def k125 := kd 125 [] Proofs.Tryz.f125 Proofs.Tryz.func125
noncomputable def k128 := kd 128 [] Proofs.Tryz.f128 Proofs.Tryz.func128
noncomputable def k129 := kd 129 [] Proofs.Tryz.f129 Proofs.Tryz.func129
noncomputable def k130 := kd 130 [] Proofs.Tryz.f130 Proofs.Tryz.func130
noncomputable def k131 := kd 131 [] Proofs.Tryz.f131 Proofs.Tryz.func131
noncomputable def k133 := kd 133 [] Proofs.Tryz.f133 Proofs.Tryz.func133
noncomputable def k134 := kd 134 [] Proofs.Tryz.f134 Proofs.Tryz.func134
noncomputable def k135 := kd 135 [] Proofs.Tryz.f135 Proofs.Tryz.func135
noncomputable def k137 := kd 137 [] Proofs.Tryz.f137 Proofs.Tryz.func137
noncomputable def k138 := kd 138 [] Proofs.Tryz.f138 Proofs.Tryz.func138
noncomputable def k139 := kd 139 [] Proofs.Tryz.f139 Proofs.Tryz.func139
noncomputable def k140 := kd 140 [] Proofs.Tryz.f140 Proofs.Tryz.func140
noncomputable def k141 := kd 141 [] Proofs.Tryz.f141 Proofs.Tryz.func141
noncomputable def k142 := kd 142 [] Proofs.Tryz.f142 Proofs.Tryz.func142
noncomputable def k143 := kd 143 [] Proofs.Tryz.f143 Proofs.Tryz.func143
noncomputable def k144 := kd 144 [] Proofs.Tryz.f144 Proofs.Tryz.func144
noncomputable def k145 := kd 145 [] Proofs.Tryz.f145 Proofs.Tryz.func145
noncomputable def k146 := kd 146 [] Proofs.Tryz.f146 Proofs.Tryz.func146
noncomputable def k147 := kd 147 [] Proofs.Tryz.f147 Proofs.Tryz.func147
noncomputable def k148 := kd 148 [] Proofs.Tryz.f148 Proofs.Tryz.func148
noncomputable def k149 := kd 149 [] Proofs.Tryz.f149 Proofs.Tryz.func149
noncomputable def k150 := kd 150 [] Proofs.Tryz.f150 Proofs.Tryz.func150
noncomputable def k151 := kd 151 [] Proofs.Tryz.f151 Proofs.Tryz.func151
noncomputable def k152 := kd 152 [] Proofs.Tryz.f152 Proofs.Tryz.func152
noncomputable def k153 := kd 153 [] Proofs.Tryz.f153 Proofs.Tryz.func153
theorem k154.has : HasX pr 154 Extern.BytealgIndexByte.indexByte := by rw [prE0]; exact ⟨Proofs.Tryz.f154, Proofs.Tryz.func154, by rfl, by rfl, by rfl, by rfl⟩
noncomputable def k155 := kd 155 [] Proofs.Tryz.f155 Proofs.Tryz.func155
noncomputable def k158 := kd 158 [] Proofs.Tryz.f158 Proofs.Tryz.func158
noncomputable def k159 := kd 159 [] Proofs.Tryz.f159 Proofs.Tryz.func159
noncomputable def k161 := kd 161 [] Proofs.Tryz.f161 Proofs.Tryz.func161
noncomputable def k162 := kd 162 [] Proofs.Tryz.f162 Proofs.Tryz.func162
noncomputable def k175 := kd 175 [] Proofs.Tryz.f175 Proofs.Tryz.func175
noncomputable def k176 := kd 176 [] Proofs.Tryz.f176 Proofs.Tryz.func176
noncomputable def k178 := kd 178 [] Proofs.Tryz.f178 Proofs.Tryz.func178
noncomputable def k198 := kd 198 [] Proofs.Tryz.f198 Proofs.Tryz.func198
noncomputable def k199 := kd 199 [] Proofs.Tryz.f199 Proofs.Tryz.func199
noncomputable def k200 := kd 200 [] Proofs.Tryz.f200 Proofs.Tryz.func200
noncomputable def k201 := kd 201 [] Proofs.Tryz.f201 Proofs.Tryz.func201
noncomputable def k202 := kd 202 [] Proofs.Tryz.f202 Proofs.Tryz.func202
noncomputable def k203 := kd 203 [] Proofs.Tryz.f203 Proofs.Tryz.func203
noncomputable def k204 := kd 204 [] Proofs.Tryz.f204 Proofs.Tryz.func204
noncomputable def k205 := kd 205 [200000] Proofs.Tryz.f205 Proofs.Tryz.func205
noncomputable def k221 := kd 221 [] Proofs.Tryz.f221 Proofs.Tryz.func221
noncomputable def k238 := kd 238 [] Proofs.Tryz.f238 Proofs.Tryz.func238
noncomputable def k239 := kd 239 [] Proofs.Tryz.f239 Proofs.Tryz.func239
noncomputable def k251 := kd 251 [] Proofs.Tryz.f251 Proofs.Tryz.func251
noncomputable def k252 := kd 252 [] Proofs.Tryz.f252 Proofs.Tryz.func252
noncomputable def k253 := kd 253 [] Proofs.Tryz.f253 Proofs.Tryz.func253
noncomputable def k294 := kd 294 [] Proofs.Tryz.f294 Proofs.Tryz.func294
noncomputable def k295 := kd 295 [7] Proofs.Tryz.f295 Proofs.Tryz.func295
noncomputable def k296 := kd 296 [] Proofs.Tryz.f296 Proofs.Tryz.func296
noncomputable def k308 := kd 308 [] Proofs.Tryz.f308 Proofs.Tryz.func308
noncomputable def k322 := kd 322 [10] Proofs.Tryz.f322 Proofs.Tryz.func322
noncomputable def k323 := kd 323 [] Proofs.Tryz.f323 Proofs.Tryz.func323
noncomputable def k324 := kd 324 [] Proofs.Tryz.f324 Proofs.Tryz.func324
noncomputable def k338 := kd 338 [] Proofs.Tryz.f338 Proofs.Tryz.func338
noncomputable def k339 := kd 339 [] Proofs.Tryz.f339 Proofs.Tryz.func339
noncomputable def k340 := kd 340 [] Proofs.Tryz.f340 Proofs.Tryz.func340
noncomputable def k341 := kd 341 [] Proofs.Tryz.f341 Proofs.Tryz.func341
noncomputable def k346 := kd 346 [] Proofs.Tryz.f346 Proofs.Tryz.func346
noncomputable def k349 := kd 349 [] Proofs.Tryz.f349 Proofs.Tryz.func349
variable [Draws]
open Go.RowKit
inductive Sh where
 | bool
 | int (k : IntKind)
 | str
 | slice (fs : List Sh)
def shapeFields (P : Program) (sh : TypeId → Option (List Sh)) : List Field → Nat → Option (List Sh)
 | [], _ => some []
 | f :: r, off => if f.offset = off then match sh f.type, shapeFields P sh r (off + P.cellsOf f.type) with
   | some a, some b => if a.length = P.cellsOf f.type then some (a ++ b) else none
   | _, _ => none
  else none
def shapeOf (P : Program) : Nat → TypeId → Option (List Sh)
 | 0, _ => none
 | n + 1, t => match P.underlying t with
  | some .bool => some [.bool]
  | some (.int k) => some [.int k]
  | some .string => some [.str]
  | some (.slice e) => match shapeOf P n e with
   | some l => if l.length = P.cellsOf e ∧ P.cellsOf e ≠ 0 then some [.slice l] else none
   | none => none
  | some (.struct fs) => match shapeFields P (shapeOf P n) fs.toList 0 with
   | some l => if l.length = P.cellsOf t then some l else none
   | none => none
  | _ => none
inductive ShOk : Sh → AVal → Prop where
 | bool (b : Bool) : ShOk .bool (.bool b)
 | int (k : IntKind) (n : Int) (h : (Lit.int k n).wf = true) : ShOk (.int k) (.int k n)
 | str (s : ByteArray) (h : s.size ≤ maxLen) : ShOk .str (.str s)
 | list (fs : List Sh) (es : List (List AVal)) (hb : es.length ≤ maxLen) (hl : ∀ e ∈ es, e.length = fs.length)
   (h : ∀ (e : List AVal) (i : Nat) (f : Sh) (d : AVal), e ∈ es → fs[i]? = some f → e[i]? = some d → ShOk f d) : ShOk (.slice fs) (.list false fs.length es)
def allC (w : World) (b : Nat) : Nat :=
 match w.heap[b]? with
 | some (.cells cells _ _) => cells.size
 | _ => 0
theorem allC_cell {w : World} {b i : Nat} {v : Value} (h : w.cell? ⟨b, i, none⟩ = some v) : i < allC w b := by
 unfold World.cell? at h
 unfold allC
 simp only [] at h
 split at h
 ·rename_i hh
  rw [hh]
  simp only []
  exact (Array.getElem?_eq_some_iff.1 h).1
 ·cases h
theorem ShOk.isCell {s : Sh} {a : AVal} (h : ShOk s a) : a.isCell = true := by cases h <;> rfl
section
variable {H : Type} {enc : TypeId × Value → H} {P : Program} {w : World} {spare : Nat → Bool} {held : Bool}
theorem cells?_get {a : Addr} {n : Nat} {cs : List Value} (h : w.cells? 0 a n = some cs) : cs.length = n ∧ ∀ i, i < n → w.cell? (a.add i) = cs[i]? := by
 unfold World.cells? at h
 rw [if_pos (Nat.zero_le _)] at h
 exact ⟨by simpa using Go.mapM_some_length h, fun i hi => Go.mapM_some_get h i i (by simp [hi])⟩
def RdAll (w : World) (shs : List Sh) (cs : List Value) : Prop :=
 ∃ asv : List AVal, asv.length = cs.length ∧ shs.length = cs.length ∧ (∀ (i : Nat) (s : Sh) (a : AVal), shs[i]? = some s → asv[i]? = some a → ShOk s a) ∧
  ∀ (i : Nat) (a : AVal) (c : Value), asv[i]? = some a → cs[i]? = some c → Rd (allC w) w a c
theorem RdAll.one {s : Sh} {a : AVal} {c : Value} (h : ShOk s a) (hr : Rd (allC w) w a c) : RdAll w [s] [c] := by
 refine ⟨[a], rfl, rfl, fun i s' a' h1 h2 => ?_, fun i a' c' h1 h2 => ?_⟩
 ·cases i with
  | zero => simp at h1 h2; subst h1 h2; exact h
  | succ i => simp at h1
 ·cases i with
  | zero => simp at h1 h2; subst h1 h2; exact hr
  | succ i => simp at h1
theorem RdAll.append {s1 s2 : List Sh} {c1 c2 : List Value} (h1 : RdAll w s1 c1) (h2 : RdAll w s2 c2) : RdAll w (s1 ++ s2) (c1 ++ c2) := by
 obtain ⟨a1, l1, m1, o1, r1⟩ := h1
 obtain ⟨a2, l2, m2, o2, r2⟩ := h2
 refine ⟨a1 ++ a2, by simp [l1, l2], by simp [m1, m2], fun i s a hs ha => ?_, fun i a c ha hc => ?_⟩
 ·by_cases hi : i < c1.length
  ·rw [List.getElem?_append_left (by omega)] at hs ha
   exact o1 i s a hs ha
  ·rw [List.getElem?_append_right (by omega)] at hs ha
   rw [m1] at hs; rw [l1] at ha
   exact o2 _ s a hs ha
 ·by_cases hi : i < c1.length
  ·rw [List.getElem?_append_left (by omega)] at ha hc
   exact r1 i a c ha hc
  ·rw [List.getElem?_append_right (by omega)] at ha hc
   rw [l1] at ha
   exact r2 _ a c ha hc
theorem RdAll.nil : RdAll w [] [] := ⟨[], rfl, rfl, fun i s a h => by simp at h, fun i a c h => by simp at h⟩
theorem open_fields {sh : TypeId → Option (List Sh)} (tr : Field → List Value → Prop) (htr : ∀ (f : Field) (cs : List Value) (l : List Sh), tr f cs → sh f.type = some l → RdAll w l cs) (cs : List Value) :
  ∀ (fs : List Field) (off : Nat) (l : List Sh), shapeFields P sh fs off = some l → (∀ f ∈ fs, tr f ((cs.drop f.offset).take (P.cellsOf f.type))) → off + l.length = cs.length → RdAll w l (cs.drop off)
 | [], off, l, h, _, hl => by
  simp only [shapeFields, Option.some.injEq] at h; subst h
  have : cs.drop off = [] := List.drop_eq_nil_of_le (by simp at hl; omega)
  rw [this]; exact .nil
 | f :: r, off, l, h, ht, hl => by
  simp only [shapeFields] at h
  split at h
  case isFalse => cases h
  rename_i ho
  split at h
  case h_2 => cases h
  rename_i a b h1 h2
  split at h
  case isFalse => cases h
  rename_i hlen
  cases h
  have hf := htr f _ _ (ht f (by simp)) h1
  have hr := open_fields tr htr cs r _ _ h2 (fun g hg => ht g (by simp [hg])) (by simp at hl; omega)
  rw [ho] at hf
  have := hf.append hr
  rwa [← List.drop_drop, List.take_append_drop] at this
theorem open_shape : ∀ (n : Nat) (fuel : Nat) (t : TypeId) (cs : List Value) (x : DataW H × List MemPlace) (l : List Sh), shapeOf P n t = some l → DataW.trod enc P w 0 spare held fuel t cs = some x → RdAll w l cs
 | 0, _, _, _, _, _, h, _ => by simp [shapeOf] at h
 | n + 1, fuel, t, cs, x, l, h, ht => by
  unfold shapeOf at h
  split at h
  ·rename_i hu
   cases h
   cases fuel with
   | zero => simp [DataW.trod] at ht
   | succ m =>
    unfold DataW.trod at ht
    rw [hu] at ht
    split at ht <;> simp_all
    exact .one (.bool _) (.bool _)
  ·rename_i k hu
   cases h
   cases fuel with
   | zero => simp [DataW.trod] at ht
   | succ m =>
    unfold DataW.trod at ht
    rw [hu] at ht
    split at ht <;> simp_all
    obtain ⟨⟨rfl, hw⟩, _⟩ := ht
    exact .one (.int _ _ hw) (.int _ _)
  ·rename_i hu
   cases h
   cases fuel with
   | zero => simp [DataW.trod] at ht
   | succ m =>
    unfold DataW.trod at ht
    rw [hu] at ht
    split at ht <;> simp_all
    exact .one (.str _ ht.1) (.str _)
  ·rename_i e hu
   split at h
   case h_2 => cases h
   rename_i fs hfs
   split at h
   case isFalse => cases h
   rename_i hlen'
   cases h
   have hlen := hlen'.1
   rcases DataW.trod_slice hu ht with ⟨rfl, _⟩ | ⟨a, len, cap, elems, rest, m, rfl, rfl, _, _, hl, hm, hel, hcell, _, _⟩
   ·have hes : ShOk (.slice fs) (.list false fs.length []) := .list fs [] (Nat.zero_le _) (by simp) (by simp)
    exact .one hes (.list0 _ _ _ _ (by simp))
   ·obtain ⟨b, off, spot⟩ := a
    have each : ∀ i, i < len → ∃ cells, w.cells? 0 ((Addr.mk b off spot).add (i * P.cellsOf e)) (P.cellsOf e) = some cells ∧ RdAll w fs cells := by
     intro i hi
     have h1 := hcell i hi
     rw [List.getElem?_eq_getElem (by omega), Option.bind_eq_some_iff] at h1
     obtain ⟨cells, h2, h3⟩ := h1
     exact ⟨cells, h2, open_shape n m e cells _ fs hfs h3⟩
    by_cases h0 : len = 0
    ·subst h0
     have hes : ShOk (.slice fs) (.list false fs.length []) := .list fs [] (Nat.zero_le _) (by simp) (by simp)
     exact .one hes (.list0 _ _ _ _ (by simp))
    ·by_cases hz : P.cellsOf e = 0
     ·exact absurd hz hlen'.2
     ·have hspot : spot = none := by
       obtain ⟨cells, h1, _⟩ := each 0 (by omega)
       obtain ⟨h2, h3⟩ := cells?_get h1
       have h4 := h3 0 (by omega)
       rw [List.getElem?_eq_getElem (by omega)] at h4
       have := World.cell?_spot h4
       simpa [Addr.add] using this
      subst hspot
      
      have hch : ∃ F : Nat → List AVal, ∀ i, i < len → (F i).length = fs.length ∧ (∀ (j : Nat) (s : Sh) (a : AVal), fs[j]? = some s → (F i)[j]? = some a → ShOk s a) ∧
        ∃ cells : List Value, cells.length = fs.length ∧ (∀ j, j < fs.length → w.cell? ⟨b, off + i * fs.length + j, none⟩ = cells[j]?) ∧ ∀ (j : Nat) (a : AVal) (c : Value), (F i)[j]? = some a → cells[j]? = some c → Rd (allC w) w a c := by
       refine ⟨fun i => if hi : i < len then Classical.choose (each i hi).choose_spec.2 else [], fun i hi => ?_⟩
       obtain ⟨h1, h2, h3, h4⟩ := Classical.choose_spec (each i hi).choose_spec.2
       have hc := (each i hi).choose_spec.1
       obtain ⟨h5, h6⟩ := cells?_get hc
       simp only [dif_pos hi]
       refine ⟨by omega, h3, (each i hi).choose, by omega, fun j hj => ?_, h4⟩
       rw [← h6 j (by omega)]
       rw [WideShapes.add_plain, WideShapes.add_plain, hlen]
      obtain ⟨F, hF⟩ := hch
      have hget : ∀ (i : Nat) (e' : List AVal), ((List.range len).map F)[i]? = some e' → i < len ∧ e' = F i := by
       intro i e' he
       by_cases hi : i < len
       ·simp [hi] at he; exact ⟨hi, he.symm⟩
       ·simp [hi] at he
      refine .one (a := .list false fs.length ((List.range len).map F)) (.list _ _ (by simp; omega) (fun e' he' => ?_) fun e' i f d he' hf hd => ?_) ?_
      ·obtain ⟨i, hi, rfl⟩ := List.mem_map.1 he'
       exact (hF i (by simpa using hi)).1
      ·obtain ⟨i', hi', rfl⟩ := List.mem_map.1 he'
       exact (hF i' (by simpa using hi')).2.1 i f d hf hd
      ·have hcellv : ∀ i j, i < len → j < fs.length → ∃ v, w.cell? ⟨b, off + i * fs.length + j, none⟩ = some v := by
        intro i j hi hj
        obtain ⟨_, _, cells, h1, h2, _⟩ := hF i hi
        exact ⟨cells[j], by rw [h2 j hj, List.getElem?_eq_getElem (by omega)]⟩
       have := Rd.list (C := allC w) (w := w) false fs.length ((List.range len).map F) b off cap (fun i j => (w.cell? ⟨b, off + i * fs.length + j, none⟩).getD .nilIface) (by simp) (by simpa using hl)
        (fun e' he' => by obtain ⟨i, hi, rfl⟩ := List.mem_map.1 he'; exact (hF i (by simpa using hi)).1) ?_ ?_ ?_ ?_
       ·simpa using this
       ·obtain ⟨v, hv⟩ := hcellv (len - 1) (fs.length - 1) (by omega) (by omega)
        have h1 := allC_cell hv
        simp only [List.length_map, List.length_range]
        have h2 : len * fs.length = (len - 1) * fs.length + fs.length := by
         rw [← Nat.succ_mul]; congr 1; omega
        omega
       ·intro i j hi hj
        obtain ⟨v, hv⟩ := hcellv i j (by simpa using hi) hj
        rw [hv]; rfl
       ·intro i j e' d he hd
        obtain ⟨hi, rfl⟩ := hget i e' he
        have hj : j < fs.length := by rw [← (hF i hi).1]; exact (List.getElem?_eq_some_iff.1 hd).1
        exact ((hF i hi).2.1 j _ d (List.getElem?_eq_getElem hj) hd).isCell
       ·intro i j e' d he hd
        obtain ⟨hi, rfl⟩ := hget i e' he
        have hj : j < fs.length := by rw [← (hF i hi).1]; exact (List.getElem?_eq_some_iff.1 hd).1
        obtain ⟨_, _, cells, h1, h2, h3⟩ := hF i hi
        refine h3 j d _ hd ?_
        rw [← h2 j hj]
        obtain ⟨v, hv⟩ := hcellv i j hi hj
        rw [hv]; rfl
  ·rename_i fs hu
   split at h
   case h_2 => cases h
   rename_i l' hl'
   split at h
   case isFalse => cases h
   rename_i hll
   cases h
   obtain ⟨xs, m, rfl, _, hlen, hxs, hf⟩ := DataW.trod_struct hu ht
   have := open_fields (P := P) (w := w) (sh := shapeOf P n) (fun f cs => ∃ y, DataW.trod enc P w 0 spare held m f.type cs = some y) (fun f cs l' ⟨y, hy⟩ hl => open_shape n m f.type cs y l' hl hy) cs fs.toList 0 _ hl' ?_ ?_
   ·simpa using this
   ·intro f hfm
    obtain ⟨i, hi, he⟩ := List.getElem_of_mem hfm
    have h1 := hf i f (by rw [← he]; simp)
    exact ⟨xs[i]'(by simp at hi; omega), by rw [h1]; exact List.getElem?_eq_getElem _⟩
   ·omega
  ·cases h
end
open Go.RowKit Go.ChangeShapes
def paramSh (P : Program) (n : Nat) (t : TypeId) : Option (Bool × List Sh) :=
 match P.underlying t with
 | some (.struct _) => (shapeOf P n t).map fun l => (true, l)
 | some (.array _ _) => none
 | _ => match shapeOf P n t with
  | some [s] => some (false, [s])
  | _ => none
def ArgOk : Bool × List Sh → AVal → Prop
 | (true, l), a => ∃ asv, a = .agg asv ∧ asv.length = l.length ∧ ∀ (i : Nat) (s : Sh) (c : AVal), l[i]? = some s → asv[i]? = some c → ShOk s c
 | (false, l), a => ∃ s, l = [s] ∧ ShOk s a
def ArgsOk : List (Bool × List Sh) → List AVal → Prop
 | [], [] => True
 | p :: ps, a :: asv => ArgOk p a ∧ ArgsOk ps asv
 | _, _ => False
def paramShs (P : Program) (n : Nat) : List TypeId → Option (List (Bool × List Sh))
 | [] => some []
 | t :: ts => match paramSh P n t, paramShs P n ts with
  | some p, some ps => some (p :: ps)
  | _, _ => none
section
variable {H : Type} {enc : TypeId × Value → H} {P : Program} {w : World} {τ : Nat → Option Loc}
theorem open_arg {n : Nat} {t : TypeId} {v : Value} {d : DataW H} {ps : List MemPlace} {p : Bool × List Sh} {base : Nat} (hp : paramSh P n t = some p) (hv : Value.okWide P w .any base t v)
  (h : DataW.Trod enc P w 0 (fun _ => true) true t v d ps) : ∃ a, ArgOk p a ∧ Rel (allC w) w τ [] a v := by
 obtain ⟨fuel, hf⟩ := h
 unfold paramSh at hp
 split at hp
 ·rename_i fs hu
  simp only [Option.map_eq_some_iff] at hp
  obtain ⟨l, hl, rfl⟩ := hp
  obtain ⟨asv, h1, h2, h3, h4⟩ := open_shape n fuel t _ _ l hl hf
  unfold Value.okWide at hv
  rw [hu] at hv
  obtain ⟨cs, rfl, _⟩ := hv
  simp only [Value.cells] at h1 h2 h4
  exact ⟨.agg asv, ⟨asv, rfl, by omega, h3⟩, .agg asv cs (by simpa using h1) fun i c v hc hv => .rd (h4 i c v hc (by simpa using hv))⟩
 ·cases hp
 ·rename_i hns hna
  split at hp
  case h_2 => cases hp
  rename_i s hl
  cases hp
  obtain ⟨asv, h1, h2, h3, h4⟩ := open_shape n fuel t _ _ _ hl hf
  have hvc : v.cells.toList = [v] := by
   have : ∀ cs, v ≠ .agg cs := by
    rintro cs rfl
    unfold Value.okWide at hv
    split at hv
    ·rename_i fs hu; exact hns fs hu
    ·rename_i k e hu; exact hna k e hu
    ·unfold Cell.okWide at hv
     split at hv <;> simp_all [Cell.ok]
   cases v <;> first | rfl | exact absurd rfl (this _)
  rw [hvc] at h1 h2 h4
  obtain ⟨a, rfl⟩ := List.length_eq_one_iff.1 h1
  exact ⟨a, ⟨s, rfl, h3 0 s a rfl rfl⟩, .rd (h4 0 a v rfl rfl)⟩
theorem open_args {n : Nat} {base : Nat} : ∀ (ts : List TypeId) (vs : List Value) (ds : List (DataW H)) (ps : List MemPlace) (shs : List (Bool × List Sh)), paramShs P n ts = some shs →
  (∀ (j : Nat) (t : TypeId) (v : Value), ts[j]? = some t → vs[j]? = some v → Value.okWide P w .any base t v) →
  DataW.TrodAll enc P w 0 (fun _ => true) true ts vs ds ps → ∃ asv, ArgsOk shs asv ∧ asv.length = vs.length ∧ ∀ (i : Nat) (a : AVal) (v : Value), asv[i]? = some a → vs[i]? = some v → Rel (allC w) w τ [] a v
 | [], vs, ds, ps, shs, hs, hv, h => by
  obtain ⟨rfl, rfl, rfl⟩ := trodAll_nil h
  simp only [paramShs, Option.some.injEq] at hs; subst hs
  exact ⟨[], trivial, rfl, fun i a v h => by simp at h⟩
 | t :: ts, vs, ds, ps, shs, hs, hv, h => by
  obtain ⟨v, vs', d, ds', p, q, rfl, rfl, rfl, h1, h2⟩ := trodAll_cons h
  simp only [paramShs] at hs
  split at hs
  case h_2 => cases hs
  rename_i sh shs' e1 e2
  cases hs
  obtain ⟨a, ha, hr⟩ := open_arg (τ := τ) e1 (hv 0 t v rfl rfl) h1
  obtain ⟨asv, has, hl, hrs⟩ := open_args ts vs' ds' q shs' e2 (fun j t' v' ht hv' => hv (j + 1) t' v' (by simpa using ht) (by simpa using hv')) h2
  refine ⟨a :: asv, ⟨ha, has⟩, by simp [hl], fun i a' v' h1 h2 => ?_⟩
  cases i with
  | zero => simp at h1 h2; subst h1 h2; exact hr
  | succ i => exact hrs i a' v' (by simpa using h1) (by simpa using h2)
theorem trodAll_below (hl : laidOutB P = true) {W W' : World} (hb : Below W.heap.size W W') : ∀ (ts : List TypeId) (vs : List Value) (ds : List (DataW H)) (ps : List MemPlace),
  (∀ t ∈ ts, P.readableRec t = true ∧ t < P.types.size) → DataW.TrodAll enc P W 0 (fun _ => true) true ts vs ds ps →
  DataW.TrodAll enc P W' 0 (fun b => decide (b < W.heap.size)) true ts vs ds ps
 | [], vs, ds, ps, _, h => by obtain ⟨rfl, rfl, rfl⟩ := trodAll_nil h; exact trodAll_mk0
 | t :: ts, vs, ds, ps, hr, h => by
  obtain ⟨v, vs', d, ds', p, q, rfl, rfl, rfl, h1, h2⟩ := trodAll_cons h
  have hlt : ∀ x ∈ p, x.block < W.heap.size := by obtain ⟨m, hm⟩ := h1; exact DataW.trod_lt m _ _ _ hm
  exact trodAll_cons_mk (Below.trod hl (hr t (by simp)).1 (hr t (by simp)).2 h1 hb hlt) (trodAll_below hl hb ts vs' ds' q (fun t' ht => hr t' (by simp [ht])) h2)
theorem calls_of_law {f : FuncId} {fn : Func} {c : Code} {args : Array Value} {asv : List AVal} (hfn : P.funcs[f]? = some fn) (hname : (fn.name == "runtime.NumGoroutine") = false) (hbody : fn.body = some c)
  (hlen : asv.length = args.size) (hrel : ∀ (i : Nat) (a : AVal) (v : Value), asv[i]? = some a → args[i]? = some v → Rel (allC w) w (fun _ => none) [] a v)
  (hlaw : ACalls P f asv [] (fun r _ => r = .bool true)) (hgl : ∀ (g : Nat) (cs : List AVal), Draws.gl g = some cs → Rd (allC w) w (.cptr cs 0) (.pointer (some ⟨g, 0, none⟩))) :
  Calls P f args w fun e w' => e = .returned (.bool true) ∧ Below w.heap.size w w' := by
 have hwf : WF (allC w) (fun _ => none) [] w := by
  refine ⟨fun id o h => by simp at h, fun id o h => by simp at h, fun id o l h => by simp at h, fun id l h => by simp at h, fun i j li lj h => by simp at h, fun b hb => ?_, hgl⟩
  unfold allC at hb
  split at hb
  ·rename_i h
   exact lt_of_heap h
  ·omega
 have h := hlaw (allC w) (fun _ => none) w args hwf hlen hrel
 have hcall : (callFunc f args).run P w = .ok (.enter f args) w := by
  simp only [callFunc, Sem.run_bind, run_program, Result.andThen_ok, hfn, hname, Bool.false_eq_true, if_false, hbody, Option.isNone_some, Sem.run_pure]
 unfold CallsX at h
 rw [hcall] at h
 refine Calls.mono h fun e w' => ?_
 rintro ⟨v, r, C', τ', H', rfl, rfl, hr, hst, hstep⟩
 refine ⟨?_, hst.fr.os, hst.fr.tape, hst.fr.output, hst.fr.size, fun k hk => hst.fr.prot k ⟨hk, ?_⟩⟩
 ·cases hr with
  | rd hr => cases hr; rfl
 ·rintro ⟨id, l, h1, _⟩
  exact absurd h1 (Nat.not_lt_zero _)
end
theorem argsOk_cons {p : Bool × List Sh} {ps : List (Bool × List Sh)} {asv : List AVal} (h : ArgsOk (p :: ps) asv) : ∃ a as', asv = a :: as' ∧ ArgOk p a ∧ ArgsOk ps as' := by
 cases asv with
 | nil => exact h.elim
 | cons a asv => exact ⟨a, asv, rfl, h.1, h.2⟩
theorem argsOk_nil {asv : List AVal} (h : ArgsOk [] asv) : asv = [] := by
 cases asv with
 | nil => rfl
 | cons a asv => exact h.elim
theorem argOk_int {k : IntKind} {a : AVal} (h : ArgOk (false, [.int k]) a) : ∃ n, a = .int k n ∧ (Lit.int k n).wf = true := by
 obtain ⟨s, h1, h2⟩ := h
 cases h1
 cases h2 with
 | int _ n h => exact ⟨n, rfl, h⟩
def CellsOk : List Sh → List AVal → Prop
 | [], [] => True
 | s :: ss, a :: asv => ShOk s a ∧ CellsOk ss asv
 | _, _ => False
theorem cellsOk_of : ∀ (l : List Sh) (asv : List AVal), asv.length = l.length → (∀ (i : Nat) (s : Sh) (c : AVal), l[i]? = some s → asv[i]? = some c → ShOk s c) → CellsOk l asv
 | [], [], _, _ => trivial
 | s :: l, a :: asv, hl, h => ⟨h 0 s a rfl rfl, cellsOk_of l asv (by simpa using hl) fun i s c h1 h2 => h (i + 1) s c (by simpa using h1) (by simpa using h2)⟩
 | [], _ :: _, hl, _ => by simp at hl
 | _ :: _, [], hl, _ => by simp at hl
theorem shOk_slice {fs : List Sh} {a : AVal} (h : ShOk (.slice fs) a) : ∃ es, a = .list false fs.length es ∧ es.length ≤ maxLen ∧ ∀ e ∈ es, CellsOk fs e := by
 cases h with
 | list _ es hb hl h => exact ⟨es, rfl, hb, fun e he => cellsOk_of _ _ (hl e he) fun i s c h1 h2 => h e i s c he h1 h2⟩
theorem argOk_slice {fs : List Sh} {a : AVal} (h : ArgOk (false, [.slice fs]) a) : ∃ es, a = .list false fs.length es ∧ es.length ≤ maxLen ∧ ∀ e ∈ es, CellsOk fs e := by
 obtain ⟨s, h1, h2⟩ := h
 cases h1
 exact shOk_slice h2
theorem list_image {α β : Type} {g : α → β} {W : α → Prop} : ∀ (l : List β), (∀ x ∈ l, ∃ a, x = g a ∧ W a) → ∃ m : List α, l = m.map g ∧ ∀ a ∈ m, W a
 | [], _ => ⟨[], rfl, by simp⟩
 | x :: l, h => by
  obtain ⟨a, rfl, ha⟩ := h x (by simp)
  obtain ⟨m, rfl, hm⟩ := list_image l fun y hy => h y (by simp [hy])
  exact ⟨a :: m, rfl, fun b hb => by rcases List.mem_cons.1 hb with rfl | hb; exact ha; exact hm b hb⟩
theorem cellsOk_int {k : IntKind} {e : List AVal} (h : CellsOk [.int k] e) : ∃ n, e = [.int k n] ∧ (Lit.int k n).wf = true := by
 match e, h with
 | [a], h =>
  obtain ⟨h1, _⟩ := h
  cases h1
  rename_i n hn
  exact ⟨n, rfl, hn⟩
theorem argOk_ints {k : IntKind} {a : AVal} (h : ArgOk (false, [.slice [.int k]]) a) : ∃ l : List Int, a = .list false 1 (l.map fun n => [.int k n]) ∧ l.length ≤ maxLen ∧ ∀ n ∈ l, (Lit.int k n).wf = true := by
 obtain ⟨es, rfl, hl, h⟩ := argOk_slice h
 obtain ⟨m, rfl, hm⟩ := list_image (g := fun n => [AVal.int k n]) (W := fun n => (Lit.int k n).wf = true) es fun e he => cellsOk_int (h e he)
 exact ⟨m, rfl, by simpa using hl, hm⟩
attribute [local irreducible] ACalls
structure V where
 kind : Int
 num : Int
 str : ByteArray
def valC (v : V) : List AVal := [.int .i64 v.kind, .int .i64 v.num, .str v.str]
def validB (v : V) : Bool :=
 if v.kind = 0 then v.num == 0 && v.str.data.toList == []
 else if v.kind = 1 then (v.num == 0 || v.num == 1) && v.str.data.toList == []
 else if v.kind = 2 then decide (-1073741824 ≤ v.num) && decide (v.num ≤ 1073741824) && v.str.data.toList == []
 else if v.kind = 3 then v.num == 0 && decide (v.str.size ≤ 64)
 else if v.kind = 4 then decide (0 ≤ v.num) && decide (v.num ≤ 575999999) && v.str.data.toList == []
 else false
set_option maxRecDepth 20000 in
theorem value_Valid_spec (v : V) (H : List AObj) :
  ACalls pr 55 [.agg (valC v)] H (fun r H' => r = .bool (validB v) ∧ H' = H) := by
 refine ACalls.pure rfl (acalls_of_body k55.has ?_)
 repeat' ((conv => whnf); refine recA (fun _ => ?_) (fun _ => ?_))
 all_goals (conv => whnf)
 all_goals refine pubB ?_
 all_goals (simp_all [validB, bs_nil]; try omega)
set_option maxRecDepth 20000 in
theorem ref1_Valid_spec (v : V) (H : List AObj) :
  ACalls pr 115 [.agg (valC v)] H (fun r H' => r = .bool (validB v) ∧ H' = H) := by
 refine ACalls.pure rfl (acalls_of_body k115.has ?_)
 repeat' ((conv => whnf); refine recA (fun _ => ?_) (fun _ => ?_))
 all_goals (conv => whnf)
 all_goals refine pubB ?_
 all_goals (simp_all [validB, bs_nil]; try omega)
def cmpI (a b : Int) : Int := if a < b then -1 else if b < a then 1 else 0
def cmpS (a b : List UInt8) : Int := if Op.bytesLess a b then -1 else if a = b then 0 else 1
theorem isNaN_int_spec (a : Int) (H : List AObj) :
  ACalls pr 146 [.int .i64 a] H (fun r H' => r = .bool false ∧ H' = H) := by
 refine ACalls.pure rfl (acalls_of_body k146.has ?_)
 conv => whnf
 exact pubB (by simp)
theorem isNaN_string_spec (a : ByteArray) (H : List AObj) :
  ACalls pr 147 [.str a] H (fun r H' => r = .bool false ∧ H' = H) := by
 refine ACalls.pure rfl (acalls_of_body k147.has ?_)
 conv => whnf
 exact pubB (by simp)
theorem cmpCompare_int_spec (a b : Int) (H : List AObj) :
  ACalls pr 106 [.int .i64 a, .int .i64 b] H (fun r H' => r = .int .i64 (cmpI a b) ∧ H' = H) := by
 refine ACalls.pure rfl (acalls_of_body k106.has ?_)
 conv => whnf
 refine (isNaN_int_spec _ _).use ?_
 conv => whnf
 refine (isNaN_int_spec _ _).use ?_
 repeat' ((conv => whnf); refine recA (fun _ => ?_) (fun _ => ?_))
 all_goals (conv => whnf)
 all_goals refine pubI ?_
 all_goals (simp_all [cmpI]; try omega)
theorem cmpCompare_string_spec (a b : ByteArray) (H : List AObj) :
  ACalls pr 107 [.str a, .str b] H (fun r H' => r = .int .i64 (cmpS a.data.toList b.data.toList) ∧ H' = H) := by
 refine ACalls.pure rfl (acalls_of_body k107.has ?_)
 conv => whnf
 refine (isNaN_string_spec _ _).use ?_
 conv => whnf
 refine (isNaN_string_spec _ _).use ?_
 repeat' ((conv => whnf); refine recA (fun _ => ?_) (fun _ => ?_))
 all_goals (conv => whnf)
 all_goals refine pubI ?_
 all_goals (simp_all [cmpS])
def orI : List Int → Int
 | [] => 0
 | x :: xs => if x = 0 then orI xs else x
def valCmp (a b : V) : Int := orI [cmpI a.kind b.kind, cmpI a.num b.num, cmpS a.str.data.toList b.str.data.toList]
theorem orI_drop (l : List Int) (k : Nat) (h : ∀ j, j < k → l.getD j 0 = 0) : orI l = orI (l.drop k) := by
 induction k generalizing l with
 | zero => rfl
 | succ k ih =>
  cases l with
  | nil => rfl
  | cons x xs =>
   have h0 := h 0 (by omega)
   simp at h0
   subst h0
   simp only [orI, if_true, List.drop_succ_cons]
   exact ih xs fun j hj => by have := h (j + 1) (by omega); simpa using this
theorem getElem?_getD {l : List Int} {k : Nat} (h : k < l.length) : l[k]? = some (l.getD k 0) := by
 rw [List.getD_eq_getElem?_getD, List.getElem?_eq_getElem h]; rfl
theorem orI_at (l : List Int) (k : Nat) (h : ∀ j, j < k → l.getD j 0 = 0) (hk : k < l.length) (hne : l.getD k 0 ≠ 0) : orI l = l.getD k 0 := by
 rw [orI_drop l k h, List.drop_eq_getElem_cons hk]
 rw [List.getD_eq_getElem?_getD, List.getElem?_eq_getElem hk] at hne ⊢
 simp only [Option.getD_some] at hne ⊢
 simp [orI, hne]
theorem orI_all (l : List Int) (h : ∀ j, j < l.length → l.getD j 0 = 0) : orI l = 0 := by
 rw [orI_drop l l.length h, List.drop_length]; rfl
set_option maxRecDepth 20000 in
theorem cmpOr_spec (l : List Int) (hl : l.length ≤ 1000000) (H : List AObj) :
  ACalls pr 105 [.list true 1 (l.map fun x => [.int .i64 x])] H (fun r H' => r = .int .i64 (orI l) ∧ H' = H) := by
 refine ACalls.pure rfl (acalls_of_body k105.has ?_)
 conv => whnf
 refine ⟨fun n ρ H => ∃ k : Nat, k + n = l.length ∧ (∀ j, j < k → l.getD j 0 = 0) ∧ H = [] ∧
  Sv 18 [(0, .list true 1 (l.map fun x => [.int .i64 x])), (2, .int .i64 0), (3, .int .i64 0), (6, .list true 1 (l.map fun x => [.int .i64 x])), (7, .int .i64 (l.map fun x => [AVal.int .i64 x]).length), (8, .int .i64 k)] ρ, l.length, [], ⟨0, by simp, by simp, rfl, Sv.intro rfl ⟨rfl, rfl, rfl, rfl, rfl, rfl, trivial⟩⟩, ?_⟩
 rintro n ρ H ⟨k, hk, hz, rfl, d, rfl⟩
 conv => whnf
 refine recA (fun hlt => ?_) (fun hlt => ?_)
 ·simp at hlt
  conv => whnf
  refine ⟨by omega, ?_⟩
  conv => whnf
  refine recO (e := [AVal.int .i64 (l.getD k 0)]) ?_ ?_
  ·rw [List.getElem?_map, getElem?_getD (by omega)]; rfl
  (conv => whnf); refine recA (fun hne => ?_) (fun hne => ?_)
  ·conv => whnf
   refine pubI ?_
   rw [orI_at l k hz (by omega) (by simpa using hne)]
  ·conv => whnf
   have e := wrapI ((k : Int) + 1) (by omega) (by omega)
   refine ⟨n - 1, by omega, Gp.keep rfl ?_ fun ρ1 h => ⟨k + 1, by omega, fun j hj => ?_, rfl, h⟩⟩
   ·exact ⟨rfl, rfl, rfl, rfl, rfl, intEq e, trivial⟩
   rcases Nat.lt_succ_iff_lt_or_eq.1 hj with h | rfl
   ·exact hz j h
   ·simpa using hne
 ·conv => whnf
  refine pubI ?_
  simp at hlt
  rw [orI_all l fun j hj => hz j (by omega)]
set_option maxRecDepth 20000 in
theorem value_Compare_spec (a b : V) (H : List AObj) :
  ACalls pr 62 [.agg (valC a), .agg (valC b)] H (fun r H' => r = .int .i64 (valCmp a b) ∧ H' = H) := by
 refine ACalls.pure rfl (acalls_of_body k62.has ?_)
 conv => whnf
 refine ⟨_, cmpCompare_int_spec a.kind b.kind _, ?_⟩
 conv => whnf
 refine ⟨_, cmpCompare_int_spec a.num b.num _, ?_⟩
 conv => whnf
 refine ⟨_, cmpCompare_string_spec a.str b.str _, ?_⟩
 conv => whnf
 refine ⟨_, cmpOr_spec [_, _, _] (by simp) _, ?_⟩
 conv => whnf
 exact pubI rfl
def truth (v : V) : Int := if v.kind = 1 ∧ validB v = true then v.num else -1
set_option maxRecDepth 20000 in
theorem value_Truth_spec (v : V) (H : List AObj) :
  ACalls pr 58 [.agg (valC v)] H (fun r H' => r = .int .i64 (truth v) ∧ H' = H) := by
 refine ACalls.pure rfl (acalls_of_body k58.has ?_)
 repeat' ((conv => whnf); first | refine recA (fun _ => ?_) (fun _ => ?_) | refine ACalls.use (value_Valid_spec v _) ?_)
 all_goals (conv => whnf)
 all_goals refine pubI ?_
 all_goals simp_all [truth]
def bC (l : List Int) : List (List AVal) := l.map fun n => [.int .u8 n]
def u8 (n : Int) : Int := IntKind.u8.wrap n
theorem roomB_le {n : Nat} (h : n ≤ 1000000000) : n ≤ roomB := Nat.le_trans h (by show _ ≤ 1099511627776; omega)
theorem pub_int {H1 : List AObj} {n : Nat} {ids : List Nat} {k : IntKind} {a b : Int} (h : a = b) : Pub H1 n ids (.int k a) (.int k b) := by subst h; exact .closed _ rfl
theorem pub2 {H1 : List AObj} {n : Nat} {ids : List Nat} {a b r s : AVal} (h1 : Pub H1 n ids a r) (h2 : Pub H1 n ids b s) : Pub H1 n ids (.tuple [a, b]) (.tuple [r, s]) := by
 refine .tuple _ _ rfl fun i v t h3 h4 => ?_
 rcases i with _ | _ | i
 ·cases h3; cases h4; exact h1
 ·cases h3; cases h4; exact h2
 ·simp at h3
theorem pubF {H1 : List AObj} {n : Nat} {id ep len sz : Nat} {es : List (List AVal)} (ho : H1[id]? = some (.arr sz es)) (he : ep = es.length) (hl : len = es.length) (hp : pureEs es = true) : Pub H1 n [] (.sl id ep 0 len) (.list false sz es) := by
 subst hl he
 have := Pub.frz (n := n) (ids := []) id es.length 0 es.length sz es ho rfl hp (by simp)
 rwa [List.drop_zero, List.take_length] at this
def and64 (a b : Int) : Int := IntKind.i64.wrap (BitVec.ofInt IntKind.i64.bits a &&& BitVec.ofInt IntKind.i64.bits b).toNat
theorem and64_mask (a : Int) (k : Nat) (hk : k ≤ 62) : and64 a (2 ^ k - 1) = a % 2 ^ k := by
 have h1 : BitVec.ofInt 64 ((2 : Int) ^ k - 1) = BitVec.ofNat 64 (2 ^ k - 1) := by
  have h2 : 1 ≤ 2 ^ k := Nat.one_le_two_pow
  rw [show ((2 : Int) ^ k - 1) = ((2 ^ k - 1 : Nat) : Int) by rw [Int.ofNat_sub h2]; simp, BitVec.ofInt_natCast]
 have h3 : (2 : Nat) ^ k ≤ 2 ^ 62 := Nat.pow_le_pow_right (by omega) hk
 have h4 : 1 ≤ 2 ^ k := Nat.one_le_two_pow
 show IntKind.i64.wrap ((BitVec.ofInt 64 a &&& BitVec.ofInt 64 (2 ^ k - 1)).toNat : Int) = _
 rw [h1, BitVec.toNat_and, BitVec.toNat_ofNat, Nat.mod_eq_of_lt (a := 2 ^ k - 1) (by omega), Nat.and_two_pow_sub_one_eq_mod, BitVec.toNat_ofInt]
 have h5 : ((a % ((2 ^ 64 : Nat) : Int)).toNat % 2 ^ k : Nat) < 2 ^ k := Nat.mod_lt _ (by omega)
 rw [wrapI _ (by omega) (by omega)]
 have h6 : 0 ≤ a % ((2 ^ 64 : Nat) : Int) := Int.emod_nonneg _ (by omega)
 rw [Int.natCast_emod, Int.toNat_of_nonneg h6]
 simp only [Int.natCast_pow]
 have : ((2 : Nat) : Int) ^ 64 = 2 ^ k * 2 ^ (64 - k) := by rw [← Int.pow_add]; congr 1; omega
 rw [show ((2 : Nat) : Int) ^ 64 = ((2 : Int)) ^ k * 2 ^ (64 - k) from this]
 exact Int.emod_emod_of_dvd a ⟨_, rfl⟩
theorem and_ffff (a : Int) : and64 a 65535 = a % 65536 := and64_mask a 16 (by omega)
theorem and_1 (a : Int) : and64 a 1 = a % 2 := and64_mask a 1 (by omega)
theorem and_3 (a : Int) : and64 a 3 = a % 4 := and64_mask a 2 (by omega)
theorem and_15 (a : Int) : and64 a 15 = a % 16 := and64_mask a 4 (by omega)
theorem and_31 (a : Int) : and64 a 31 = a % 32 := and64_mask a 5 (by omega)
def iC (l : List Int) : List (List AVal) := l.map fun n => [.int .i64 n]
theorem iC_length (l : List Int) : (iC l).length = l.length := List.length_map ..
theorem iC_get {l : List Int} {k : Nat} (h : k < l.length) : (iC l)[k]? = some [.int .i64 (l.getD k 0)] := by
 rw [iC, List.getElem?_map, getElem?_getD h]; rfl
def atV (l : List Int) (i : Int) : Int :=
 if l.length = 0 then and64 i 65535 else IntKind.i64.wrap (and64 (l.getD ((and64 i 65535).tmod l.length).toNat 0) 65535 + IntKind.i64.wrap ((and64 i 65535).tdiv l.length))
set_option maxRecDepth 20000 in
theorem At_spec (ex : Bool) (l : List Int) (i : Int) (H : List AObj) :
  ACalls pr 12 [.list ex 1 (iC l), .int .i64 i] H (fun r H' => r = .int .i64 (atV l i) ∧ H' = H) := by
 refine ACalls.pure rfl (acalls_of_body k12.has ?_)
 (conv => whnf); refine recA (fun h0 => ?_) (fun h0 => ?_)
 ·conv => whnf
  refine pubI ?_
  simp [iC_length] at h0
  simp [atV, h0, and64]
 ·simp [iC_length] at h0
  have hb := and_ffff i
  have h1 : 0 ≤ (and64 i 65535).tmod l.length := by rw [hb]; exact Int.tmod_nonneg _ (by omega)
  have h2 : (and64 i 65535).tmod l.length < l.length := Int.tmod_lt_of_pos _ (by have := List.length_pos_iff.2 h0; omega)
  conv => whnf
  refine And.intro (by simpa [iC_length] using h0) ?_
  conv => whnf
  refine And.intro (by simp only [iC_length]; exact h1) ?_
  conv => whnf
  refine recO (e := [.int .i64 (l.getD ((and64 i 65535).tmod l.length).toNat 0)]) ?_ ?_
  ·show (iC l)[((and64 i 65535).tmod ((iC l).length : Nat)).toNat]? = _
   rw [iC_length]
   exact iC_get (by omega)
  conv => whnf
  refine And.intro (by simpa [iC_length] using h0) ?_
  conv => whnf
  refine pubI ?_
  simp [atV, h0, and64, iC_length]
def shrI (a : Int) (k : Nat) : Int := a.fdiv (2 ^ (min k IntKind.i64.bits))
theorem shrI_eq (a : Int) (k : Nat) (hk : k ≤ 64) : shrI a k = a / 2 ^ k := by
 unfold shrI
 rw [Nat.min_eq_left (show k ≤ IntKind.i64.bits from hk)]
 exact Int.fdiv_eq_ediv_of_nonneg _ (Int.pow_nonneg (by omega))
def w64 (n : Int) : Int := IntKind.i64.wrap n
def momN (n : Int) : Int :=
 if (n / 256) % 16 = 0 then [0, 1, 575999999, 575999998, 1439, 1440].getD (n % 6).toNat 0
 else 144000 + (n / 8) % 4 * 1440 + n % 7 * 200 + (n / 32) % 2 * 1439 - 600
def momentV (n : Int) : Int := momN (n % 65536)
theorem getD_cells (l : List Int) (k : Nat) (h : k < l.length) : (l.map fun n => [AVal.int .i64 n])[k]? = some [.int .i64 (l.getD k 0)] := by
 rw [List.getElem?_map, getElem?_getD h]; rfl
set_option maxRecDepth 20000 in
theorem Moment_spec (n : Int) (H : List AObj) :
  ACalls pr 75 [.int .i64 n] H (fun r H' => r = .int .i64 (momentV n) ∧ H' = H) := by
 refine ACalls.pure rfl (acalls_of_body k75.has ?_)
 have hn := and_ffff n
 have e8 := shrI_eq (and64 n 65535) 8 (by omega)
 have e3 := shrI_eq (and64 n 65535) 3 (by omega)
 have e5 := shrI_eq (and64 n 65535) 5 (by omega)
 have a8 := and_15 (shrI (and64 n 65535) 8)
 have a3 := and_3 (shrI (and64 n 65535) 3)
 have a5 := and_1 (shrI (and64 n 65535) 5)
 rw [e8] at a8; rw [e3] at a3; rw [e5] at a5
 rw [hn] at a8 a3 a5
 have m6 : (and64 n 65535).tmod 6 = (n % 65536) % 6 := by rw [hn]; exact Int.tmod_eq_emod_of_nonneg (by omega)
 have m7 : (and64 n 65535).tmod 7 = (n % 65536) % 7 := by rw [hn]; exact Int.tmod_eq_emod_of_nonneg (by omega)
 (conv => whnf); refine And.intro (by decide) ?_
 (conv => whnf); refine recA (fun h0 => ?_) (fun h0 => ?_)
 ·replace h0 : (and64 (shrI (and64 n 65535) 8) 15 == 0) = true := h0
  rw [e8, hn, a8] at h0
  simp at h0
  (conv => whnf); refine And.intro (by decide) ?_
  (conv => whnf); refine And.intro (show 0 ≤ (and64 n 65535).tmod 6 by omega) ?_
  conv => whnf
  refine recO (e := [.int .i64 (momentV n)]) ?_ ?_
  ·show (([0, 1, 575999999, 575999998, 1439, 1440] : List Int).map fun n => [AVal.int .i64 n])[((and64 n 65535).tmod 6).toNat]? = _
   rw [m6, getD_cells _ _ (by simp; omega)]
   simp [momentV, momN, h0]
  conv => whnf
  exact pubI rfl
 ·replace h0 : (and64 (shrI (and64 n 65535) 8) 15 == 0) = false := h0
  rw [e8, hn, a8] at h0
  simp at h0
  repeat' ((conv => whnf); refine And.intro (by decide) ?_)
  conv => whnf
  refine pubI ?_
  show w64 (w64 (w64 (w64 (144000 + w64 (and64 (shrI (and64 n 65535) 3) 3 * 1440)) + w64 ((and64 n 65535).tmod 7 * 200)) + w64 (and64 (shrI (and64 n 65535) 5) 1 * 1439)) - 600) = momentV n
  rw [e3, e5, hn, a3, a5]
  rw [hn] at m7
  rw [m7]
  have q : ¬ (n % 65536 / 256) % 16 = 0 := by simpa using h0
  simp only [w64, momentV, momN]
  rw [if_neg q]
  have b3 : 0 ≤ n % 65536 / 2 ^ 3 % 4 ∧ n % 65536 / 2 ^ 3 % 4 ≤ 3 := by omega
  have b5 : 0 ≤ n % 65536 / 2 ^ 5 % 2 ∧ n % 65536 / 2 ^ 5 % 2 ≤ 1 := by omega
  have b7 : 0 ≤ n % 65536 % 7 ∧ n % 65536 % 7 ≤ 6 := by omega
  rw [wrapI (n % 65536 / 2 ^ 3 % 4 * 1440) (by omega) (by omega), wrapI (n % 65536 % 7 * 200) (by omega) (by omega), wrapI (n % 65536 / 2 ^ 5 % 2 * 1439) (by omega) (by omega)]
  rw [wrapI (144000 + _) (by omega) (by omega), wrapI (_ + n % 65536 % 7 * 200) (by omega) (by omega), wrapI (_ + n % 65536 / 2 ^ 5 % 2 * 1439) (by omega) (by omega), wrapI _ (by omega) (by omega)]
  rfl
theorem momN_bounds (n : Int) : 0 ≤ momentV n ∧ momentV n ≤ 575999999 := by
 unfold momentV
 generalize hm : n % 65536 = m
 have hm0 : 0 ≤ m := by omega
 unfold momN
 split
 ·have : m % 6 = 0 ∨ m % 6 = 1 ∨ m % 6 = 2 ∨ m % 6 = 3 ∨ m % 6 = 4 ∨ m % 6 = 5 := by omega
  rcases this with h | h | h | h | h | h <;> rw [h] <;> decide
 ·omega
def txtV (n : Int) : ByteArray := [bs [97], bs [98], bs [99], bs [], bs [105, 116, 39, 115], bs [97, 32, 98]].getD (n % 6).toNat (bs [])
def intN (n : Int) : Int := if (n / 256) % 32 = 0 then 1073741824 - n % 2 else if (n / 256) % 32 = 1 then n % 4 - 1073741824 else n % 7 - 2
def valueV (kind n : Int) : V :=
 if kind = 1 then ⟨1, (n % 65536) % 2, bs []⟩ else if kind = 2 then ⟨2, intN (n % 65536), bs []⟩ else if kind = 3 then ⟨3, 0, txtV (n % 65536)⟩ else if kind = 4 then ⟨4, momentV (n % 65536), bs []⟩ else ⟨0, 0, bs []⟩
theorem pubV {H1 : List AObj} {n : Nat} {ids : List Nat} {a b : Int} {s : ByteArray} {v : V} (h1 : a = v.kind) (h2 : b = v.num) (h3 : s = v.str) : Pub H1 n ids (.agg [.int .i64 a, .int .i64 b, .str s]) (.agg (valC v)) := by
 subst h1 h2 h3; exact .closed _ rfl
set_option maxRecDepth 20000 in
theorem Value_spec (k n : Int) (H : List AObj) :
  ACalls pr 37 [.int .i64 k, .int .i64 n] H (fun r H' => r = .agg (valC (valueV k n)) ∧ H' = H) := by
 refine ACalls.pure rfl (acalls_of_body k37.has ?_)
 have hn := and_ffff n
 have e8 := shrI_eq (and64 n 65535) 8 (by omega)
 have a8 := and_31 (shrI (and64 n 65535) 8)
 have a1 := and_1 (and64 n 65535)
 have a3 := and_3 (and64 n 65535)
 rw [e8] at a8
 rw [hn] at a8 a1 a3
 have m6 : (and64 n 65535).tmod 6 = (n % 65536) % 6 := by rw [hn]; exact Int.tmod_eq_emod_of_nonneg (by omega)
 have m7 : (and64 n 65535).tmod 7 = (n % 65536) % 7 := by rw [hn]; exact Int.tmod_eq_emod_of_nonneg (by omega)
 (conv => whnf); refine recA (fun h1 => ?_) (fun h1 => ?_)
 ·simp at h1
  subst h1
  conv => whnf
  refine pubV (v := valueV 1 n) rfl ?_ rfl
  show and64 (and64 n 65535) 1 = _
  rw [hn, a1]; rfl
 simp at h1
 (conv => whnf); refine recA (fun h2 => ?_) (fun h2 => ?_)
 ·simp at h2
  subst h2
  (conv => whnf); refine And.intro (by decide) ?_
  (conv => whnf); refine And.intro (by decide) ?_
  (conv => whnf); refine recA (fun h0 => ?_) (fun h0 => ?_)
  ·replace h0 : (and64 (shrI (and64 n 65535) 8) 31 == 0) = true := h0
   rw [e8, hn, a8] at h0
   conv => whnf
   refine pubV (v := valueV 2 n) rfl ?_ rfl
   show w64 (1073741824 - and64 (and64 n 65535) 1) = intN (n % 65536)
   have h0 : n % 65536 / 256 % 32 = 0 := by simpa using h0
   rw [hn, a1, w64, wrapI _ (by omega) (by omega), intN, if_pos h0]
  ·replace h0 : (and64 (shrI (and64 n 65535) 8) 31 == 0) = false := h0
   rw [e8, hn, a8] at h0
   have h0 : ¬ n % 65536 / 256 % 32 = 0 := by simpa using h0
   (conv => whnf); refine recA (fun h5 => ?_) (fun h5 => ?_)
   ·replace h5 : (and64 (shrI (and64 n 65535) 8) 31 == 1) = true := h5
    rw [e8, hn, a8] at h5
    have h5 : n % 65536 / 256 % 32 = 1 := by simpa using h5
    conv => whnf
    refine pubV (v := valueV 2 n) rfl ?_ rfl
    show w64 (and64 (and64 n 65535) 3 - 1073741824) = intN (n % 65536)
    rw [hn, a3, w64, wrapI _ (by omega) (by omega), intN, if_neg h0, if_pos h5]
   ·replace h5 : (and64 (shrI (and64 n 65535) 8) 31 == 1) = false := h5
    rw [e8, hn, a8] at h5
    have h5 : ¬ n % 65536 / 256 % 32 = 1 := by simpa using h5
    conv => whnf
    refine pubV (v := valueV 2 n) rfl ?_ rfl
    show w64 ((and64 n 65535).tmod 7 - 2) = intN (n % 65536)
    rw [m7, w64, wrapI _ (by omega) (by omega), intN, if_neg h0, if_neg h5]
 simp at h2
 (conv => whnf); refine recA (fun h3 => ?_) (fun h3 => ?_)
 ·simp at h3
  subst h3
  (conv => whnf); refine And.intro (by decide) ?_
  (conv => whnf); refine And.intro (show 0 ≤ (and64 n 65535).tmod 6 by omega) ?_
  conv => whnf
  refine recO (e := [.str (txtV (n % 65536))]) ?_ ?_
  ·show (([bs [97], bs [98], bs [99], bs [], bs [105, 116, 39, 115], bs [97, 32, 98]]).map fun s => [AVal.str s])[((and64 n 65535).tmod 6).toNat]? = _
   rw [m6, List.getElem?_map, List.getElem?_eq_getElem (show (n % 65536 % 6).toNat < _ by simp; omega)]
   simp only [Option.map_some, txtV]
   rw [List.getD_eq_getElem?_getD, List.getElem?_eq_getElem (show (n % 65536 % 6).toNat < _ by simp; omega)]
   rfl
  conv => whnf
  exact pubV (v := valueV 3 n) rfl rfl rfl
 simp at h3
 (conv => whnf); refine recA (fun h4 => ?_) (fun h4 => ?_)
 ·simp at h4
  subst h4
  conv => whnf
  refine ACalls.use (Moment_spec _ _) ?_
  conv => whnf
  refine pubV (v := valueV 4 n) rfl ?_ rfl
  show momentV (and64 n 65535) = _
  rw [hn]; rfl
 simp at h4
 conv => whnf
 have e : valueV k n = ⟨0, 0, bs []⟩ := by unfold valueV; rw [if_neg h1, if_neg h2, if_neg h3, if_neg h4]
 rw [e]
 exact .closed _ rfl
theorem valueV_valid (k n : Int) : validB (valueV k n) = true := by
 unfold valueV
 split
 ·have := Int.emod_emod_of_dvd n (show (2 : Int) ∣ 65536 from ⟨32768, rfl⟩)
  rw [this]
  have : n % 2 = 0 ∨ n % 2 = 1 := by omega
  rcases this with h | h <;> rw [h] <;> decide
 split
 ·have h : -1073741824 ≤ intN (n % 65536) ∧ intN (n % 65536) ≤ 1073741824 := by
   unfold intN
   split
   ·omega
   split <;> omega
  simp [validB, h, bs_nil]
 split
 ·have : n % 65536 % 6 = 0 ∨ n % 65536 % 6 = 1 ∨ n % 65536 % 6 = 2 ∨ n % 65536 % 6 = 3 ∨ n % 65536 % 6 = 4 ∨ n % 65536 % 6 = 5 := by omega
  unfold txtV
  rcases this with h | h | h | h | h | h <;> rw [h] <;> decide
 split
 ·have h := momN_bounds (n % 65536)
  simp [validB, h, bs_nil]
 ·decide
def vC (rs : List V) : List (List AVal) := rs.map valC
theorem vC_length (l : List V) : (vC l).length = l.length := List.length_map ..
theorem pureEs_vC (l : List V) : pureEs (vC l) = true := by simp [pureEs, vC, valC, AVal.isPure]
theorem roomMul {n b : Nat} (h : n ≤ 1000000) (hb : b ≤ 1000000) : n * b ≤ roomB :=
 Nat.le_trans (Nat.mul_le_mul h hb) (by show 1000000 * 1000000 ≤ 1099511627776; omega)
theorem vC_at {l : List V} {k : Nat} {x : V} (h : l[k]? = some x) : (vC l)[k]? = some (valC x) := by
 rw [vC, List.getElem?_map, h]; rfl
theorem get_drop {α : Type} {l : List α} {k : Nat} (h : k < l.length) : ∃ x, l[k]? = some x ∧ l.drop k = x :: l.drop (k + 1) ∧ x ∈ l :=
 ⟨l[k], List.getElem?_eq_getElem h, List.drop_eq_getElem_cons h, List.getElem_mem h⟩
def rowsCmp : List V → List V → Int
 | [], [] => 0
 | [], _ :: _ => -1
 | _ :: _, [] => 1
 | x :: xs, y :: ys => if valCmp x y = 0 then rowsCmp xs ys else valCmp x y
set_option maxRecDepth 20000 in
theorem CompareFunc_spec (g : FuncId) (hg : ∀ (a b : V) (H : List AObj), ACalls pr g [.agg (valC a), .agg (valC b)] H (fun r H' => r = .int .i64 (valCmp a b) ∧ H' = H))
  (e1 e2 : Bool) (a b : List V) (ha : a.length ≤ 1000000) (H : List AObj) :
  ACalls pr 251 [.list e1 3 (vC a), .list e2 3 (vC b), .fn g []] H (fun r H' => r = .int .i64 (rowsCmp a b) ∧ H' = H) := by
 refine ACalls.pure rfl (acalls_of_body k251.has ?_)
 conv => whnf
 refine ⟨fun m ρ H => ∃ k : Nat, k + m = a.length ∧ rowsCmp (a.drop k) (b.drop k) = rowsCmp a b ∧ H = [] ∧
  Sv 39 [(0, .list e1 3 (vC a)), (1, .list e2 3 (vC b)), (2, .fn g []), (11, .list e1 3 (vC a)), (12, .int .i64 a.length), (13, .int .i64 k)] ρ, a.length, [], ?_, ?_⟩
 ·exact ⟨0, by omega, rfl, rfl, Sv.intro rfl ⟨rfl, rfl, rfl, rfl, intEq (by rw [vC_length]), rfl, trivial⟩⟩
 rintro m ρ H ⟨k, hk, hr, rfl, d, rfl⟩
 (conv => whnf); refine recA (fun hlt => ?_) (fun hlt => ?_)
 ·simp at hlt
  conv => whnf
  refine And.intro (by omega) ?_
  obtain ⟨x, hx, hda, _⟩ := get_drop hlt
  rw [hda] at hr
  (conv => whnf); refine recO (vC_at hx) ?_
  (conv => whnf); refine recA (fun hlt2 => ?_) (fun hlt2 => ?_)
  ·simp [vC_length] at hlt2
   conv => whnf
   rw [List.drop_eq_nil_of_le hlt2] at hr
   exact pubI hr
  simp [vC_length] at hlt2
  conv => whnf
  refine And.intro (by omega) ?_
  obtain ⟨y, hy, hdb, _⟩ := get_drop hlt2
  rw [hdb] at hr
  (conv => whnf); refine recO (vC_at hy) ?_
  conv => whnf
  refine ACalls.use (hg x y _) ?_
  (conv => whnf); refine recA (fun hne => ?_) (fun hne => ?_)
  ·conv => whnf
   refine pubI ?_
   rw [← hr, rowsCmp, if_neg (by simpa using hne)]
  ·conv => whnf
   refine ⟨m - 1, by omega, Gp.none rfl ?_ fun ρ1 h => ⟨k + 1, by omega, ?_, rfl, h⟩⟩
   ·exact ⟨.closed _ rfl, .closed _ rfl, .closed _ rfl, .closed _ rfl, .closed _ rfl, pub_int (wrapI ((k : Int) + 1) (by omega) (by omega)), trivial⟩
   ·rw [← hr, rowsCmp, if_pos (by simpa using hne)]
 ·simp at hlt
  rw [List.drop_eq_nil_of_le hlt] at hr
  (conv => whnf); refine recA (fun hlt2 => ?_) (fun hlt2 => ?_)
  ·simp [vC_length] at hlt2
   conv => whnf
   have hdb : b.drop k = b[k]'(by omega) :: b.drop (k + 1) := List.drop_eq_getElem_cons (by omega)
   rw [hdb] at hr
   exact pubI hr
  ·simp [vC_length] at hlt2
   conv => whnf
   rw [List.drop_eq_nil_of_le (by omega)] at hr
   exact pubI hr
theorem value_CompareRows_spec (e1 e2 : Bool) (a b : List V) (ha : a.length ≤ 1000000) (H : List AObj) :
  ACalls pr 201 [.list e1 3 (vC a), .list e2 3 (vC b)] H (fun r H' => r = .int .i64 (rowsCmp a b) ∧ H' = H) := by
 refine ACalls.pure rfl (acalls_of_body k201.has ?_)
 conv => whnf
 refine ACalls.use (CompareFunc_spec _ (value_Compare_spec) e1 e2 a b ha _) ?_
 conv => whnf
 exact .closed _ rfl
def num (l : List Int) : Int := l.foldl (fun n x => n * 256 + x) 0
theorem bl_irrefl : ∀ (a : List UInt8), Op.bytesLess a a = false
 | [] => rfl
 | x :: a => by simp [Op.bytesLess, bl_irrefl a]
theorem bl_tri : ∀ (a b : List UInt8), Op.bytesLess a b = true ∨ a = b ∨ Op.bytesLess b a = true
 | [], [] => .inr (.inl rfl)
 | [], _ :: _ => .inl rfl
 | _ :: _, [] => .inr (.inr rfl)
 | x :: a, y :: b => by
  simp only [Op.bytesLess, Bool.or_eq_true, decide_eq_true_eq, Bool.and_eq_true, beq_iff_eq, List.cons.injEq]
  rcases (show x < y ∨ x = y ∨ y < x from by rcases Nat.lt_trichotomy x.toNat y.toNat with h | h | h; exact .inl h; exact .inr (.inl (UInt8.toNat_inj.1 h)); exact .inr (.inr h)) with h | h | h
  ·exact .inl (.inl h)
  ·subst h
   rcases bl_tri a b with h | h | h
   ·exact .inl (.inr ⟨rfl, h⟩)
   ·exact .inr (.inl ⟨rfl, h⟩)
   ·exact .inr (.inr (.inr ⟨rfl, h⟩))
  ·exact .inr (.inr (.inl h))
theorem bl_trans : ∀ (a b c : List UInt8), Op.bytesLess a b = true → Op.bytesLess b c = true → Op.bytesLess a c = true
 | _, [], _, h, _ => by cases ‹List UInt8› <;> simp [Op.bytesLess] at h
 | _, _ :: _, [], _, h => by simp [Op.bytesLess] at h
 | [], _ :: _, _ :: _, _, _ => rfl
 | x :: a, y :: b, z :: c, h1, h2 => by
  simp only [Op.bytesLess, Bool.or_eq_true, decide_eq_true_eq, Bool.and_eq_true, beq_iff_eq] at *
  rcases h1 with h1 | ⟨rfl, h1⟩
  ·rcases h2 with h2 | ⟨rfl, h2⟩
   ·exact .inl (UInt8.lt_trans h1 h2)
   ·exact .inl h1
  ·rcases h2 with h2 | ⟨rfl, h2⟩
   ·exact .inl h2
   ·exact .inr ⟨rfl, bl_trans a b c h1 h2⟩
structure IsCmp {α : Type} (c : α → α → Int) : Prop where
 vals : ∀ a b, c a b = -1 ∨ c a b = 0 ∨ c a b = 1
 anti : ∀ a b, c b a = - c a b
 zero : ∀ a b, c a b = 0 ↔ a = b
 trans : ∀ a b d, c a b < 0 → c b d < 0 → c a d < 0
theorem isCmp_int : IsCmp cmpI := by
 refine ⟨fun a b => ?_, fun a b => ?_, fun a b => ?_, fun a b d => ?_⟩ <;> unfold cmpI <;> (repeat' split) <;> omega
theorem isCmp_str : IsCmp cmpS := by
 have asym : ∀ a b, Op.bytesLess a b = true → Op.bytesLess b a = true → False := fun a b h1 h2 => by
  have := bl_trans a b a h1 h2
  rw [bl_irrefl] at this; cases this
 refine ⟨fun a b => ?_, fun a b => ?_, fun a b => ?_, fun a b d => ?_⟩
 ·unfold cmpS; split
  ·simp
  ·split <;> simp
 ·unfold cmpS
  rcases bl_tri a b with h | h | h
  ·have hb : Op.bytesLess b a = false := by cases hb : Op.bytesLess b a with | false => rfl | true => exact (asym a b h hb).elim
   have hne : ¬ b = a := by rintro rfl; rw [bl_irrefl] at h; cases h
   simp [h, hb, hne]
  ·subst h; simp [bl_irrefl]
  ·have hb : Op.bytesLess a b = false := by cases hb : Op.bytesLess a b with | false => rfl | true => exact (asym a b hb h).elim
   have hne : ¬ a = b := by rintro rfl; rw [bl_irrefl] at h; cases h
   simp [h, hb, hne]
 ·unfold cmpS
  split
  ·rename_i h
   refine ⟨fun h => by omega, ?_⟩
   rintro rfl
   rw [bl_irrefl] at h; cases h
  ·split <;> simp [*]
 ·unfold cmpS
  intro h1 h2
  have e1 : Op.bytesLess a b = true := by
   revert h1
   split
   ·intro _; assumption
   ·split <;> intro h <;> omega
  have e2 : Op.bytesLess b d = true := by
   revert h2
   split
   ·intro _; assumption
   ·split <;> intro h <;> omega
  rw [if_pos (bl_trans a b d e1 e2)]; omega
theorem isCmp_val : IsCmp valCmp := by
 have I := isCmp_int
 have S := isCmp_str
 refine ⟨fun a b => ?_, fun a b => ?_, fun a b => ?_, fun a b d => ?_⟩
 ·have := I.vals a.kind b.kind; have := I.vals a.num b.num; have := S.vals a.str.data.toList b.str.data.toList
  simp only [valCmp, orI]; (repeat' split) <;> omega
 ·have := I.anti a.kind b.kind; have := I.anti a.num b.num; have := S.anti a.str.data.toList b.str.data.toList
  simp only [valCmp, orI]; (repeat' split) <;> omega
 ·have h1 := I.zero a.kind b.kind; have h2 := I.zero a.num b.num; have h3 := S.zero a.str.data.toList b.str.data.toList
  constructor
  ·intro h
   simp only [valCmp, orI] at h
   have e1 : cmpI a.kind b.kind = 0 := by revert h; (repeat' split) <;> omega
   have e2 : cmpI a.num b.num = 0 := by revert h; (repeat' split) <;> omega
   have e3 : cmpS a.str.data.toList b.str.data.toList = 0 := by revert h; (repeat' split) <;> omega
   obtain ⟨ak, an, ⟨⟨asv⟩⟩⟩ := a
   obtain ⟨bk, bn, ⟨⟨bl⟩⟩⟩ := b
   have q1 := h1.1 e1; have q2 := h2.1 e2; have q3 := h3.1 e3
   simp only at q1 q2 q3
   subst q1 q2 q3; rfl
  ·rintro rfl
   simp only [valCmp, orI]
   rw [if_pos (h1.2 rfl), if_pos (h2.2 rfl), if_pos (h3.2 rfl)]
 ·intro h1 h2
  have a1 := I.trans a.kind b.kind d.kind; have a2 := I.trans a.num b.num d.num; have a3 := S.trans a.str.data.toList b.str.data.toList d.str.data.toList
  have v1 := I.vals a.kind b.kind; have v2 := I.vals b.kind d.kind; have v3 := I.vals a.num b.num; have v4 := I.vals b.num d.num
  have z1 := I.zero a.kind b.kind; have z2 := I.zero b.kind d.kind; have z3 := I.zero a.num b.num; have z4 := I.zero b.num d.num
  have z5 := I.zero a.kind d.kind; have z6 := I.zero a.num d.num
  simp only [valCmp, orI] at *
  by_cases k1 : a.kind = b.kind <;> by_cases k2 : b.kind = d.kind <;> by_cases n1 : a.num = b.num <;> by_cases n2 : b.num = d.num <;> simp_all <;> (repeat' split) <;> omega
def letterB (b : UInt8) : Bool := decide (97 ≤ b.toNat ∧ b.toNat ≤ 122)
def restB (b : UInt8) : Bool := decide (97 ≤ b.toNat ∧ b.toNat ≤ 122 ∨ 48 ≤ b.toNat ∧ b.toNat ≤ 57 ∨ b.toNat = 95)
def nameL : List UInt8 → Bool
 | [] => false
 | b :: r => letterB b && r.all restB
def nameB (s : ByteArray) : Bool := decide (s.size ≤ 24) && nameL s.data.toList
theorem get!_of {s : ByteArray} {p : Nat} {b : UInt8} (h : s.data.toList[p]? = some b) : s.get! p = b := by
 obtain ⟨⟨l⟩⟩ := s
 simp at h
 simp [ByteArray.get!, h]
theorem decode_ascii {s : ByteArray} {p : Nat} {b : UInt8} (h : s.data.toList[p]? = some b) (hb : b.toNat < 128) : Utf8.decode s p = (b.toNat, 1) := by
 unfold Utf8.decode
 simp only [Nat.add_zero, get!_of h]
 rw [if_pos hb]
theorem decode_big {s : ByteArray} {p : Nat} {b : UInt8} (h : s.data.toList[p]? = some b) (hb : ¬ b.toNat < 128) : 128 ≤ (Utf8.decode s p).1 := by
 unfold Utf8.decode
 simp only [Nat.add_zero, get!_of h]
 rw [if_neg hb]
 (repeat' split) <;> simp only [Utf8.runeError, Bool.and_eq_true, decide_eq_true_eq] at * <;> omega
theorem str_get {s : ByteArray} {p : Nat} (h : p < s.size) : ∃ b, s.data.toList[p]? = some b ∧ s.data.toList.drop p = b :: s.data.toList.drop (p + 1) := by
 have hl : p < s.data.toList.length := by simpa using h
 exact ⟨_, List.getElem?_eq_getElem hl, List.drop_eq_getElem_cons hl⟩
set_option maxRecDepth 20000 in
theorem schema_IsName_spec (s : ByteArray) (H : List AObj) :
  ACalls pr 77 [.str s] H (fun r H' => r = .bool (nameB s) ∧ H' = H) := by
 refine ACalls.pure rfl (acalls_of_body k77.has ?_)
 (conv => whnf); refine recA (fun h0 => ?_) (fun h0 => ?_)
 ·simp at h0
  conv => whnf
  exact pubB (by simp [nameB]; omega)
 simp at h0
 conv => whnf
 refine ⟨fun m ρ H => ∃ p : Nat, p + m = s.size ∧ (0 < p → nameB s = (s.data.toList.drop p).all restB) ∧ H = [.iter s p] ∧ Sv 41 [(0, .str s), (10, .it 0)] ρ, s.size, [], ?_, ?_⟩
 ·exact ⟨0, by omega, by omega, rfl, Sv.intro rfl ⟨rfl, rfl, trivial⟩⟩
 rintro m ρ H ⟨p, hp, hr, rfl, d, rfl⟩
 (conv => whnf); refine recA (fun hlt => ?_) (fun hlt => ?_)
 ·simp at hlt
  obtain ⟨b, hb, hd⟩ := str_get hlt
  
  have h0n : p = 0 → nameB s = (letterB b && (s.data.toList.drop (p + 1)).all restB) := by
   rintro rfl
   rw [List.drop_zero] at hd
   have : nameL s.data.toList = (letterB b && (s.data.toList.drop (0 + 1)).all restB) := by
    conv => lhs; rw [hd]
    rfl
   rw [nameB, this, decide_eq_true (by omega), Bool.true_and]
  have hno : (if p = 0 then letterB b else restB b) = false → nameB s = false := by
   intro h
   by_cases h1 : p = 0
   ·rw [if_pos h1] at h
    rw [h0n h1, h]; rfl
   ·rw [if_neg h1] at h
    rw [hr (by omega), hd, List.all_cons, h]; rfl
  have hyes : (if p = 0 then letterB b else restB b) = true → nameB s = (s.data.toList.drop (p + 1)).all restB := by
   intro h
   by_cases h1 : p = 0
   ·rw [if_pos h1] at h
    rw [h0n h1, h]; rfl
   ·rw [if_neg h1] at h
    rw [hr (by omega), hd, List.all_cons, h]; rfl
  by_cases hb1 : b.toNat < 128
  ·have hdec := decode_ascii hb hb1
   have e1 : ((Utf8.decode s p).1 : Int) = b.toNat := by rw [hdec]
   have e2 : p + (Utf8.decode s p).2 = p + 1 := by rw [hdec]
   repeat' ((conv => whnf); refine recA (fun h => ?_) (fun h => ?_))
   all_goals conv => whnf
   all_goals first
    | refine ⟨m - 1, by omega, Gp.keep rfl ?_ fun ρ1 h => ⟨p + 1, by omega, fun _ => hyes ?_, by rw [e2], h⟩⟩
    | refine pubB (hno ?_).symm
   all_goals first
    | exact ⟨rfl, rfl, trivial⟩
    | skip
   all_goals
    (simp only [e1] at *)
    clear hno hyes h0n hr hd
    by_cases hp0 : p = 0 <;> simp [letterB, restB, hp0] at * <;> omega
  ·have hdec := decode_big hb hb1
   have hn1 : letterB b = false := by simp [letterB]; omega
   have hn2 : restB b = false := by simp [restB]; omega
   have hz : nameB s = false := hno (by split; exact hn1; exact hn2)
   repeat' ((conv => whnf); refine recA (fun h => ?_) (fun h => ?_))
   all_goals conv => whnf
   all_goals first
    | exact pubB hz.symm
    | (exfalso; simp at *; omega)
 ·have hlt2 : ¬ p < s.size := of_decide_eq_false hlt
  have hl0 : s.data.toList.length = s.size := by simp
  conv => whnf
  refine pubB ?_
  show (!(s.data.toList == [])) = _
  by_cases h1 : p = 0
  ·have : s.data.toList = [] := List.eq_nil_of_length_eq_zero (by omega)
   simp [nameB, this, nameL]
  ·rw [hr (by omega), List.drop_eq_nil_of_le (by omega)]
   cases hs : s.data.toList with
   | nil => rw [hs] at hl0; simp at hl0; omega
   | cons b r => rfl
theorem str_at {s : ByteArray} {p : Nat} {b : UInt8} {q : Nat} (h : s.data.toList[p]? = some b) (hq : q = p) : s.data.toList[q]? = some b := by subst hq; exact h
set_option maxRecDepth 20000 in
theorem ref5_IsName_spec (s : ByteArray) (H : List AObj) :
  ACalls pr 67 [.str s] H (fun r H' => r = .bool (nameB s) ∧ H' = H) := by
 refine ACalls.pure rfl (acalls_of_body k67.has ?_)
 have hl0 : s.data.toList.length = s.size := by simp
 (conv => whnf); refine recA (fun h0 => ?_) (fun h0 => ?_)
 ·have h0 := of_decide_eq_true h0
  conv => whnf
  have : s.data.toList = [] := List.eq_nil_of_length_eq_zero (by omega)
  exact pubB (by simp [nameB, this, nameL])
 have h0 := of_decide_eq_false h0
 (conv => whnf); refine recA (fun h1 => ?_) (fun h1 => ?_)
 ·have h1 := of_decide_eq_true h1
  conv => whnf
  exact pubB (by rw [nameB, decide_eq_false (by omega)]; rfl)
 have h1 := of_decide_eq_false h1
 obtain ⟨a, ha, hd0⟩ := str_get (show 0 < s.size by omega)
 have hn : nameB s = (letterB a && (s.data.toList.drop 1).all restB) := by
  rw [List.drop_zero] at hd0
  have : nameL s.data.toList = (letterB a && (s.data.toList.drop (0 + 1)).all restB) := by
   conv => lhs; rw [hd0]
   rfl
  rw [nameB, this, decide_eq_true (by omega), Bool.true_and]
 conv => whnf
 refine And.intro (by decide) ?_
 (conv => whnf); refine recO ha ?_
 (conv => whnf); refine recA (fun h2 => ?_) (fun h2 => ?_)
 ·have h2 := of_decide_eq_true h2
  conv => whnf
  exact pubB (by rw [hn]; simp [letterB]; omega)
 have h2 := of_decide_eq_false h2
 conv => whnf
 refine And.intro (by decide) ?_
 (conv => whnf); refine recO ha ?_
 (conv => whnf); refine recA (fun h3 => ?_) (fun h3 => ?_)
 ·have h3 := of_decide_eq_true h3
  conv => whnf
  exact pubB (by rw [hn]; simp [letterB]; omega)
 have h3 := of_decide_eq_false h3
 have hla : letterB a = true := by simp [letterB]; omega
 have hra : restB a = true := by simp [restB]; omega
 have hn2 : nameB s = s.data.toList.all restB := by
  rw [hn, hla, Bool.true_and]
  rw [List.drop_zero] at hd0
  conv => rhs; rw [hd0, List.all_cons, hra, Bool.true_and]
 conv => whnf
 refine ⟨fun m ρ H => ∃ k : Nat, k + m = s.size ∧ nameB s = (s.data.toList.drop k).all restB ∧ H = [] ∧ Sv 58 [(0, .str s), (3, .int .i64 k)] ρ, s.size, [], ?_, ?_⟩
 ·exact ⟨0, by omega, hn2, rfl, Sv.intro rfl ⟨rfl, rfl, trivial⟩⟩
 rintro m ρ H ⟨k, hk, hr, rfl, d, rfl⟩
 (conv => whnf); refine recA (fun hlt => ?_) (fun hlt => ?_)
 ·simp at hlt
  obtain ⟨b, hb, hd⟩ := str_get hlt
  rw [hd, List.all_cons] at hr
  repeat' ((conv => whnf); first | refine And.intro (by omega) ?_ | refine recO (str_at hb (by rfl)) ?_ | refine recA (fun h => ?_) (fun h => ?_))
  all_goals conv => whnf
  all_goals first
   | refine ⟨m - 1, by omega, Gp.keep rfl ?_ fun ρ1 h => ⟨k + 1, by omega, ?_, rfl, h⟩⟩
   | refine pubB ?_
  all_goals first
   | exact ⟨rfl, intEq (wrapI ((k : Int) + 1) (by omega) (by omega)), trivial⟩
   | skip
  all_goals
   rw [hr]
   have hx : restB b = true ∨ restB b = false := by cases restB b <;> simp
   rcases hx with hx | hx <;> rw [hx] <;> (first | rfl | (exfalso; simp [restB] at *; omega))
 ·have hlt2 : ¬ (k : Int) < s.size := of_decide_eq_false hlt
  conv => whnf
  rw [List.drop_eq_nil_of_le (by omega)] at hr
  exact pubB hr.symm
open Go.Lib (indexByte)
theorem ib_at : ∀ {l : List UInt8} {c : UInt8} {i : Nat}, l[i]? = some c → (∀ j, j < i → l[j]? ≠ some c) → indexByte l c = i
 | [], _, _, h, _ => by simp at h
 | b :: l, c, 0, h, _ => by simp at h; subst h; simp [indexByte]
 | b :: l, c, i + 1, h, hb => by
  have h0 := hb 0 (by omega)
  simp at h0
  have := ib_at (l := l) (i := i) (by simpa using h) fun j hj => by have := hb (j + 1) (by omega); simpa using this
  simp only [indexByte, this, beq_iff_eq, h0, if_false]
  rw [if_neg (by omega)]
  rfl
theorem ib_none : ∀ {l : List UInt8} {c : UInt8}, (∀ j : Nat, l[j]? ≠ some c) → indexByte l c = -1
 | [], _, _ => rfl
 | b :: l, c, h => by
  have h0 := h 0
  simp at h0
  have := ib_none (l := l) fun j => by have := h (j + 1); simpa using this
  simp [indexByte, this, h0]
theorem ib_cases : ∀ (l : List UInt8) (c : UInt8), indexByte l c = -1 ∨ ∃ i : Nat, indexByte l c = i ∧ i < l.length
 | [], _ => .inl rfl
 | b :: l, c => by
  simp only [indexByte]
  split
  ·exact .inr ⟨0, rfl, by simp⟩
  ·rcases ib_cases l c with h | ⟨i, h, hl⟩
   ·rw [if_pos (by simp [h])]; exact .inl rfl
   ·rw [if_neg (by simp [h]), h]; exact .inr ⟨i + 1, by omega, by simpa using hl⟩
def dotAt (s : ByteArray) : Int := indexByte s.data.toList 46
def qualB (s : ByteArray) : Bool :=
 if 0 ≤ dotAt s then nameB (s.extract 0 (dotAt s).toNat) && nameB (s.extract (dotAt s + 1).toNat s.size) else nameB s
set_option maxRecDepth 20000 in
theorem ref5_IsQualified_spec (s : ByteArray) (hs : s.size ≤ 1000000) (H : List AObj) :
  ACalls pr 151 [.str s] H (fun r H' => r = .bool (qualB s) ∧ H' = H) := by
 refine ACalls.pure rfl (acalls_of_body k151.has ?_)
 conv => whnf
 refine ⟨fun m ρ H => ∃ k : Nat, k + m = s.size ∧ (∀ j, j < k → s.data.toList[j]? ≠ some 46) ∧ H = [] ∧ Sv 27 [(0, .str s), (3, .int .i64 k)] ρ, s.size, [], ?_, ?_⟩
 ·exact ⟨0, by omega, by omega, rfl, Sv.intro rfl ⟨rfl, rfl, trivial⟩⟩
 rintro m ρ H ⟨k, hk, hr, rfl, d, rfl⟩
 (conv => whnf); refine recA (fun hlt => ?_) (fun hlt => ?_)
 ·simp at hlt
  obtain ⟨b, hb, hd⟩ := str_get hlt
  conv => whnf
  refine And.intro (by omega) ?_
  (conv => whnf); refine recO (str_at hb (by rfl)) ?_
  (conv => whnf); refine recA (fun h => ?_) (fun hne => ?_)
  ·have hbe : b = 46 := by
    have h : (b.toNat : Int) = 46 := by simpa using h
    apply UInt8.toNat_inj.1
    show b.toNat = 46
    omega
   subst hbe
   have hdot : dotAt s = k := ib_at hb hr
   have e1 : IntKind.i64.wrap ((k : Int) + 1) = k + 1 := wrapI _ (by omega) (by omega)
   conv => whnf
   refine And.intro (by omega) ?_
   (conv => whnf); refine ACalls.use (ref5_IsName_spec _ _) ?_
   (conv => whnf); refine recA (fun h1 => ?_) (fun h1 => ?_)
   ·conv => whnf
    refine And.intro (by rw [e1]; omega) ?_
    (conv => whnf); refine ACalls.use (ref5_IsName_spec _ _) ?_
    conv => whnf
    refine pubB ?_
    replace h1 : nameB (s.extract 0 (k : Int).toNat) = true := h1
    rw [qualB, hdot, if_pos (by omega), h1, Bool.true_and]
    show nameB (s.extract (IntKind.i64.wrap ((k : Int) + 1)).toNat s.size) = _
    rw [e1]
   ·conv => whnf
    refine pubB ?_
    replace h1 : nameB (s.extract 0 (k : Int).toNat) = false := h1
    rw [qualB, hdot, if_pos (by omega), h1]; rfl
  ·conv => whnf
   refine ⟨m - 1, by omega, Gp.keep rfl ?_ fun ρ1 h => ⟨k + 1, by omega, fun j hj => ?_, rfl, h⟩⟩
   ·exact ⟨rfl, intEq (wrapI ((k : Int) + 1) (by omega) (by omega)), trivial⟩
   ·rcases Nat.lt_succ_iff_lt_or_eq.1 hj with h1 | rfl
    ·exact hr j h1
    ·rw [hb]
     intro h2
     cases h2
     exact absurd hne (by decide)
 ·have hlt2 : ¬ (k : Int) < s.size := of_decide_eq_false hlt
  conv => whnf
  refine ACalls.use (ref5_IsName_spec _ _) ?_
  conv => whnf
  refine pubB ?_
  have : dotAt s = -1 := ib_none fun j => by
   by_cases hj : j < k
   ·exact hr j hj
   ·rw [List.getElem?_eq_none (by simp; omega)]; simp
  rw [qualB, this, if_neg (by omega)]
theorem sliteIndexByte_spec (s : ByteArray) (c : Int) (H : List AObj) :
  ACalls pr 121 [.str s, .int .u8 c] H (fun r H' => r = .int .i64 (indexByte s.data.toList c.toNat.toUInt8) ∧ H' = H) := by
 refine ACalls.pure rfl (acalls_of_body k121.has ?_)
 conv => whnf
 refine ACalls.use (indexByteString_spec k154.has s c _) ?_
 conv => whnf
 exact .closed _ rfl
set_option maxRecDepth 20000 in
theorem sliteIndex_spec (s : ByteArray) (H : List AObj) :
  ACalls pr 153 [.str s, .str (bs [46])] H (fun r H' => r = .int .i64 (dotAt s) ∧ H' = H) := by
 refine ACalls.pure rfl (acalls_of_body k153.has ?_)
 (conv => whnf); refine recA (fun h => ?_) (fun h => ?_)
 ·conv => whnf
  refine pubI ?_
  have h : (bs [46]).data.toList = s.data.toList := by simpa using h
  rw [dotAt, ← h]; rfl
 ·conv => whnf
  refine And.intro (by decide) ?_
  conv => whnf
  refine ACalls.use (sliteIndexByte_spec s _ _) ?_
  conv => whnf
  exact pubI rfl
def cutR (s : ByteArray) : AVal :=
 if 0 ≤ dotAt s then .tuple [.str (s.extract 0 (dotAt s).toNat), .str (s.extract (dotAt s + 1).toNat s.size), .bool true] else .tuple [.str s, .str (bs []), .bool false]
theorem pub3 {H1 : List AObj} {n : Nat} {ids : List Nat} {a b c r s t : AVal} (h1 : Pub H1 n ids a r) (h2 : Pub H1 n ids b s) (h3 : Pub H1 n ids c t) : Pub H1 n ids (.tuple [a, b, c]) (.tuple [r, s, t]) := by
 refine .tuple _ _ rfl fun i v u h4 h5 => ?_
 rcases i with _ | _ | _ | i
 ·cases h4; cases h5; exact h1
 ·cases h4; cases h5; exact h2
 ·cases h4; cases h5; exact h3
 ·simp at h4
set_option maxRecDepth 20000 in
theorem sliteCut_spec (s : ByteArray) (hs : s.size ≤ 1000000) (H : List AObj) :
  ACalls pr 120 [.str s, .str (bs [46])] H (fun r H' => r = cutR s ∧ H' = H) := by
 refine ACalls.pure rfl (acalls_of_body k120.has ?_)
 conv => whnf
 refine ACalls.use (sliteIndex_spec s _) ?_
 have hl0 : s.data.toList.length = s.size := by simp
 have hc := ib_cases s.data.toList 46
 (conv => whnf); refine recA (fun h => ?_) (fun h => ?_)
 ·have h : 0 ≤ dotAt s := of_decide_eq_true h
  have hlt : dotAt s < s.size := by
   rcases hc with h1 | ⟨i, h1, h2⟩
   ·have : dotAt s = -1 := h1
    omega
   ·have : dotAt s = i := h1
    omega
  have e1 : IntKind.i64.wrap (dotAt s + ((bs [46]).size : Nat)) = dotAt s + 1 := wrapI _ (by show -9223372036854775808 ≤ dotAt s + 1; omega) (by show dotAt s + 1 ≤ _; omega)
  conv => whnf
  refine And.intro (by omega) ?_
  conv => whnf
  refine And.intro (by rw [e1]; omega) ?_
  conv => whnf
  rw [cutR, if_pos h]
  refine pub3 (.closed _ rfl) (pubEq ?_ rfl) (.closed _ rfl)
  rw [e1]
 ·have h : ¬ 0 ≤ dotAt s := of_decide_eq_false h
  conv => whnf
  rw [cutR, if_neg h]
  exact pub3 (.closed _ rfl) (.closed _ rfl) (.closed _ rfl)
set_option maxRecDepth 20000 in
theorem stringsCut_spec (s : ByteArray) (hs : s.size ≤ 1000000) (H : List AObj) :
  ACalls pr 76 [.str s, .str (bs [46])] H (fun r H' => r = cutR s ∧ H' = H) := by
 refine ACalls.pure rfl (acalls_of_body k76.has ?_)
 conv => whnf
 refine ACalls.use (sliteCut_spec s hs _) ?_
 unfold cutR
 split
 all_goals
  conv => whnf
  exact pub3 (.closed _ rfl) (.closed _ rfl) (.closed _ rfl)
set_option maxRecDepth 20000 in
theorem schema_IsQualified_spec (s : ByteArray) (hs : s.size ≤ 1000000) (H : List AObj) :
  ACalls pr 38 [.str s] H (fun r H' => r = .bool (qualB s) ∧ H' = H) := by
 refine ACalls.pure rfl (acalls_of_body k38.has ?_)
 conv => whnf
 refine ACalls.use (stringsCut_spec s hs _) ?_
 unfold cutR
 split
 ·rename_i h
  conv => whnf
  refine ACalls.use (schema_IsName_spec _ _) ?_
  (conv => whnf); refine recA (fun h1 => ?_) (fun h1 => ?_)
  ·conv => whnf
   refine ACalls.use (schema_IsName_spec _ _) ?_
   conv => whnf
   exact pubB (by rw [qualB, if_pos h, h1, Bool.true_and])
  ·conv => whnf
   exact pubB (by rw [qualB, if_pos h, h1]; rfl)
 ·rename_i h
  conv => whnf
  refine ACalls.use (schema_IsName_spec _ _) ?_
  (conv => whnf); refine recA (fun h1 => ?_) (fun h1 => ?_)
  ·conv => whnf
   exact pubB (by rw [qualB, if_neg h, h1])
  ·conv => whnf
   exact pubB (by rw [qualB, if_neg h, h1])
structure Col where
 name : ByteArray
 kind : Int
 nul : Bool
def colC (c : Col) : List AVal := [.str c.name, .int .i64 c.kind, .bool c.nul]
def cC (cs : List Col) : List (List AVal) := cs.map colC
theorem cC_length (l : List Col) : (cC l).length = l.length := List.length_map ..
theorem cC_at {l : List Col} {k : Nat} {x : Col} (h : l[k]? = some x) : (cC l)[k]? = some (colC x) := by
 rw [cC, List.getElem?_map, h]; rfl
def idxOf {α : Type} (p : α → Bool) : List α → Int → Int
 | [], _ => -1
 | c :: cs, i => if p c then i else idxOf p cs (i + 1)
def named (name : ByteArray) (c : Col) : Bool := c.name.data.toList == name.data.toList
def colIdx (cs : List Col) (name : ByteArray) : Int := idxOf (named name) cs 0
set_option maxRecDepth 20000 in
theorem IndexFunc_spec (g : FuncId) (caps : List AVal) (p : Col → Bool) (H : List AObj) (hg : ∀ c : Col, ACalls pr g ([.agg (colC c)] ++ caps) H (fun r H' => r = .bool (p c) ∧ H' = H))
  (ex : Bool) (cs : List Col) (hl : cs.length ≤ 1000000) :
  ACalls pr 95 [.list ex 3 (cC cs), .fn g caps] H (fun r H' => r = .int .i64 (idxOf p cs 0) ∧ H' = H) := by
 refine acalls_of_body k95.has ?_
 conv => whnf
 refine ⟨fun m ρ H1 => ∃ k : Nat, k + m = cs.length ∧ idxOf p (cs.drop k) k = idxOf p cs 0 ∧ H1 = H ∧
  Sv 19 [(0, .list ex 3 (cC cs)), (1, .fn g caps), (7, .int .i64 cs.length), (8, .int .i64 k)] ρ, cs.length, [], ?_, ?_⟩
 ·exact ⟨0, by omega, rfl, rfl, Sv.intro rfl ⟨rfl, rfl, intEq (by rw [cC_length]), rfl, trivial⟩⟩
 rintro m ρ H1 ⟨k, hk, hr, rfl, d, rfl⟩
 (conv => whnf); refine recA (fun hlt => ?_) (fun hlt => ?_)
 ·simp at hlt
  obtain ⟨c, hc, hd, _⟩ := get_drop hlt
  rw [hd] at hr
  conv => whnf
  refine And.intro (by omega) ?_
  (conv => whnf); refine recO (cC_at hc) ?_
  conv => whnf
  refine ACalls.use (hg c) ?_
  (conv => whnf); refine recA (fun h => ?_) (fun hf => ?_)
  ·conv => whnf
   refine ⟨intEq ?_, rfl⟩
   rw [← hr, idxOf, if_pos h]
  ·conv => whnf
   refine ⟨m - 1, by omega, Gp.keep rfl ?_ fun ρ1 h => ⟨k + 1, by omega, ?_, rfl, h⟩⟩
   ·exact ⟨rfl, rfl, rfl, intEq (wrapI ((k : Int) + 1) (by omega) (by omega)), trivial⟩
   ·rw [← hr, idxOf, if_neg (by rw [hf]; simp)]; rfl
 ·simp at hlt
  conv => whnf
  rw [List.drop_eq_nil_of_le hlt] at hr
  exact ⟨intEq hr, rfl⟩
set_option maxRecDepth 20000 in
theorem Index_1_spec (c : Col) (name : ByteArray) :
  ACalls pr 96 ([.agg (colC c)] ++ [.ptr 0 1 0 0]) [.arr 1 [[.str name]]] (fun r H' => r = .bool (named name c) ∧ H' = [.arr 1 [[.str name]]]) := by
 refine ACalls.drop rfl (acalls_of_body k96.has ?_)
 conv => whnf
 exact ⟨rfl, _, rfl⟩
set_option maxRecDepth 20000 in
theorem schema_Index_spec (ex : Bool) (cs : List Col) (hl : cs.length ≤ 1000000) (name : ByteArray) (H : List AObj) :
  ACalls pr 52 [.list ex 3 (cC cs), .str name] H (fun r H' => r = .int .i64 (colIdx cs name) ∧ H' = H) := by
 refine ACalls.pure (by simp [AVal.closed, AVal.isPure]) (acalls_of_body k52.has ?_)
 conv => whnf
 refine ACalls.use (IndexFunc_spec _ _ (named name) _ (fun c => Index_1_spec c name) ex cs hl) ?_
 conv => whnf
 exact .closed _ rfl
set_option maxRecDepth 20000 in
theorem ref5_Index_spec (ex : Bool) (cs : List Col) (hl : cs.length ≤ 1000000) (name : ByteArray) (H : List AObj) :
  ACalls pr 68 [.list ex 3 (cC cs), .str name] H (fun r H' => r = .int .i64 (colIdx cs name) ∧ H' = H) := by
 refine ACalls.pure (by simp [AVal.closed, AVal.isPure]) (acalls_of_body k68.has ?_)
 conv => whnf
 refine ⟨fun m ρ H1 => ∃ k : Nat, k + m = cs.length ∧ idxOf (named name) (cs.drop k) k = colIdx cs name ∧ H1 = [] ∧
  Sv 20 [(0, .list ex 3 (cC cs)), (1, .str name), (5, .int .i64 k)] ρ, cs.length, [], ?_, ?_⟩
 ·exact ⟨0, by omega, rfl, rfl, Sv.intro rfl ⟨rfl, rfl, rfl, trivial⟩⟩
 rintro m ρ H1 ⟨k, hk, hr, rfl, d, rfl⟩
 (conv => whnf); refine recA (fun hlt => ?_) (fun hlt => ?_)
 ·simp [cC_length] at hlt
  obtain ⟨c, hc, hd, _⟩ := get_drop hlt
  rw [hd] at hr
  conv => whnf
  refine And.intro (by omega) ?_
  (conv => whnf); refine recO (cC_at hc) ?_
  (conv => whnf); refine recA (fun h => ?_) (fun hf => ?_)
  ·conv => whnf
   refine pubI ?_
   rw [← hr, idxOf, if_pos (show named name c = true from h)]
  ·conv => whnf
   refine ⟨m - 1, by omega, Gp.keep rfl ?_ fun ρ1 h => ⟨k + 1, by omega, ?_, rfl, h⟩⟩
   ·exact ⟨rfl, rfl, intEq (wrapI ((k : Int) + 1) (by omega) (by omega)), trivial⟩
   ·rw [← hr, idxOf, if_neg (by rw [show named name c = false from hf]; simp)]; rfl
 ·simp [cC_length] at hlt
  conv => whnf
  rw [List.drop_eq_nil_of_le hlt] at hr
  exact pubI hr
def badB (c : Col) (v : V) : Bool := (v.kind == 0 && !c.nul) || (v.kind != 0 && v.kind != c.kind)
def chkGo : List Col → List V → Int
 | c :: cs, v :: rs => if validB v = false then 8 else if badB c v = true then 7 else chkGo cs rs
 | _, _ => 0
def chkRow (cs : List Col) (rs : List V) : Int := if rs.length = cs.length then chkGo cs rs else 8
set_option maxRecDepth 20000 in
theorem schema_CheckRow_spec (e1 e2 : Bool) (cs : List Col) (rs : List V) (hl : rs.length ≤ 1000000) (H : List AObj) :
  ACalls pr 26 [.list e1 3 (cC cs), .list e2 3 (vC rs)] H (fun r H' => r = .int .i64 (chkRow cs rs) ∧ H' = H) := by
 refine ACalls.pure rfl (acalls_of_body k26.has ?_)
 (conv => whnf); refine recA (fun h0 => ?_) (fun h0 => ?_)
 ·simp [vC_length, cC_length] at h0
  conv => whnf
  exact pubI (by rw [chkRow, if_neg (by omega)])
 simp [vC_length, cC_length] at h0
 have hR : chkRow cs rs = chkGo cs rs := by rw [chkRow, if_pos (by omega)]
 conv => whnf
 refine ⟨fun m ρ H1 => ∃ k : Nat, k + m = rs.length ∧ chkGo (cs.drop k) (rs.drop k) = chkRow cs rs ∧ H1 = [] ∧
  Sv 48 [(0, .list e1 3 (cC cs)), (13, .list e2 3 (vC rs)), (14, .int .i64 rs.length), (15, .int .i64 k)] ρ, rs.length, [], ?_, ?_⟩
 ·exact ⟨0, by omega, hR.symm, rfl, Sv.intro rfl ⟨rfl, rfl, intEq (by rw [vC_length]), rfl, trivial⟩⟩
 rintro m ρ H1 ⟨k, hk, hr, rfl, d, rfl⟩
 (conv => whnf); refine recA (fun hlt => ?_) (fun hlt => ?_)
 ·simp at hlt
  obtain ⟨v, hv, hdv, _⟩ := get_drop hlt
  obtain ⟨c, hc, hdc, _⟩ := get_drop (show k < cs.length by omega)
  rw [hdv, hdc, chkGo] at hr
  repeat' ((conv => whnf); first | refine And.intro (by omega) ?_ | refine recO (vC_at hv) ?_ | refine recO (cC_at hc) ?_ | refine ACalls.use (value_Valid_spec v _) ?_ | refine recA (fun h => ?_) (fun h => ?_))
  all_goals (conv => whnf)
  all_goals first
   | refine ⟨m - 1, by omega, Gp.none rfl ?_ fun ρ1 h => ⟨k + 1, by omega, ?_, rfl, h⟩⟩
   | refine pubI ?_
  all_goals first
   | exact ⟨.closed _ rfl, .closed _ rfl, .closed _ rfl, pub_int (wrapI ((k : Int) + 1) (by omega) (by omega)), trivial⟩
   | skip
  all_goals
   rw [← hr]
   simp_all [badB]
 ·simp at hlt
  conv => whnf
  rw [List.drop_eq_nil_of_le (show cs.length ≤ k by omega)] at hr
  exact pubI hr
theorem atV_bounds (l : List Int) (i : Int) : 0 ≤ atV l i ∧ atV l i ≤ 131070 := by
 unfold atV
 have h1 := and_ffff i
 split
 ·omega
 ·have hl : 0 < (l.length : Int) := by omega
  have h2 := and_ffff (l.getD ((and64 i 65535).tmod l.length).toNat 0)
  have h3 : 0 ≤ (and64 i 65535).tdiv l.length := Int.tdiv_nonneg (by omega) (by omega)
  have h4 : (and64 i 65535).tdiv l.length ≤ and64 i 65535 := by
   rw [Int.tdiv_eq_ediv_of_nonneg (by omega)]
   exact Int.ediv_le_self _ (by omega)
  rw [wrapI ((and64 i 65535).tdiv l.length) (by omega) (by omega), wrapI _ (by omega) (by omega)]
  omega
theorem ACalls.frz1 {P : Program} {f : FuncId} {args : List AVal} {n sz : Nat} {es : List (List AVal)} {H : List AObj} (ha : args.all AVal.closed = true) (h : ACalls P f args [] (fun r H1 => r = .sl 0 n 0 n ∧ H1 = [.arr sz es]))
  (hn : n = es.length) (hp : pureEs es = true) : ACalls P f args H (fun r H' => r = .list false sz es ∧ H' = H) := by
 refine ACalls.pure ha (h.mono ?_)
 rintro r H1 ⟨rfl, rfl⟩
 exact pubF rfl hn hn hp
theorem ACalls.own1 {P : Program} {f : FuncId} {args : List AVal} {n sz : Nat} {es : List (List AVal)} {H : List AObj} (ha : args.all AVal.closed = true) (h : ACalls P f args [] (fun r H1 => r = .sl 0 n 0 n ∧ H1 = [.arr sz es]))
  (hp : pureEs es = true) : ACalls P f args H (fun r H' => r = .sl H.length n 0 n ∧ H' = H ++ [.arr sz es]) := by
 refine ACalls.lift ha h ?_
 rintro r H1 ⟨rfl, rfl⟩
 exact ⟨[0], _, [.arr sz es], pubSl (k := 0) rfl (Nat.add_zero _).symm rfl rfl, by simp, rfl, fun k id hk => by
  cases k with
  | zero => simp at hk; subst hk; exact ⟨rfl, sz, _, rfl, hp⟩
  | succ k => simp at hk, rfl, rfl⟩
def fillUp {α : Type} (W : List α) (z : α) (k : Nat) : List α := W.take k ++ List.replicate (W.length - k) z
theorem fillUp_length {α : Type} (W : List α) (z : α) (k : Nat) (h : k ≤ W.length) : (fillUp W z k).length = W.length := by simp [fillUp]; omega
theorem fillUp_zero {α : Type} (W : List α) (z : α) : fillUp W z 0 = List.replicate W.length z := by simp [fillUp]
theorem fillUp_all {α : Type} (W : List α) (z : α) : fillUp W z W.length = W := by simp [fillUp]
theorem fillUp_set {α : Type} (W : List α) (z : α) (k : Nat) (x : α) (h : W[k]? = some x) : (fillUp W z k).set k x = fillUp W z (k + 1) := by
 have hk := (List.getElem?_eq_some_iff.1 h).1
 unfold fillUp
 obtain ⟨m, hm⟩ : ∃ m, W.length - k = m + 1 := ⟨W.length - k - 1, by omega⟩
 have h1 : (W.take k).length = k := by simp; omega
 rw [hm, List.replicate_succ, List.set_append_right _ _ (by omega), h1, Nat.sub_self, List.set_cons_zero, List.take_add_one, h, show W.length - (k + 1) = m by omega]
 simp
theorem fillUp_get {α : Type} (W : List α) (z : α) (k : Nat) (hk : k < W.length) : (fillUp W z k)[k]? = some z := by
 have h1 : (W.take k).length = k := by simp; omega
 rw [fillUp, List.getElem?_append_right (by omega), h1, Nat.sub_self]
 obtain ⟨m, hm⟩ : ∃ m, W.length - k = m + 1 := ⟨W.length - k - 1, by omega⟩
 rw [hm, List.replicate_succ]; rfl
def zV : V := ⟨0, 0, bs []⟩
def cellV (c : Col) (n : Int) : V := if c.nul = true ∧ n.tmod 4 = 0 then zV else valueV c.kind (w64 (n.tdiv 4))
set_option maxRecDepth 20000 in
theorem Cell_spec (c : Col) (n : Int) (H : List AObj) :
  ACalls pr 24 [.agg (colC c), .int .i64 n] H (fun r H' => r = .agg (valC (cellV c n)) ∧ H' = H) := by
 refine ACalls.pure rfl (acalls_of_body k24.has ?_)
 (conv => whnf); refine recA (fun h => ?_) (fun hf => ?_)
 ·(conv => whnf); refine And.intro (by decide) ?_
  (conv => whnf); refine recA (fun h2 => ?_) (fun hf2 => ?_)
  ·conv => whnf
   exact pubV (v := cellV c n) (by rw [cellV, if_pos ⟨h, by simpa using h2⟩]; rfl) (by rw [cellV, if_pos ⟨h, by simpa using h2⟩]; rfl) (by rw [cellV, if_pos ⟨h, by simpa using h2⟩]; rfl)
  ·(conv => whnf); refine And.intro (by decide) ?_
   (conv => whnf); refine ACalls.use (Value_spec _ _ _) ?_
   conv => whnf
   have : cellV c n = valueV c.kind (w64 (n.tdiv 4)) := by rw [cellV, if_neg (by intro h; simp [h.2] at hf2)]
   rw [this]
   exact pubV rfl rfl rfl
 ·(conv => whnf); refine And.intro (by decide) ?_
  (conv => whnf); refine ACalls.use (Value_spec _ _ _) ?_
  conv => whnf
  have : cellV c n = valueV c.kind (w64 (n.tdiv 4)) := by rw [cellV, if_neg (by rw [hf]; simp)]
  rw [this]
  exact pubV rfl rfl rfl
def rowC : List Col → List Int → Int → List V
 | [], _, _ => []
 | c :: cs, l, i => cellV c (atV l i) :: rowC cs l (i + 1)
theorem rowC_length : ∀ (cs : List Col) (l : List Int) (i : Int), (rowC cs l i).length = cs.length
 | [], _, _ => rfl
 | c :: cs, l, i => by simp [rowC, rowC_length cs]
theorem rowC_get : ∀ (cs : List Col) (l : List Int) (i : Int) (k : Nat) (c : Col), cs[k]? = some c → (rowC cs l i)[k]? = some (cellV c (atV l (i + k)))
 | [], _, _, k, c, h => by simp at h
 | c0 :: cs, l, i, 0, c, h => by simp at h; subst h; simp [rowC]
 | c0 :: cs, l, i, k + 1, c, h => by
  have := rowC_get cs l (i + 1) k c (by simpa using h)
  rw [rowC, List.getElem?_cons_succ, this, show i + 1 + (k : Int) = i + ((k + 1 : Nat) : Int) by omega]
theorem setEs_vC (l : List V) (k : Nat) (v : V) : setEs (vC l) k (valC v) = vC (l.set k v) := by rw [setEs_eq]; simp [vC]
set_option maxRecDepth 20000 in
theorem Row_raw (e1 e2 : Bool) (cs : List Col) (l : List Int) (i : Int) (hc : cs.length ≤ 1000) (hi : 0 ≤ i ∧ i ≤ 1000000) :
  ACalls pr 8 [.list e1 3 (cC cs), .list e2 1 (iC l), .int .i64 i] [] (fun r H' => r = .sl 0 cs.length 0 cs.length ∧ H' = [.arr 3 (vC (rowC cs l i))]) := by
 refine acalls_of_body k8.has ?_
 conv => whnf
 refine And.intro ⟨by omega, by omega, by rw [cC_length]; show (cs.length : Int) * 32 ≤ 1099511627776; omega, by rw [cC_length]; show (cs.length : Int) ≤ 1099511627776; omega⟩ ?_
 conv => whnf
 refine ⟨fun m ρ H => ∃ k : Nat, k + m = cs.length ∧ H = [.arr 3 (vC (fillUp (rowC cs l i) zV k))] ∧ Sv 32 [(0, .list e1 3 (cC cs)), (1, .list e2 1 (iC l)), (2, .int .i64 i), (7, .sl 0 cs.length 0 cs.length), (8, .int .i64 k)] ρ, cs.length, [], ?_, ?_⟩
 ·refine ⟨0, by omega, ?_, Sv.intro rfl ⟨rfl, rfl, rfl, slEq ?_ ?_, rfl, trivial⟩⟩
  ·rw [fillUp_zero, rowC_length]
   simp [vC, cC_length]; exact .inr rfl
  ·simp [cC_length]
  ·simp [cC_length]
 rintro m ρ H ⟨k, hk, rfl, d, rfl⟩
 (conv => whnf); refine recA (fun hlt => ?_) (fun hlt => ?_)
 ·simp [cC_length] at hlt
  obtain ⟨c, hcc, _, _⟩ := get_drop hlt
  have hw := rowC_get cs l i k c hcc
  have hlen : (vC (fillUp (rowC cs l i) zV k)).length = cs.length := by rw [vC_length, fillUp_length _ _ _ (by rw [rowC_length]; omega), rowC_length]
  conv => whnf
  refine And.intro (by omega) ?_
  (conv => whnf); refine recO (cC_at hcc) ?_
  conv => whnf
  refine ⟨_, At_spec e2 l _ _, ?_⟩
  conv => whnf
  refine ⟨_, Cell_spec c _ _, ?_⟩
  (conv => whnf); refine recT (by rw [hlen]; exact Nat.beq_refl _) ?_
  conv => whnf
  refine And.intro ⟨by omega, by omega⟩ ?_
  (conv => whnf); refine recT (by rw [hlen]; exact Nat.beq_refl _) ?_
  conv => whnf
  have hidx : (vC (fillUp (rowC cs l i) zV k))[0 + (k : Int).toNat]? = some (valC zV) := by
   rw [Nat.zero_add, Int.toNat_natCast]
   exact vC_at (fillUp_get _ _ _ (by rw [rowC_length]; omega))
  refine recO hidx ?_
  conv => whnf
  have e1 := wrapI ((k : Int) + 1) (by omega) (by omega)
  have e2 : IntKind.i64.wrap (i + k) = i + k := wrapI _ (by omega) (by omega)
  refine ⟨m - 1, by omega, Gp.keep rfl ?_ fun ρ1 h => ⟨k + 1, by omega, ?_, h⟩⟩
  ·exact ⟨rfl, rfl, rfl, rfl, intEq e1, trivial⟩
  ·rw [← fillUp_set _ _ _ _ hw, ← setEs_vC]
   show [AObj.arr 3 (setEs (vC (fillUp (rowC cs l i) zV k)) (0 + (k : Int).toNat) (valC (cellV c (atV l (IntKind.i64.wrap (i + k))))))] = _
   rw [e2, Nat.zero_add, Int.toNat_natCast]
 ·simp [cC_length] at hlt
  have : k = cs.length := by omega
  subst this
  conv => whnf
  refine ⟨rfl, ?_⟩
  rw [← rowC_length cs l i, fillUp_all]
theorem rowsCmp_zero : ∀ (a b : List V), rowsCmp a b = 0 ↔ a = b
 | [], [] => by simp [rowsCmp]
 | [], _ :: _ => by simp [rowsCmp]
 | _ :: _, [] => by simp [rowsCmp]
 | x :: a, y :: b => by
  have hz := isCmp_val.zero x y
  rw [rowsCmp]
  by_cases h : valCmp x y = 0
  ·rw [if_pos h, rowsCmp_zero a b, hz.1 h]; simp
  ·rw [if_neg h]
   constructor
   ·intro h2; exact absurd h2 h
   ·intro h2; simp at h2; exact absurd (hz.2 h2.1) h
theorem pureEs_iC (l : List Int) : pureEs (iC l) = true := by simp [pureEs, iC, AVal.isPure]
def sC (l : List ByteArray) : List (List AVal) := l.map fun s => [.str s]
theorem sC_length (l : List ByteArray) : (sC l).length = l.length := List.length_map ..
theorem sC_at {l : List ByteArray} {k : Nat} {x : ByteArray} (h : l[k]? = some x) : (sC l)[k]? = some [.str x] := by simp [sC, h]
def eqS (s t : ByteArray) : Bool := s.data.toList == t.data.toList
set_option maxRecDepth 20000 in
theorem IndexS_spec (ex : Bool) (l : List ByteArray) (hl : l.length ≤ 1000000) (s : ByteArray) (H : List AObj) :
  ACalls pr 82 [.list ex 1 (sC l), .str s] H (fun r H' => r = .int .i64 (idxOf (eqS s) l 0) ∧ H' = H) := by
 refine ACalls.pure (by simp [AVal.closed, AVal.isPure]) (acalls_of_body k82.has ?_)
 conv => whnf
 refine ⟨fun m ρ H1 => ∃ k : Nat, k + m = l.length ∧ idxOf (eqS s) (l.drop k) k = idxOf (eqS s) l 0 ∧ H1 = [] ∧
  Sv 19 [(0, .list ex 1 (sC l)), (1, .str s), (7, .int .i64 l.length), (8, .int .i64 k)] ρ, l.length, [], ?_, ?_⟩
 ·exact ⟨0, by omega, rfl, rfl, Sv.intro rfl ⟨rfl, rfl, intEq (by rw [sC_length]), rfl, trivial⟩⟩
 rintro m ρ H1 ⟨k, hk, hr, rfl, d, rfl⟩
 (conv => whnf); refine recA (fun hlt => ?_) (fun hlt => ?_)
 ·simp at hlt
  obtain ⟨c, hc, hd, _⟩ := get_drop hlt
  rw [hd] at hr
  conv => whnf
  refine And.intro (by omega) ?_
  (conv => whnf); refine recO (sC_at hc) ?_
  (conv => whnf); refine recA (fun h => ?_) (fun hf => ?_)
  ·conv => whnf
   refine pubI ?_
   rw [← hr, idxOf, if_pos (show eqS s c = true from h)]
  ·conv => whnf
   refine ⟨m - 1, by omega, Gp.keep rfl ?_ fun ρ1 h => ⟨k + 1, by omega, ?_, rfl, h⟩⟩
   ·exact ⟨rfl, rfl, rfl, intEq (wrapI ((k : Int) + 1) (by omega) (by omega)), trivial⟩
   ·rw [← hr, idxOf, if_neg (by rw [show eqS s c = false from hf]; simp)]; rfl
 ·simp at hlt
  conv => whnf
  rw [List.drop_eq_nil_of_le hlt] at hr
  exact pubI hr
theorem idxOf_any {α : Type} (p : α → Bool) : ∀ (l : List α) (i : Int), 0 ≤ i → (idxOf p l i ≥ 0 ↔ l.any p = true)
 | [], i, h => by simp [idxOf]
 | c :: cs, i, h => by
  rw [idxOf]
  split
  ·simp_all
  ·rw [idxOf_any p cs (i + 1) (by omega)]; simp_all
set_option maxRecDepth 20000 in
theorem Contains_spec (ex : Bool) (l : List ByteArray) (hl : l.length ≤ 1000000) (s : ByteArray) (H : List AObj) :
  ACalls pr 78 [.list ex 1 (sC l), .str s] H (fun r H' => r = .bool (l.any (eqS s)) ∧ H' = H) := by
 refine ACalls.pure (by simp [AVal.closed, AVal.isPure]) (acalls_of_body k78.has ?_)
 (conv => whnf); refine ACalls.use (IndexS_spec ex l hl s _) ?_
 conv => whnf
 refine pubB ?_
 have h := idxOf_any (eqS s) l 0 (by omega)
 rw [Bool.eq_iff_iff, ← h]; simp
set_option maxRecDepth 20000 in
theorem Has_spec (ex : Bool) (l : List ByteArray) (hl : l.length ≤ 1000000) (s : ByteArray) (H : List AObj) :
  ACalls pr 152 [.list ex 1 (sC l), .str s] H (fun r H' => r = .bool (l.any (eqS s)) ∧ H' = H) := by
 refine ACalls.pure (by simp [AVal.closed, AVal.isPure]) (acalls_of_body k152.has ?_)
 conv => whnf
 refine ⟨fun m ρ H1 => ∃ k : Nat, k + m = l.length ∧ (l.drop k).any (eqS s) = l.any (eqS s) ∧ H1 = [] ∧
  Sv 18 [(0, .list ex 1 (sC l)), (1, .str s), (5, .int .i64 k)] ρ, l.length, [], ?_, ?_⟩
 ·exact ⟨0, by omega, rfl, rfl, Sv.intro rfl ⟨rfl, rfl, rfl, trivial⟩⟩
 rintro m ρ H1 ⟨k, hk, hr, rfl, d, rfl⟩
 (conv => whnf); refine recA (fun hlt => ?_) (fun hlt => ?_)
 ·simp [sC_length] at hlt
  obtain ⟨c, hc, hd, _⟩ := get_drop hlt
  rw [hd, List.any_cons] at hr
  have hcm : eqS s c = (c.data.toList == s.data.toList) := by rw [eqS, BEq.comm]
  conv => whnf
  refine And.intro (by omega) ?_
  (conv => whnf); refine recO (sC_at hc) ?_
  (conv => whnf); refine recA (fun h => ?_) (fun hf => ?_)
  ·conv => whnf
   refine pubB ?_
   rw [← hr, hcm, show (c.data.toList == s.data.toList) = true from h]; rfl
  ·conv => whnf
   refine ⟨m - 1, by omega, Gp.keep rfl ?_ fun ρ1 h => ⟨k + 1, by omega, ?_, rfl, h⟩⟩
   ·exact ⟨rfl, rfl, intEq (wrapI ((k : Int) + 1) (by omega) (by omega)), trivial⟩
   ·rw [← hr, hcm, show (c.data.toList == s.data.toList) = false from hf]; rfl
 ·simp [sC_length] at hlt
  conv => whnf
  rw [List.drop_eq_nil_of_le hlt] at hr
  exact pubB hr
structure Ent where
 row : List V
 cnt : Int
def entC (e : Ent) : List AVal := [.list false 3 (vC e.row), .int .i64 e.cnt]
def eC (l : List Ent) : List (List AVal) := l.map entC
theorem eC_length (l : List Ent) : (eC l).length = l.length := List.length_map ..
theorem pureEs_eC (l : List Ent) : pureEs (eC l) = true := by simp [pureEs, eC, entC, AVal.isPure]
theorem eC_at {l : List Ent} {k : Nat} {x : Ent} (h : l[k]? = some x) : (eC l)[k]? = some (entC x) := by
 rw [eC, List.getElem?_map, h]; rfl
def fitB (e : Ent) : Int := if 12 < e.row.length ∨ e.cnt < -65536 ∨ 65536 < e.cnt then 2 else if e.row.all validB then 0 else 8
theorem fitB_zero (e : Ent) (h : fitB e = 0) : e.row.length ≤ 12 ∧ -65536 ≤ e.cnt ∧ e.cnt ≤ 65536 ∧ ∀ v ∈ e.row, validB v = true := by
 unfold fitB at h
 split at h
 ·cases h
 ·split at h
  ·rename_i h1 h2
   exact ⟨by omega, by omega, by omega, by simpa using h2⟩
  ·cases h
set_option maxRecDepth 20000 in
theorem formed_spec (x : Ent) (H : List AObj) :
  ACalls pr 200 [.agg (entC x)] H (fun r H' => r = .int .i64 (fitB x) ∧ H' = H) := by
 refine ACalls.pure (by simp [AVal.closed, entC, AVal.isPure]) (acalls_of_body k200.has ?_)
 (conv => whnf); refine recA (fun h0 => ?_) (fun h0 => ?_)
 ·simp [vC_length] at h0
  conv => whnf
  exact pubI (by rw [fitB, if_pos (by omega)])
 simp [vC_length] at h0
 (conv => whnf); refine recA (fun h1 => ?_) (fun h1 => ?_)
 ·simp at h1
  conv => whnf
  exact pubI (by rw [fitB, if_pos (by omega)])
 simp at h1
 (conv => whnf); refine recA (fun h2 => ?_) (fun h2 => ?_)
 ·simp at h2
  conv => whnf
  exact pubI (by rw [fitB, if_pos (by omega)])
 simp at h2
 have hR : fitB x = if x.row.all validB then 0 else 8 := by rw [fitB, if_neg (by omega)]
 conv => whnf
 refine ⟨fun m ρ H1 => ∃ k : Nat, k + m = x.row.length ∧ (x.row.drop k).all validB = x.row.all validB ∧ H1 = [.arr 2 [entC x]] ∧
  Sv 30 [(20, .list false 3 (vC x.row)), (21, .int .i64 x.row.length), (22, .int .i64 k)] ρ, x.row.length, [], ?_, ?_⟩
 ·exact ⟨0, by omega, rfl, rfl, Sv.intro rfl ⟨rfl, intEq (by rw [vC_length]), rfl, trivial⟩⟩
 rintro m ρ H1 ⟨k, hk, hr, rfl, d, rfl⟩
 (conv => whnf); refine recA (fun hlt => ?_) (fun hlt => ?_)
 ·simp at hlt
  obtain ⟨v, hv, hd, _⟩ := get_drop hlt
  rw [hd, List.all_cons] at hr
  conv => whnf
  refine And.intro (by omega) ?_
  (conv => whnf); refine recO (vC_at hv) ?_
  conv => whnf
  refine ACalls.use (value_Valid_spec v _) ?_
  (conv => whnf); refine recA (fun h => ?_) (fun hf => ?_)
  ·replace h : (!(validB v)) = true := h
   conv => whnf
   exact pubI (by rw [hR, ← hr, if_neg (by simp_all)])
  ·replace hf : (!(validB v)) = false := hf
   conv => whnf
   refine ⟨m - 1, by omega, Gp.one 0 2 [entC x] rfl (by simp [pureEs, entC, AVal.isPure]) rfl ?_ fun ρ1 h => ⟨k + 1, by omega, ?_, rfl, h⟩⟩
   ·exact ⟨.closed _ rfl, .closed _ rfl, pub_int (wrapI ((k : Int) + 1) (by omega) (by omega)), trivial⟩
   ·rw [← hr]; simp_all
 ·simp at hlt
  conv => whnf
  rw [List.drop_eq_nil_of_le hlt] at hr
  exact pubI (by rw [hR, ← hr]; rfl)
def notB : Option (List V) → List V → Bool
 | some q, r => decide (rowsCmp q r ≥ 0)
 | none, _ => false
def bvGo : List Ent → Option (List V) → Int
 | [], _ => 0
 | e :: es, p => if fitB e ≠ 0 then fitB e else if e.cnt = 0 then 8 else if notB p e.row = true then 14 else bvGo es (some e.row)
def bagB (b : List Ent) : Int := if 4096 < b.length then 2 else bvGo b none
def prevR (b : List Ent) : Nat → Option (List V)
 | 0 => none
 | k + 1 => (b[k]?).map Ent.row
theorem prevR_succ {b : List Ent} {k : Nat} {x : Ent} (h : b[k]? = some x) : prevR b (k + 1) = some x.row := by rw [prevR, h]; rfl
set_option maxRecDepth 20000 in
theorem bag_Validate_spec (ex : Bool) (b : List Ent) (H : List AObj) :
  ACalls pr 141 [.list ex 2 (eC b)] H (fun r H' => r = .int .i64 (bagB b) ∧ H' = H) := by
 refine ACalls.pure (by simp [AVal.closed, AVal.isPure]) (acalls_of_body k141.has ?_)
 (conv => whnf); refine recA (fun h0 => ?_) (fun h0 => ?_)
 ·simp [eC_length] at h0
  conv => whnf
  exact pubI (by rw [bagB, if_pos (by omega)])
 simp [eC_length] at h0
 have hR : bagB b = bvGo b none := by rw [bagB, if_neg (by omega)]
 conv => whnf
 refine ⟨fun m ρ H1 => ∃ k : Nat, k + m = b.length ∧ bvGo (b.drop k) (prevR b k) = bagB b ∧ (∀ q, prevR b k = some q → q.length ≤ 12) ∧ H1 = [] ∧
  Sv 39 [(0, .list ex 2 (eC b)), (9, .list ex 2 (eC b)), (10, .int .i64 b.length), (11, .int .i64 k)] ρ, b.length, [], ?_, ?_⟩
 ·exact ⟨0, by omega, hR.symm, fun q h => (by cases h), rfl, Sv.intro rfl ⟨rfl, rfl, intEq (by rw [eC_length]), rfl, trivial⟩⟩
 rintro m ρ H1 ⟨k, hk, hr, hq, rfl, d, rfl⟩
 (conv => whnf); refine recA (fun hlt => ?_) (fun hlt => ?_)
 ·simp at hlt
  obtain ⟨x, hx, hd, _⟩ := get_drop hlt
  rw [hd, bvGo] at hr
  have ew := wrapI ((k : Int) + 1) (by omega) (by omega)
  conv => whnf
  refine And.intro (by omega) ?_
  (conv => whnf); refine recO (eC_at hx) ?_
  conv => whnf
  refine ACalls.use (formed_spec x _) ?_
  (conv => whnf); refine recA (fun h => ?_) (fun h => ?_)
  ·replace h : (!(fitB x == 0)) = true := h
   simp at h
   conv => whnf
   exact pubI (by rw [← hr, if_pos h])
  replace h : (!(fitB x == 0)) = false := h
  simp at h
  obtain ⟨g1, g2, g3, g4⟩ := fitB_zero x h
  rw [if_neg (by simp [h])] at hr
  (conv => whnf); refine recA (fun hz => ?_) (fun hz => ?_)
  ·replace hz : (x.cnt == 0) = true := hz
   simp at hz
   conv => whnf
   exact pubI (by rw [← hr, if_pos hz])
  replace hz : (x.cnt == 0) = false := hz
  simp at hz
  rw [if_neg hz] at hr
  (conv => whnf); refine recA (fun hp => ?_) (fun hp => ?_)
  ·replace hp : decide ((k : Int) > 0) = true := hp
   simp at hp
   obtain ⟨j, rfl⟩ : ∃ j, k = j + 1 := ⟨k - 1, by omega⟩
   obtain ⟨y, hy, _, _⟩ := get_drop (l := b) (k := j) (by omega)
   have ej := wrapI (((j + 1 : Nat) : Int) - 1) (by omega) (by omega)
   have hy2 : (eC b)[(IntKind.i64.wrap (((j + 1 : Nat) : Int) - 1)).toNat]? = some (entC y) := by
    rw [ej, show ((((j + 1 : Nat) : Int) - 1).toNat) = j by omega]; exact eC_at hy
   rw [prevR_succ hy] at hq hr
   have hql := hq _ rfl
   (conv => whnf); refine And.intro (by rw [ej]; omega) ?_
   (conv => whnf); refine recO hy2 ?_
   conv => whnf
   refine ⟨_, value_CompareRows_spec false false y.row x.row (by omega) _, ?_⟩
   (conv => whnf); refine recA (fun hc => ?_) (fun hc => ?_)
   ·replace hc : decide (rowsCmp y.row x.row ≥ 0) = true := hc
    conv => whnf
    exact pubI (by rw [← hr, if_pos (show notB (some y.row) x.row = true from hc)])
   ·replace hc : decide (rowsCmp y.row x.row ≥ 0) = false := hc
    conv => whnf
    rw [if_neg (by rw [show notB (some y.row) x.row = false from hc]; simp)] at hr
    refine ⟨m - 1, by omega, Gp.none rfl ?_ fun ρ1 h => ⟨j + 1 + 1, by omega, ?_, ?_, rfl, h⟩⟩
    ·exact ⟨.closed _ rfl, .closed _ rfl, .closed _ rfl, pub_int ew, trivial⟩
    ·rw [prevR_succ hx]; exact hr
    ·rw [prevR_succ hx]; intro q hq2; cases hq2; exact g1
  ·replace hp : decide ((k : Int) > 0) = false := hp
   simp at hp
   subst hp
   conv => whnf
   rw [if_neg (by simp [prevR, notB])] at hr
   refine ⟨m - 1, by omega, Gp.none rfl ?_ fun ρ1 h => ⟨0 + 1, by omega, ?_, ?_, rfl, h⟩⟩
   ·exact ⟨.closed _ rfl, .closed _ rfl, .closed _ rfl, pub_int ew, trivial⟩
   ·rw [prevR_succ hx]; exact hr
   ·rw [prevR_succ hx]; intro q hq2; cases hq2; exact g1
 ·simp at hlt
  conv => whnf
  rw [List.drop_eq_nil_of_le hlt] at hr
  exact pubI hr
end Go.AW
namespace Go.AW
variable [Draws]
theorem ACalls.weakR {P : Program} {f : FuncId} {args : List AVal} {H : List AObj} {Q Q' : AVal → List AObj → Prop} (h : ACalls P f args H Q) (hq : ∀ r H', Q r H' → ∃ r', Wk r r' ∧ Q' r' H') : ACalls P f args H Q' := by
 intro C τ w vs hw hl hr
 have h := h C τ w vs hw hl hr
 unfold CallsX at h ⊢
 split at h
 ·exact Calls.mono h fun e w' ⟨v, r, C', τ', H', h1, h2, h3, h4⟩ => by
   obtain ⟨r', hk, hq'⟩ := hq _ _ h2
   exact ⟨v, r', C', τ', H', h1, hq', h3.weak hk, h4⟩
 ·obtain ⟨v, r, C', τ', H', h1, h2, h3, h4⟩ := h
  obtain ⟨r', hk, hq'⟩ := hq _ _ h2
  exact ⟨v, r', C', τ', H', h1, hq', h3.weak hk, h4⟩
 ·exact h
attribute [local irreducible] ACalls
set_option maxRecDepth 20000 in
theorem CloneV_spec (ex : Bool) (cs : List V) (hl : cs.length ≤ 1000000) (H : List AObj) :
  ACalls pr 253 [.list ex 3 (vC cs)] H (fun r H' => r = .list false 3 (vC cs) ∧ H' = H) := by
 have h0 : ACalls pr 253 [.list ex 3 (vC cs)] [] (fun r H1 => ∃ r', Pub H1 0 [] r r' ∧ ((r' = .nil ∧ cs = []) ∨ r' = .list false 3 (vC cs))) := by
  refine acalls_of_body k253.has ?_
  conv => whnf
  refine And.intro (fun h => ?_) ?_
  ·conv => whnf
   exact ⟨.nil, .closed _ rfl, .inl ⟨rfl, by simpa [vC] using h⟩⟩
  ·conv => whnf
   refine And.intro ⟨roomMul (by simp [vC_length]; omega) (by omega), roomB_le (by simp [vC_length]; omega), .inr rfl⟩ ?_
   conv => whnf
   have key : List.replicate 0 [AVal.int .i64 0, .int .i64 0, .str (bs [])] ++ vC cs = vC cs := by simp
   refine ⟨_, pubF (es := vC cs) ?_ ?_ ?_ (pureEs_vC _), .inr rfl⟩
   ·rw [← key]; rfl
   ·exact congrArg List.length key
   ·exact congrArg List.length key
 refine ACalls.weakR (ACalls.lift0 (by simp [AVal.closed, AVal.isPure]) h0) ?_
 rintro r H' ⟨h, rfl⟩
 rcases h with ⟨rfl, rfl⟩ | rfl
 ·exact ⟨_, .nil false 3, rfl, rfl⟩
 ·exact ⟨_, .refl _, rfl, rfl⟩
def smallB (n : Int) : Bool := decide (-65536 ≤ n) && decide (n ≤ 65536)
def mrg : List Ent → List Ent → List Ent
 | [], b => b
 | x :: a, [] => x :: a
 | x :: a, y :: b => if rowsCmp x.row y.row < 0 then x :: mrg a (y :: b) else if 0 < rowsCmp x.row y.row then y :: mrg (x :: a) b else ⟨x.row, x.cnt + y.cnt⟩ :: mrg a b
termination_by a b => a.length + b.length
theorem mrg_nil (b : List Ent) : mrg [] b = b := by rw [mrg]
theorem mrg_nil2 (a : List Ent) : mrg a [] = a := by
 cases a with
 | nil => rw [mrg]
 | cons x a => rw [mrg]
theorem mrg_cons (x y : Ent) (a b : List Ent) : mrg (x :: a) (y :: b) = if rowsCmp x.row y.row < 0 then x :: mrg a (y :: b) else if 0 < rowsCmp x.row y.row then y :: mrg (x :: a) b else ⟨x.row, x.cnt + y.cnt⟩ :: mrg a b := by rw [mrg]
def nzB (e : Ent) : Bool := !(e.cnt == 0)
structure Grp where
 n : Int
 vals : List Ent
def oneB (e : Ent) : Bool := match e.row with
 | [v] => !(v.kind == 0)
 | _ => false
def rowsB (n : Int) : Bool := decide (-268435456 ≤ n) && decide (n ≤ 268435456)
def grpB (g : Grp) : Int := if rowsB g.n = false then 1 else if bagB g.vals ≠ 0 then bagB g.vals else if g.vals.all oneB then 0 else 8
end Go.AW
namespace Go.AW
variable [Draws]
section
variable {P : Program} {C : Nat → Nat} {τ : Nat → Option Loc} {H : List AObj} {w : World}
inductive WkD : AVal → AVal → Prop where
 | refl (a : AVal) : WkD a a
 | nil (x : Bool) (sz : Nat) : WkD .nil (.list x sz [])
 | list (x y : Bool) (sz : Nat) (es fs : List (List AVal)) (h : y = true → x = true) (hl : es.length = fs.length)
   (hl2 : ∀ (i : Nat) (e f : List AVal), es[i]? = some e → fs[i]? = some f → e.length = f.length)
   (hcell : ∀ (i j : Nat) (f : List AVal) (c : AVal), fs[i]? = some f → f[j]? = some c → c.isCell = true)
   (hc : ∀ (i j : Nat) (e f : List AVal) (d c : AVal), es[i]? = some e → fs[i]? = some f → e[j]? = some d → f[j]? = some c → WkD d c) : WkD (.list x sz es) (.list y sz fs)
 | agg (asv bs : List AVal) (hl : asv.length = bs.length) (h : ∀ (i : Nat) (a b : AVal), asv[i]? = some a → bs[i]? = some b → WkD a b) : WkD (.agg asv) (.agg bs)
 | tuple (asv bs : List AVal) (hl : asv.length = bs.length) (h : ∀ (i : Nat) (a b : AVal), asv[i]? = some a → bs[i]? = some b → WkD a b) : WkD (.tuple asv) (.tuple bs)
theorem Rd.weakD {a b : AVal} {v : Value} (h : Rd C w a v) (hw : WkD a b) : Rd C w b v := by
 induction hw generalizing v with
 | refl => exact h
 | nil x sz => cases h; exact .list0 x sz none 0 (fun _ => rfl)
 | list x y sz es fs hxy hl hl2 hcell hc ih =>
  have hsome : ∀ {i : Nat} {f : List AVal}, fs[i]? = some f → ∃ e, es[i]? = some e ∧ e.length = f.length := fun {i f} hf => by
   have hi : i < es.length := by have := (List.getElem?_eq_some_iff.1 hf).1; omega
   exact ⟨es[i], List.getElem?_eq_getElem hi, hl2 i _ _ (List.getElem?_eq_getElem hi) hf⟩
  cases h with
  | list0 _ _ a cap hx =>
   cases fs with
   | nil => exact .list0 y sz a cap fun hy => hx (hxy hy)
   | cons f fs => simp at hl
  | list _ _ _ b off cap vs hx hcap hsz hC hcl hp hrd =>
   rw [hl]
   refine .list y sz fs b off cap vs (fun hy => by rw [← hl]; exact hx (hxy hy)) (by omega) (fun f hf => ?_) (by rw [← hl]; exact hC) (fun i j hi hj => hcl i j (by omega) hj) hcell (fun i j f c hf hcc => ?_)
   ·obtain ⟨i, hi, rfl⟩ := List.getElem_of_mem hf
    obtain ⟨e, he, hle⟩ := hsome (List.getElem?_eq_getElem hi)
    rw [← hle]; exact hsz e (List.mem_of_getElem? he)
   ·obtain ⟨e, he, hle⟩ := hsome hf
    have hj : j < e.length := by have := (List.getElem?_eq_some_iff.1 hcc).1; omega
    exact ih i j e f e[j] c he hf (List.getElem?_eq_getElem hj) hcc (hrd i j e e[j] he (List.getElem?_eq_getElem hj))
 | agg => cases h
 | tuple => cases h
theorem Rel.weakD {a b : AVal} {v : Value} (h : Rel C w τ H a v) (hw : WkD a b) : Rel C w τ H b v := by
 induction hw generalizing v with
 | refl => exact h
 | nil x sz =>
  cases h with
  | rd h => exact .rd (h.weakD (.nil x sz))
 | list x y sz es fs hxy hl hl2 hcell hc ih =>
  cases h with
  | rd h => exact .rd (h.weakD (.list x y sz es fs hxy hl hl2 hcell hc))
 | agg asv bs hl h2 ih =>
  cases h with
  | rd h => cases h
  | agg _ vs hlv hv =>
   refine .agg bs vs (by omega) fun i c u hc hu => ?_
   have hi : i < asv.length := by have := (List.getElem?_eq_some_iff.1 hc).1; omega
   exact ih i asv[i] c (List.getElem?_eq_getElem hi) hc (hv i asv[i] u (List.getElem?_eq_getElem hi) hu)
 | tuple asv bs hl h2 ih =>
  cases h with
  | rd h => cases h
  | tuple _ vs hlv hv =>
   refine .tuple bs vs (by omega) fun i c u hc hu => ?_
   have hi : i < asv.length := by have := (List.getElem?_eq_some_iff.1 hc).1; omega
   exact ih i asv[i] c (List.getElem?_eq_getElem hi) hc (hv i asv[i] u (List.getElem?_eq_getElem hi) hu)
def WksD (asv bs : List AVal) : Prop := asv.length = bs.length ∧ ∀ (i : Nat) (a b : AVal), asv[i]? = some a → bs[i]? = some b → WkD a b
theorem WksD.nil : WksD [] [] := ⟨rfl, fun i a b h => by simp at h⟩
theorem WksD.cons {a b : AVal} {asv bs : List AVal} (h : WkD a b) (hs : WksD asv bs) : WksD (a :: asv) (b :: bs) := by
 refine ⟨by simp [hs.1], fun i x y hx hy => ?_⟩
 cases i with
 | zero => simp at hx hy; subst hx hy; exact h
 | succ i => exact hs.2 i x y (by simpa using hx) (by simpa using hy)
theorem ACalls.weakD {f : FuncId} {args bs : List AVal} {Q : AVal → List AObj → Prop} (h : ACalls P f bs H Q) (hw : WksD args bs) : ACalls P f args H Q := by
 intro C τ w vs hwf hl hr
 refine h C τ w vs hwf (by rw [← hw.1]; exact hl) fun i b v hb hv => ?_
 have hi : i < args.length := by have := (List.getElem?_eq_some_iff.1 hb).1; have := hw.1; omega
 exact (hr i args[i] v (List.getElem?_eq_getElem hi) hv).weakD (hw.2 i args[i] b (List.getElem?_eq_getElem hi) hb)
theorem ACalls.weakRD {f : FuncId} {args : List AVal} {Q Q' : AVal → List AObj → Prop} (h : ACalls P f args H Q) (hq : ∀ r H', Q r H' → ∃ r', WkD r r' ∧ Q' r' H') : ACalls P f args H Q' := by
 intro C τ w vs hw hl hr
 have h := h C τ w vs hw hl hr
 unfold CallsX at h ⊢
 split at h
 ·exact Calls.mono h fun e w' ⟨v, r, C', τ', H', h1, h2, h3, h4⟩ => by
   obtain ⟨r', hk, hq'⟩ := hq _ _ h2
   exact ⟨v, r', C', τ', H', h1, hq', h3.weakD hk, h4⟩
 ·obtain ⟨v, r, C', τ', H', h1, h2, h3, h4⟩ := h
  obtain ⟨r', hk, hq'⟩ := hq _ _ h2
  exact ⟨v, r', C', τ', H', h1, hq', h3.weakD hk, h4⟩
 ·exact h
end
attribute [local irreducible] ACalls
def sumE (a b : List Ent) : Int :=
 if bagB a ≠ 0 then bagB a else if bagB b ≠ 0 then bagB b else if ((mrg a b).all fun e => smallB e.cnt) = true ∧ ((mrg a b).filter nzB).length ≤ 4096 then 0 else 2
def sumL (a b : List Ent) : List Ent := (mrg a b).filter nzB
def mrgE (a b : Grp) : Int := if rowsB (a.n + b.n) = false then 2 else sumE a.vals b.vals
def mrgG (a b : Grp) : Grp := if mrgE a b = 0 then ⟨a.n + b.n, sumL a.vals b.vals⟩ else ⟨0, []⟩
def oneG (v : V) (c : Int) : Grp := ⟨c, if v.kind ≠ 0 ∧ c ≠ 0 then [⟨[v], c⟩] else []⟩
def preE (g : Grp) (v : V) (c : Int) : Int := if grpB g ≠ 0 then grpB g else if validB v = false then 8 else if smallB c = false then 1 else 0
def addGE (g : Grp) (v : V) (c : Int) : Int := if preE g v c ≠ 0 then preE g v c else mrgE g (oneG v c)
def addGG (g : Grp) (v : V) (c : Int) : Grp := if preE g v c ≠ 0 then ⟨0, []⟩ else mrgG g (oneG v c)
def numV (n : Int) : V := if n < -1073741824 ∨ 1073741824 < n then zV else ⟨2, n, bs []⟩
def num0 (e : Ent) : Int := (e.row.getD 0 zV).num
def totGo : List Ent → Int → Int → Int × Int
 | [], s, c => (s, c)
 | e :: es, s, c => totGo es (w64 (s + w64 (num0 e * e.cnt))) (w64 (c + e.cnt))
set_option maxRecDepth 20000 in
theorem IndexFuncE_spec (g : FuncId) (caps : List AVal) (p : Ent → Bool) (H : List AObj) (cs : List Ent) (hg : ∀ c ∈ cs, ACalls pr g ([.agg (entC c)] ++ caps) H (fun r H' => r = .bool (p c) ∧ H' = H))
  (ex : Bool) (hl : cs.length ≤ 1000000) :
  ACalls pr 252 [.list ex 2 (eC cs), .fn g caps] H (fun r H' => r = .int .i64 (idxOf p cs 0) ∧ H' = H) := by
 refine acalls_of_body k252.has ?_
 conv => whnf
 refine ⟨fun m ρ H1 => ∃ k : Nat, k + m = cs.length ∧ idxOf p (cs.drop k) k = idxOf p cs 0 ∧ H1 = H ∧
  Sv 19 [(0, .list ex 2 (eC cs)), (1, .fn g caps), (7, .int .i64 cs.length), (8, .int .i64 k)] ρ, cs.length, [], ?_, ?_⟩
 ·exact ⟨0, by omega, rfl, rfl, Sv.intro rfl ⟨rfl, rfl, intEq (by rw [eC_length]), rfl, trivial⟩⟩
 rintro m ρ H1 ⟨k, hk, hr, rfl, d, rfl⟩
 (conv => whnf); refine recA (fun hlt => ?_) (fun hlt => ?_)
 ·simp at hlt
  obtain ⟨c, hc, hd, hmem⟩ := get_drop hlt
  rw [hd] at hr
  conv => whnf
  refine And.intro (by omega) ?_
  (conv => whnf); refine recO (eC_at hc) ?_
  conv => whnf
  refine ACalls.use (hg c hmem) ?_
  (conv => whnf); refine recA (fun h => ?_) (fun hf => ?_)
  ·conv => whnf
   refine ⟨intEq ?_, rfl⟩
   rw [← hr, idxOf, if_pos h]
  ·conv => whnf
   refine ⟨m - 1, by omega, Gp.keep rfl ?_ fun ρ1 h => ⟨k + 1, by omega, ?_, rfl, h⟩⟩
   ·exact ⟨rfl, rfl, rfl, intEq (wrapI ((k : Int) + 1) (by omega) (by omega)), trivial⟩
   ·rw [← hr, idxOf, if_neg (by rw [hf]; simp)]; rfl
 ·simp at hlt
  conv => whnf
  rw [List.drop_eq_nil_of_le hlt] at hr
  exact ⟨intEq hr, rfl⟩
def posB (e : Ent) : Bool := decide (e.cnt > 0)
def notInt (e : Ent) : Bool := !((e.row.getD 0 zV).kind == 2)
def row0 (e : Ent) : V := e.row.getD 0 zV
def presV (l : List Ent) : List V := (l.filter posB).map row0
def floorV (s c : Int) : Int := if s.tmod c < 0 then w64 (w64 (s.tdiv c) - 1) else w64 (s.tdiv c)
def resE (f : Int) (g : Grp) : Int := if f < 1 ∨ 7 < f then 1 else if grpB g ≠ 0 then grpB g else if (f = 3 ∨ f = 7) ∧ g.vals.any notInt = true then 7 else 0
def resV0 (f : Int) (g : Grp) : V :=
 if f = 1 then numV g.n else if f = 2 then numV (totGo g.vals 0 0).2 else if f = 6 then numV (presV g.vals).length
 else if f = 4 then (presV g.vals).head?.getD zV else if f = 5 then (presV g.vals).getLast?.getD zV
 else if f = 3 then (if g.vals = [] then zV else numV (totGo g.vals 0 0).1)
 else if 0 < (totGo g.vals 0 0).2 then numV (floorV (totGo g.vals 0 0).1 (totGo g.vals 0 0).2) else zV
def resV (f : Int) (g : Grp) : V := if resE f g ≠ 0 then zV else resV0 f g
end Go.AW
namespace Go.AW
variable [Draws]
theorem rowsCmp_vals : ∀ (a b : List V), rowsCmp a b = -1 ∨ rowsCmp a b = 0 ∨ rowsCmp a b = 1
 | [], [] => .inr (.inl rfl)
 | [], _ :: _ => .inl rfl
 | _ :: _, [] => .inr (.inr rfl)
 | x :: xs, y :: ys => by
  rw [rowsCmp]
  split
  ·exact rowsCmp_vals xs ys
  ·exact isCmp_val.vals x y
theorem rowsCmp_anti : ∀ (a b : List V), rowsCmp b a = - rowsCmp a b
 | [], [] => rfl
 | [], _ :: _ => rfl
 | _ :: _, [] => rfl
 | x :: xs, y :: ys => by
  rw [rowsCmp, rowsCmp, isCmp_val.anti x y]
  by_cases h : valCmp x y = 0
  ·rw [if_pos h, if_pos (by omega), rowsCmp_anti xs ys]
  ·rw [if_neg h, if_neg (by omega)]
theorem rowsCmp_trans : ∀ (a b d : List V), rowsCmp a b < 0 → rowsCmp b d < 0 → rowsCmp a d < 0
 | [], _, [], _, h2 => by
  rename_i b _
  cases b with
  | nil => exact h2
  | cons y ys => rw [rowsCmp] at h2; omega
 | [], _, _ :: _, _, _ => by rw [rowsCmp]; omega
 | x :: xs, [], _, h1, _ => by rw [rowsCmp] at h1; omega
 | x :: xs, y :: ys, [], _, h2 => by rw [rowsCmp] at h2; omega
 | x :: xs, y :: ys, z :: zs, h1, h2 => by
  rw [rowsCmp] at h1 h2 ⊢
  by_cases e1 : valCmp x y = 0
  ·rw [if_pos e1] at h1
   have hxy := (isCmp_val.zero x y).1 e1
   subst hxy
   by_cases e2 : valCmp x z = 0
   ·rw [if_pos e2] at h2 ⊢; exact rowsCmp_trans xs ys zs h1 h2
   ·rw [if_neg e2] at h2 ⊢; exact h2
  ·rw [if_neg e1] at h1
   by_cases e2 : valCmp y z = 0
   ·have hyz := (isCmp_val.zero y z).1 e2
    subst hyz
    rw [if_neg e1]; exact h1
   ·rw [if_neg e2] at h2
    have := isCmp_val.trans x y z h1 h2
    rw [if_neg (by omega)]; exact this
def cntL : List Ent → List V → Int
 | [], _ => 0
 | e :: l, r => (if rowsCmp e.row r = 0 then e.cnt else 0) + cntL l r
def Srt (l : List Ent) : Prop := l.Pairwise fun x y => rowsCmp x.row y.row < 0
theorem cntL_zero : ∀ (l : List Ent) (r : List V), (∀ e ∈ l, rowsCmp e.row r ≠ 0) → cntL l r = 0
 | [], _, _ => rfl
 | e :: l, r, h => by rw [cntL, if_neg (h e (List.mem_cons_self ..)), cntL_zero l r fun e he => h e (List.mem_cons_of_mem _ he)]; rfl
theorem cntL_above {l : List Ent} {r : List V} (h : ∀ e ∈ l, rowsCmp r e.row < 0) : cntL l r = 0 :=
 cntL_zero l r fun e he hz => by have := h e he; rw [rowsCmp_anti] at this; omega
theorem cntL_head {x : Ent} {l : List Ent} (h : Srt (x :: l)) : cntL (x :: l) x.row = x.cnt := by
 rw [cntL, if_pos ((rowsCmp_zero _ _).2 rfl), cntL_above (List.pairwise_cons.1 h).1]; omega
theorem cntL_append : ∀ (a b : List Ent) (r : List V), cntL (a ++ b) r = cntL a r + cntL b r
 | [], b, r => by simp [cntL]
 | e :: a, b, r => by rw [List.cons_append, cntL, cntL, cntL_append a b r]; omega
theorem cntL_mem : ∀ {l : List Ent} {e : Ent}, Srt l → e ∈ l → cntL l e.row = e.cnt
 | x :: l, e, hs, he => by
  rcases List.mem_cons.1 he with rfl | he
  ·exact cntL_head hs
  ·have h1 := (List.pairwise_cons.1 hs).1 e he
   rw [cntL, if_neg (by omega), cntL_mem (List.pairwise_cons.1 hs).2 he]; omega
theorem cntL_mrg : ∀ (a b : List Ent) (r : List V), cntL (mrg a b) r = cntL a r + cntL b r
 | [], b, r => by rw [mrg_nil, cntL]; omega
 | x :: a, [], r => by rw [mrg_nil2, cntL]; simp [cntL]
 | x :: a, y :: b, r => by
  rw [mrg_cons]
  split
  ·have e1 : cntL (x :: a) r = (if rowsCmp x.row r = 0 then x.cnt else 0) + cntL a r := rfl
   rw [cntL, cntL_mrg a (y :: b) r, e1]; omega
  split
  ·have e1 : cntL (y :: b) r = (if rowsCmp y.row r = 0 then y.cnt else 0) + cntL b r := rfl
   rw [cntL, cntL_mrg (x :: a) b r, e1]; omega
  ·have hr : x.row = y.row := (rowsCmp_zero _ _).1 (by have := rowsCmp_vals x.row y.row; omega)
   rw [cntL, cntL_mrg a b r, cntL, cntL]
   simp only [hr]
   split <;> omega
termination_by a b => a.length + b.length
theorem mem_mrg : ∀ (a b : List Ent) (e : Ent), e ∈ mrg a b → (∃ x ∈ a, x.row = e.row) ∨ ∃ y ∈ b, y.row = e.row
 | [], b, e, h => by rw [mrg_nil] at h; exact .inr ⟨e, h, rfl⟩
 | x :: a, [], e, h => by rw [mrg_nil2] at h; exact .inl ⟨e, h, rfl⟩
 | x :: a, y :: b, e, h => by
  rw [mrg_cons] at h
  have la : ∀ {e : Ent}, (∃ x ∈ a, x.row = e.row) → ∃ z ∈ x :: a, z.row = e.row := fun ⟨z, h1, h2⟩ => ⟨z, List.mem_cons_of_mem _ h1, h2⟩
  have lb : ∀ {e : Ent}, (∃ x ∈ b, x.row = e.row) → ∃ z ∈ y :: b, z.row = e.row := fun ⟨z, h1, h2⟩ => ⟨z, List.mem_cons_of_mem _ h1, h2⟩
  split at h
  ·rcases List.mem_cons.1 h with rfl | h
   ·exact .inl ⟨e, List.mem_cons_self .., rfl⟩
   ·exact (mem_mrg a (y :: b) e h).imp la id
  split at h
  ·rcases List.mem_cons.1 h with rfl | h
   ·exact .inr ⟨e, List.mem_cons_self .., rfl⟩
   ·exact (mem_mrg (x :: a) b e h).imp id lb
  ·rcases List.mem_cons.1 h with rfl | h
   ·exact .inl ⟨x, List.mem_cons_self .., rfl⟩
   ·exact (mem_mrg a b e h).imp la lb
termination_by a b => a.length + b.length
theorem srt_mrg : ∀ (a b : List Ent), Srt a → Srt b → Srt (mrg a b)
 | [], b, _, hb => by rw [mrg_nil]; exact hb
 | x :: a, [], ha, _ => by rw [mrg_nil2]; exact ha
 | x :: a, y :: b, ha, hb => by
  have ax := (List.pairwise_cons.1 ha).1
  have bx := (List.pairwise_cons.1 hb).1
  have ha' := (List.pairwise_cons.1 ha).2
  have hb' := (List.pairwise_cons.1 hb).2
  rw [mrg_cons]
  split
  ·rename_i hc
   refine List.pairwise_cons.2 ⟨fun e he => ?_, srt_mrg a (y :: b) ha' hb⟩
   rcases mem_mrg a (y :: b) e he with ⟨z, hz, hzr⟩ | ⟨z, hz, hzr⟩
   ·rw [← hzr]; exact ax z hz
   ·rw [← hzr]
    rcases List.mem_cons.1 hz with rfl | hz
    ·exact hc
    ·exact rowsCmp_trans _ _ _ hc (bx z hz)
  split
  ·rename_i hc0 hc
   have hc' : rowsCmp y.row x.row < 0 := by rw [rowsCmp_anti]; omega
   refine List.pairwise_cons.2 ⟨fun e he => ?_, srt_mrg (x :: a) b ha hb'⟩
   rcases mem_mrg (x :: a) b e he with ⟨z, hz, hzr⟩ | ⟨z, hz, hzr⟩
   ·rw [← hzr]
    rcases List.mem_cons.1 hz with rfl | hz
    ·exact hc'
    ·exact rowsCmp_trans _ _ _ hc' (ax z hz)
   ·rw [← hzr]; exact bx z hz
  ·have hr : x.row = y.row := (rowsCmp_zero _ _).1 (by have := rowsCmp_vals x.row y.row; omega)
   refine List.pairwise_cons.2 ⟨fun e he => ?_, srt_mrg a b ha' hb'⟩
   rcases mem_mrg a b e he with ⟨z, hz, hzr⟩ | ⟨z, hz, hzr⟩
   ·rw [← hzr]; exact ax z hz
   ·rw [← hzr]; show rowsCmp x.row z.row < 0; rw [hr]; exact bx z hz
termination_by a b => a.length + b.length
theorem cntL_nz : ∀ (l : List Ent) (r : List V), cntL (l.filter nzB) r = cntL l r
 | [], _ => rfl
 | e :: l, r => by
  rw [List.filter_cons]
  split
  ·rw [cntL, cntL, cntL_nz l r]
  ·rename_i h
   have : e.cnt = 0 := by simpa [nzB] using h
   rw [cntL, cntL_nz l r, this]; split <;> omega
theorem srt_filter {l : List Ent} (p : Ent → Bool) (h : Srt l) : Srt (l.filter p) := List.Pairwise.filter p h
theorem fitB_iff (e : Ent) : fitB e = 0 ↔ e.row.length ≤ 12 ∧ smallB e.cnt = true ∧ e.row.all validB = true := by
 simp only [smallB, Bool.and_eq_true, decide_eq_true_eq]
 unfold fitB
 constructor
 ·intro h
  split at h
  ·cases h
  ·split at h
   ·rename_i h1 h2; exact ⟨by omega, ⟨by omega, by omega⟩, h2⟩
   ·cases h
 ·rintro ⟨h1, ⟨h2, h3⟩, h4⟩
  rw [if_neg (by omega), if_pos h4]
theorem bvGo_iff : ∀ (l : List Ent) (p : Option (List V)), bvGo l p = 0 ↔ (∀ e ∈ l, fitB e = 0 ∧ e.cnt ≠ 0) ∧ Srt l ∧ ∀ q, p = some q → ∀ e ∈ l, rowsCmp q e.row < 0
 | [], p => ⟨fun _ => ⟨fun e h => (by simp at h), List.Pairwise.nil, fun q _ e h => by simp at h⟩, fun _ => rfl⟩
 | x :: l, p => by
  rw [bvGo]
  have nb : notB p x.row = true ↔ ∃ q, p = some q ∧ ¬ rowsCmp q x.row < 0 := by
   cases p with
   | none => simp [notB]
   | some q => simp [notB]
  constructor
  ·intro h
   by_cases h1 : fitB x = 0
   ·rw [if_neg (by simp [h1])] at h
    by_cases h2 : x.cnt = 0
    ·rw [if_pos h2] at h; cases h
    ·rw [if_neg h2] at h
     by_cases h3 : notB p x.row = true
     ·rw [if_pos h3] at h; cases h
     ·rw [if_neg h3] at h
      obtain ⟨g1, g2, g3⟩ := (bvGo_iff l (some x.row)).1 h
      have hp : ∀ q, p = some q → rowsCmp q x.row < 0 := fun q hq => Classical.byContradiction fun hn => h3 (nb.2 ⟨q, hq, hn⟩)
      refine ⟨fun e he => ?_, List.pairwise_cons.2 ⟨g3 _ rfl, g2⟩, fun q hq e he => ?_⟩
      ·rcases List.mem_cons.1 he with rfl | he
       ·exact ⟨h1, h2⟩
       ·exact g1 e he
      ·rcases List.mem_cons.1 he with rfl | he
       ·exact hp q hq
       ·exact rowsCmp_trans _ _ _ (hp q hq) (g3 _ rfl e he)
   ·rw [if_pos h1] at h; exact absurd h h1
  ·rintro ⟨h1, h2, h3⟩
   have hx := h1 x (List.mem_cons_self ..)
   rw [if_neg (by simp [hx.1]), if_neg hx.2, if_neg (fun h => by
    obtain ⟨q, hq, hn⟩ := nb.1 h
    exact hn (h3 q hq x (List.mem_cons_self ..)))]
   exact (bvGo_iff l (some x.row)).2 ⟨fun e he => h1 e (List.mem_cons_of_mem _ he), (List.pairwise_cons.1 h2).2, fun q hq e he => by cases hq; exact (List.pairwise_cons.1 h2).1 e he⟩
theorem bagB_iff (l : List Ent) : bagB l = 0 ↔ l.length ≤ 4096 ∧ (∀ e ∈ l, fitB e = 0 ∧ e.cnt ≠ 0) ∧ Srt l := by
 rw [bagB]
 constructor
 ·intro h
  split at h
  ·cases h
  ·have := (bvGo_iff l none).1 h
   exact ⟨by omega, this.1, this.2.1⟩
 ·rintro ⟨h1, h2, h3⟩
  rw [if_neg (by omega)]
  exact (bvGo_iff l none).2 ⟨h2, h3, fun q hq => by cases hq⟩
attribute [local irreducible] ACalls
def g0 : Grp := ⟨0, []⟩
def n5 : V := ⟨2, 5, bs []⟩
theorem n5_valid : validB n5 = true := by kernel_rfl
theorem mrg_one (v : V) (a b : Int) : mrg [⟨[v], a⟩] [⟨[v], b⟩] = [⟨[v], a + b⟩] := by
 have h : rowsCmp [v] [v] = 0 := (rowsCmp_zero _ _).2 rfl
 rw [mrg_cons, if_neg (by show ¬ rowsCmp [v] [v] < 0; omega), if_neg (by show ¬ 0 < rowsCmp [v] [v]; omega), mrg_nil]
theorem srt_one (e : Ent) : Srt [e] := List.pairwise_singleton ..
theorem bagB_one (v : V) (c : Int) (hv : validB v = true) (hc : c ≠ 0) (hs : smallB c = true) : bagB [⟨[v], c⟩] = 0 :=
 (bagB_iff _).2 ⟨by simp, fun e he => by
  rw [List.mem_singleton] at he; subst he
  exact ⟨(fitB_iff _).2 ⟨by simp, hs, by simp [hv]⟩, hc⟩, srt_one _⟩
theorem bagB_nil : bagB [] = 0 := rfl
theorem grpB_intro {g : Grp} (h1 : rowsB g.n = true) (h2 : bagB g.vals = 0) (h3 : g.vals.all oneB = true) : grpB g = 0 := by
 rw [grpB, if_neg (by simp [h1]), if_neg (by simp [h2]), if_pos h3]
theorem k1 : addGE g0 n5 2 = 0 ∧ addGG g0 n5 2 = ⟨2, [⟨[n5], 2⟩]⟩ := by
 have hp : preE g0 n5 2 = 0 := by rw [preE, if_neg (by simp [grpB_intro (g := g0) rfl rfl rfl]), if_neg (by simp [n5_valid]), if_neg (by decide)]
 have ho : oneG n5 2 = ⟨2, [⟨[n5], 2⟩]⟩ := by rw [oneG, if_pos ⟨by decide, by decide⟩]
 have hm : mrgE g0 ⟨2, [⟨[n5], 2⟩]⟩ = 0 := by
  rw [mrgE, if_neg (by decide), sumE, if_neg (by simp [g0, bagB_nil]), if_neg (by simp [bagB_one n5 2 n5_valid (by decide) (by decide)]), if_pos ⟨by simp [g0, mrg_nil, smallB], by simp [g0, mrg_nil, nzB]⟩]
 have e1 : addGE g0 n5 2 = 0 := by rw [addGE, if_neg (by simp [hp]), ho, hm]
 refine ⟨e1, ?_⟩
 rw [addGG, if_neg (by simp [hp]), ho, mrgG, if_pos hm]
 simp [g0, sumL, mrg_nil, nzB]
theorem k2 : addGE ⟨2, [⟨[n5], 2⟩]⟩ n5 (-1) = 0 ∧ addGG ⟨2, [⟨[n5], 2⟩]⟩ n5 (-1) = ⟨1, [⟨[n5], 1⟩]⟩ := by
 have hb := bagB_one n5 2 n5_valid (by decide) (by decide)
 have hp : preE ⟨2, [⟨[n5], 2⟩]⟩ n5 (-1) = 0 := by rw [preE, if_neg (by simp [grpB_intro (g := ⟨2, [⟨[n5], 2⟩]⟩) rfl hb rfl]), if_neg (by simp [n5_valid]), if_neg (by decide)]
 have ho : oneG n5 (-1) = ⟨-1, [⟨[n5], -1⟩]⟩ := by rw [oneG, if_pos ⟨by decide, by decide⟩]
 have hm : mrgE ⟨2, [⟨[n5], 2⟩]⟩ ⟨-1, [⟨[n5], -1⟩]⟩ = 0 := by
  rw [mrgE, if_neg (by decide), sumE, if_neg (by simp [hb]), if_neg (by simp [bagB_one n5 (-1) n5_valid (by decide) (by decide)]), if_pos ⟨by simp [mrg_one, smallB], by simp [mrg_one, nzB]⟩]
 have e1 : addGE ⟨2, [⟨[n5], 2⟩]⟩ n5 (-1) = 0 := by rw [addGE, if_neg (by simp [hp]), ho, hm]
 refine ⟨e1, ?_⟩
 rw [addGG, if_neg (by simp [hp]), ho, mrgG, if_pos hm]
 simp [sumL, mrg_one, nzB]
def gk : Grp := ⟨1, [⟨[n5], 1⟩]⟩
theorem gk_ok : grpB gk = 0 := grpB_intro rfl (bagB_one n5 1 n5_valid (by decide) (by decide)) rfl
theorem k3 : resE 3 gk = 0 ∧ resV 3 gk = n5 ∧ resE 1 gk = 0 ∧ resV 1 gk = ⟨2, 1, bs []⟩ := by
 have h3 : resE 3 gk = 0 := by rw [resE, if_neg (by decide), if_neg (by simp [gk_ok])]; rfl
 have h1 : resE 1 gk = 0 := by rw [resE, if_neg (by decide), if_neg (by simp [gk_ok])]; rfl
 refine ⟨h3, ?_, h1, ?_⟩
 ·rw [resV, if_neg (by simp [h3])]; kernel_rfl
 ·rw [resV, if_neg (by simp [h1])]; kernel_rfl
def w2 (n : Int) : List Int := [u8 (n.fdiv (2 ^ 8)), u8 n]
def p4 (n : Int) : List Int := w2 (IntKind.i64.wrap (n.fdiv (2 ^ 16))) ++ [u8 (n.fdiv (2 ^ 8)), u8 n]
structure Rec where
 del : Bool
 seq : Int
 row : List V
structure Fil where
 id : ByteArray
 src : ByteArray
 recs : List Rec
structure RdS where
 rest : List Int
 bad : Bool
def tkB (n : Int) (s : RdS) : Bool := !s.bad && decide (n ≤ s.rest.length)
def tkL (n : Int) (s : RdS) : List Int := if tkB n s then s.rest.take n.toNat else []
def tkS (n : Int) (s : RdS) : RdS := if tkB n s then ⟨s.rest.drop n.toNat, false⟩ else ⟨s.rest, true⟩
def nbV (n : Int) (s : RdS) : Int := num (tkL n s)
def txS (s : RdS) : RdS := tkS (nbV 1 s) (tkS 1 s)
def f0 : Fil := ⟨bs [], bs [], []⟩
def dS (l : List Int) : RdS := ⟨l.take (l.length - 4), false⟩
def z1 (l : List Int) : RdS := tkS 4 (dS l)
def z2 (l : List Int) : RdS := txS (z1 l)
def z3 (l : List Int) : RdS := txS (z2 l)
def z4 (l : List Int) : RdS := tkS 2 (z3 l)
def gO (l : List Int) (i : Nat) : AObj := .arr 2 [[.list false 1 (iC l), .int .i64 i]]
def nx (l : List Int) (i : Nat) (n : Int) : Int × Nat := if l.length ≤ i ∨ n < 1 then (0, i) else (l.getD i 0 % n, i + 1)
def inB (l : List ByteArray) (s : ByteArray) : Bool := l.any fun x => eqS x s
def instL : List Int := [144000, 144719, 145380, 145400, 145439, 145440, 145500, 146000, 146879, 146880, 148000, 148320, 149000, 151199, 151200, 153000]
def wtexts : List ByteArray := [bs [], bs [97], bs [98], bs [105, 116, 39, 115], bs [122, 122]]
def wv1 (k : Int) (l : List Int) (i : Nat) : V × Nat :=
 if k = 1 then (⟨1, (nx l i 2).1, bs []⟩, (nx l i 2).2)
 else if k = 2 then (⟨2, (nx l i 7).1 - 1, bs []⟩, (nx l i 7).2)
 else if k = 3 then (⟨3, 0, wtexts.getD (nx l i 5).1.toNat (bs [])⟩, (nx l i 5).2)
 else (⟨4, instL.getD (nx l i 16).1.toNat 0, bs []⟩, (nx l i 16).2)
def wv (c : Col) (l : List Int) (i : Nat) : V × Nat :=
 if c.nul then (if (nx l i 5).1 = 0 then (zV, (nx l i 5).2) else wv1 c.kind l (nx l i 5).2) else wv1 c.kind l i
def wr (l : List Int) : List Col → Nat → List V → List V × Nat
 | [], i, out => (out, i)
 | c :: cs, i, out => wr l cs (wv c l i).2 (out ++ [(wv c l i).1])
structure Src where
 cols : List Col
 key : List ByteArray
 late : Int
 reopen : Int
def sAt : ByteArray := bs [97, 116]
def keepC (key : List ByteArray) (c : Col) : Bool := inB key c.name || eqS c.name sAt
def delR (key : List ByteArray) : List Col → List V → List V
 | c :: cs, v :: vs => (if keepC key c then v else zV) :: delR key cs vs
 | _, _ => []
def wk (s : Src) (l : List Int) (i : Nat) : Int × Nat := nx l (wr l s.cols (nx l i 4).2 []).2 24
def wrow (s : Src) (l : List Int) (i : Nat) : List V := (wr l s.cols (nx l i 4).2 []).1
def wrec (s : Src) (l : List Int) (i : Nat) : Rec × Nat :=
 if (wk s l i).1 < 5 then (⟨true, (nx l i 4).1, delR s.key s.cols (wrow s l i)⟩, (wk s l i).2)
 else if (wk s l i).1 = 5 then (⟨true, (nx l i 4).1, wrow s l i⟩, (wk s l i).2)
 else if (wk s l i).1 = 6 then (⟨false, (nx l i 4).1, (wrow s l i).take (s.cols.length - 1)⟩, (wk s l i).2)
 else if (wk s l i).1 = 7 then (⟨false, (nx l i 4).1, (wrow s l i).set (nx l (wk s l i).2 s.cols.length).1.toNat ⟨1, 1, bs []⟩⟩, (nx l (wk s l i).2 s.cols.length).2)
 else if (wk s l i).1 = 8 then (⟨false, -1, wrow s l i⟩, (wk s l i).2)
 else (⟨false, (nx l i 4).1, wrow s l i⟩, (wk s l i).2)
def wf (s : Src) (l : List Int) : Nat → Nat → List Rec → List Rec × Nat
 | 0, i, L => (L, i)
 | k + 1, i, L => wf s l k (wrec s l i).2 (L ++ [(wrec s l i).1])
def tO (x y z : List Int) : AObj := .arr 1 [[.list false 1 (bC x)], [.list false 1 (bC y)], [.list false 1 (bC z)]]
def posE (e : Ent) : Bool := decide (0 < e.cnt)
theorem bagB_le {b : List Ent} (h : bagB b = 0) : b.length ≤ 1000000 := by
 unfold bagB at h
 split at h
 ·cases h
 ·omega
def srtM : Nat → List Ent → List Ent
 | 0, l => l
 | n + 1, l => if l.length < 2 then l else mrg (srtM n (l.take (l.length / 2))) (srtM n (l.drop (l.length / 2)))
theorem cntL_srtM : ∀ (n : Nat) (l : List Ent) (r : List V), cntL (srtM n l) r = cntL l r
 | 0, _, _ => rfl
 | n + 1, l, r => by
  rw [srtM]
  split
  ·rfl
  ·rw [cntL_mrg, cntL_srtM n, cntL_srtM n, ← cntL_append, List.take_append_drop]
theorem srt_short {l : List Ent} (h : l.length < 2) : Srt l := by
 match l, h with
 | [], _ => exact List.Pairwise.nil
 | [x], _ => exact List.pairwise_singleton _ _
theorem srt_srtM : ∀ (n : Nat) (l : List Ent), l.length ≤ n + 1 → Srt (srtM n l)
 | 0, l, h => by rw [srtM]; exact srt_short (by omega)
 | n + 1, l, h => by
  rw [srtM]
  split
  ·exact srt_short (by assumption)
  ·exact srt_mrg _ _ (srt_srtM n _ (by rw [List.length_take]; omega)) (srt_srtM n _ (by rw [List.length_drop]; omega))
def frmE : List Ent → Int
 | [] => 0
 | e :: l => if fitB e ≠ 0 then fitB e else frmE l
theorem frmE_ok : ∀ (l : List Ent), frmE l = 0 → ∀ e ∈ l, fitB e = 0
 | [], _, e, he => by cases he
 | x :: l, h, e, he => by
  rw [frmE] at h
  by_cases hx : fitB x = 0
  ·rw [if_neg (by simp [hx])] at h
   rcases List.mem_cons.1 he with rfl | he
   ·exact hx
   ·exact frmE_ok l h e he
  ·rw [if_pos hx] at h; exact absurd h hx
def tabB (b : List Ent) : Bool := (bagB b == 0) && b.all posE
def negE (e : Ent) : Bool := decide (e.cnt < 0)
theorem bag_IsTable_1_spec (e : Ent) (H : List AObj) :
  ACalls pr 203 [.agg (entC e)] H (fun r H' => r = .bool (negE e) ∧ H' = H) := by
 refine ACalls.pure (by simp [AVal.closed, entC, AVal.isPure]) (acalls_of_body k203.has ?_)
 conv => whnf
 exact .closed _ rfl
theorem ContainsE_spec (g : FuncId) (p : Ent → Bool) (hg : ∀ c H, ACalls pr g [.agg (entC c)] H (fun r H' => r = .bool (p c) ∧ H' = H)) (ex : Bool) (l : List Ent) (hl : l.length ≤ 1000000) (H : List AObj) :
  ACalls pr 202 [.list ex 2 (eC l), .fn g []] H (fun r H' => r = .bool (l.any p) ∧ H' = H) := by
 refine ACalls.pure (by simp [AVal.closed, AVal.isPure]) (acalls_of_body k202.has ?_)
 (conv => whnf); refine ACalls.use (IndexFuncE_spec g [] p _ l (fun c _ => hg c _) ex hl) ?_
 conv => whnf
 refine pubB ?_
 have h := idxOf_any p l 0 (by omega)
 rw [Bool.eq_iff_iff, ← h]; simp
theorem neg_any {b : List Ent} (h : bagB b = 0) : (!(b.any negE)) = b.all posE := by
 have hn := fun e he => (((bagB_iff b).1 h).2.1 e he).2
 rw [Bool.eq_iff_iff]
 simp only [Bool.not_eq_true', List.any_eq_false, List.all_eq_true, negE, posE, decide_eq_true_eq]
 constructor
 ·intro h1 e he
  have := h1 e he
  have := hn e he
  omega
 ·intro h1 e he
  have := h1 e he
  omega
set_option maxRecDepth 20000 in
theorem bag_IsTable_spec (ex : Bool) (b : List Ent) (H : List AObj) :
  ACalls pr 142 [.list ex 2 (eC b)] H (fun r H' => r = .bool (tabB b) ∧ H' = H) := by
 refine ACalls.pure (by simp [AVal.closed, AVal.isPure]) (acalls_of_body k142.has ?_)
 (conv => whnf); refine ACalls.use (bag_Validate_spec ex b _) ?_
 (conv => whnf); refine recA (fun h => ?_) (fun h => ?_)
 ·replace h : (bagB b == 0) = true := h
  have h1 : bagB b = 0 := by simpa using h
  (conv => whnf); refine ACalls.use (ContainsE_spec 203 negE (fun c H => bag_IsTable_1_spec c H) ex b (bagB_le h1) _) ?_
  conv => whnf
  exact pubB (by rw [neg_any h1, tabB, h, Bool.true_and])
 ·replace h : (bagB b == 0) = false := h
  conv => whnf
  exact pubB (by rw [tabB, h, Bool.false_and])
def rowOk (e : Ent) : Prop := e.row.length ≤ 12 ∧ e.row.all validB = true
def resP (l : List Ent) : List Ent × Int := if (l.all fun e => smallB e.cnt) = true ∧ (l.filter nzB).length ≤ 4096 then (l.filter nzB, 0) else ([], 2)
def Good (p : List Ent × Int) : Prop := bagB p.1 = 0 ∧ (p.2 ≠ 0 → p.1 = [])
theorem good_err (n : Int) : Good ([], n) := ⟨rfl, fun _ => rfl⟩
theorem resP_good {l : List Ent} (hs : Srt l) (hf : ∀ e ∈ l, rowOk e) : Good (resP l) := by
 unfold resP
 split
 ·rename_i h
  refine ⟨(bagB_iff _).2 ⟨h.2, fun e he => ?_, srt_filter _ hs⟩, fun h => absurd rfl h⟩
  obtain ⟨h1, h2⟩ := List.mem_filter.1 he
  exact ⟨(fitB_iff e).2 ⟨(hf e h1).1, List.all_eq_true.1 h.1 e h1, (hf e h1).2⟩, by simpa [nzB] using h2⟩
 ·exact good_err 2
theorem resP_cnt {l : List Ent} (h0 : (resP l).2 = 0) (r : List V) : cntL (resP l).1 r = cntL l r := by
 unfold resP at h0 ⊢
 split at h0
 ·rename_i h
  rw [if_pos h]
  exact cntL_nz l r
 ·cases h0
theorem mem_srtM : ∀ (n : Nat) (l : List Ent) (e : Ent), e ∈ srtM n l → ∃ x ∈ l, x.row = e.row
 | 0, l, e, h => ⟨e, h, rfl⟩
 | n + 1, l, e, h => by
  rw [srtM] at h
  split at h
  ·exact ⟨e, h, rfl⟩
  ·rcases mem_mrg _ _ e h with ⟨x, hx, hr⟩ | ⟨x, hx, hr⟩
   ·obtain ⟨y, hy, hyr⟩ := mem_srtM n _ x hx
    exact ⟨y, List.mem_of_mem_take hy, hyr.trans hr⟩
   ·obtain ⟨y, hy, hyr⟩ := mem_srtM n _ x hx
    exact ⟨y, List.mem_of_mem_drop hy, hyr.trans hr⟩
theorem rowOk_of {x e : Ent} (h : rowOk x) (hr : x.row = e.row) : rowOk e := by rw [rowOk, ← hr]; exact h
def sumP (l : List Ent) : List Ent × Int := resP (srtM l.length l)
theorem sumP_good {l : List Ent} (hf : ∀ e ∈ l, rowOk e) : Good (sumP l) :=
 resP_good (srt_srtM _ _ (by omega)) fun e he => by
  obtain ⟨x, hx, hr⟩ := mem_srtM _ _ e he
  exact rowOk_of (hf x hx) hr
theorem sumP_cnt {l : List Ent} (h0 : (sumP l).2 = 0) (r : List V) : cntL (sumP l).1 r = cntL l r := by
 rw [sumP, resP_cnt h0, cntL_srtM]
def norP (l : List Ent) : List Ent × Int := if frmE l ≠ 0 then ([], frmE l) else sumP l
theorem fit_rowOk {e : Ent} (h : fitB e = 0) : rowOk e := by
 have := (fitB_iff e).1 h
 exact ⟨this.1, this.2.2⟩
theorem norP_good (l : List Ent) : Good (norP l) := by
 unfold norP
 split
 ·exact good_err _
 ·rename_i h
  exact sumP_good fun e he => fit_rowOk (frmE_ok l (Classical.byContradiction fun hn => h hn) e he)
theorem bag_srt {l : List Ent} (h : bagB l = 0) : Srt l := ((bagB_iff l).1 h).2.2
theorem bag_len {l : List Ent} (h : bagB l = 0) : l.length ≤ 4096 := ((bagB_iff l).1 h).1
def rwA (R : List (List V)) : List AVal := R.map fun r => .list false 3 (vC r)
def rwC (R : List (List V)) : List (List AVal) := (rwA R).map fun x => [x]
def tW (p : List (List V) × Int) : AVal := if p.2 ≠ 0 then .tuple [.nil, .int .i64 p.2] else .tuple [.list false 1 (rwC p.1), .int .i64 0]
def vldGo (full : List Col) : List Col → Int → Int
 | [], _ => 0
 | c :: cs, i => if nameB c.name = false then 4 else if c.kind < 1 ∨ 4 < c.kind then 7 else if colIdx full c.name < i then 6 else vldGo full cs (i + 1)
def vldC (cs : List Col) : Int := if cs.length < 1 ∨ 12 < cs.length then 2 else vldGo cs cs 0
theorem idxOf_le {α : Type} (p : α → Bool) : ∀ (l : List α) (i : Int) (k : Nat) (x : α), l[k]? = some x → p x = true → idxOf p l i ≤ i + k
 | [], _, _, _, h, _ => by simp at h
 | c :: cs, i, 0, x, h, hp => by
  simp at h; subst h
  rw [idxOf, if_pos hp]; simp
 | c :: cs, i, k + 1, x, h, hp => by
  rw [idxOf]
  split
  ·omega
  ·have := idxOf_le p cs (i + 1) k x (by simpa using h) hp
   omega
theorem colIdx_le (cs : List Col) (k : Nat) (c : Col) (h : cs[k]? = some c) : colIdx cs c.name ≤ k := by
 have := idxOf_le (named c.name) cs 0 k c h (by simp [named])
 rw [colIdx]; omega
set_option maxRecDepth 20000 in
theorem schema_Validate_spec (e1 : Bool) (cs : List Col) (hl : cs.length ≤ 1000000) (H : List AObj) :
  ACalls pr 93 [.list e1 3 (cC cs)] H (fun r H' => r = .int .i64 (vldC cs) ∧ H' = H) := by
 refine ACalls.pure (by simp [AVal.closed, AVal.isPure]) (acalls_of_body k93.has ?_)
 (conv => whnf); refine recA (fun h0 => ?_) (fun h0 => ?_)
 ·simp [cC_length] at h0
  conv => whnf
  exact pubI (by rw [vldC, if_pos (by omega)])
 simp [cC_length] at h0
 (conv => whnf); refine recA (fun h1 => ?_) (fun h1 => ?_)
 ·simp [cC_length] at h1
  conv => whnf
  exact pubI (by rw [vldC, if_pos (by omega)])
 simp [cC_length] at h1
 have h2 : 0 < cs.length := by omega
 have hR : vldC cs = vldGo cs cs 0 := by rw [vldC, if_neg (by omega)]
 conv => whnf
 refine ⟨fun m ρ H1 => ∃ k : Nat, k + m = cs.length ∧ vldGo cs (cs.drop k) k = vldC cs ∧ H1 = [] ∧
  Sv 42 [(0, .list e1 3 (cC cs)), (13, .list e1 3 (cC cs)), (14, .int .i64 cs.length), (15, .int .i64 k)] ρ, cs.length, [], ?_, ?_⟩
 ·exact ⟨0, by omega, hR.symm, rfl, Sv.intro rfl ⟨rfl, rfl, intEq (by rw [cC_length]), rfl, trivial⟩⟩
 rintro m ρ H1 ⟨k, hk, hr, rfl, d, rfl⟩
 (conv => whnf); refine recA (fun hlt => ?_) (fun hlt => ?_)
 ·simp at hlt
  obtain ⟨c, hc, hdc, _⟩ := get_drop (show k < cs.length by omega)
  rw [hdc, vldGo] at hr
  repeat' ((conv => whnf); first | refine And.intro (by omega) ?_ | refine recO (cC_at hc) ?_ | refine ACalls.use (schema_IsName_spec c.name _) ?_ | refine ACalls.use (schema_Index_spec e1 cs hl c.name _) ?_ | refine recA (fun h => ?_) (fun h => ?_))
  all_goals (conv => whnf)
  all_goals first
   | refine ⟨m - 1, by omega, Gp.none rfl ?_ fun ρ1 h => ⟨k + 1, by omega, ?_, rfl, h⟩⟩
   | refine pubI ?_
  all_goals first
   | exact ⟨.closed _ rfl, .closed _ rfl, .closed _ rfl, pub_int (wrapI ((k : Int) + 1) (by omega) (by omega)), trivial⟩
   | skip
  all_goals first
   | (rw [← hr]; simp_all; done)
   | (rw [← hr, if_neg (by simp_all), if_neg (by simp_all <;> omega), if_neg (by simp_all <;> omega)]; rfl)
 ·simp at hlt
  conv => whnf
  rw [List.drop_eq_nil_of_le (show cs.length ≤ k by omega)] at hr
  exact pubI hr
set_option maxRecDepth 20000 in
theorem ref5_Validate_spec (e1 : Bool) (cs : List Col) (hl : cs.length ≤ 1000000) (H : List AObj) :
  ACalls pr 32 [.list e1 3 (cC cs)] H (fun r H' => r = .int .i64 (vldC cs) ∧ H' = H) := by
 refine ACalls.pure (by simp [AVal.closed, AVal.isPure]) (acalls_of_body k32.has ?_)
 (conv => whnf); refine recA (fun h0 => ?_) (fun h0 => ?_)
 ·simp [cC_length] at h0
  conv => whnf
  exact pubI (by rw [vldC, if_pos (by omega)])
 simp [cC_length] at h0
 (conv => whnf); refine recA (fun h1 => ?_) (fun h1 => ?_)
 ·simp [cC_length] at h1
  conv => whnf
  exact pubI (by rw [vldC, if_pos (by omega)])
 simp [cC_length] at h1
 have h2 : 0 < cs.length := by omega
 have hR : vldC cs = vldGo cs cs 0 := by rw [vldC, if_neg (by omega)]
 conv => whnf
 refine ⟨fun m ρ H1 => ∃ k : Nat, k + m = cs.length ∧ vldGo cs (cs.drop k) k = vldC cs ∧ H1 = [] ∧
  Sv 48 [(0, .list e1 3 (cC cs)), (3, .int .i64 k)] ρ, cs.length, [], ?_, ?_⟩
 ·exact ⟨0, by omega, hR.symm, rfl, Sv.intro rfl ⟨rfl, rfl, trivial⟩⟩
 rintro m ρ H1 ⟨k, hk, hr, rfl, d, rfl⟩
 (conv => whnf); refine recA (fun hlt => ?_) (fun hlt => ?_)
 ·simp [cC_length] at hlt
  obtain ⟨c, hc, hdc, _⟩ := get_drop (show k < cs.length by omega)
  have hle := colIdx_le cs k c hc
  have hiff : colIdx cs c.name < k ↔ ¬ colIdx cs c.name = k := by omega
  rw [hdc, vldGo] at hr
  repeat' ((conv => whnf); first | refine And.intro (by omega) ?_ | refine recO (cC_at hc) ?_ | refine ACalls.use (ref5_IsName_spec c.name _) ?_ | refine ACalls.use (ref5_Index_spec e1 cs hl c.name _) ?_ | refine recA (fun h => ?_) (fun h => ?_))
  all_goals (conv => whnf)
  all_goals first
   | refine ⟨m - 1, by omega, Gp.none rfl ?_ fun ρ1 h => ⟨k + 1, by omega, ?_, rfl, h⟩⟩
   | refine pubI ?_
  all_goals first
   | exact ⟨.closed _ rfl, pub_int (wrapI ((k : Int) + 1) (by omega) (by omega)), trivial⟩
   | skip
  all_goals first
   | (rw [← hr]; simp_all; done)
   | (rw [← hr, if_neg (by simp_all), if_neg (by simp_all <;> omega), if_neg (by simp_all <;> omega)]; rfl)
 ·simp [cC_length] at hlt
  conv => whnf
  rw [List.drop_eq_nil_of_le (show cs.length ≤ k by omega)] at hr
  exact pubI hr
def kyC (l : List (Bool × List ByteArray)) : List (List AVal) := l.map fun k => [.list k.1 1 (sC k.2)]
theorem kyC_length (l : List (Bool × List ByteArray)) : (kyC l).length = l.length := by simp [kyC]
end Go.AW
