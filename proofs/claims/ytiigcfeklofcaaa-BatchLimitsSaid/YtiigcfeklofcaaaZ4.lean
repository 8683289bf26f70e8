/-
  An abstract machine over the model, the code of functions on it, and their contracts: what the claim needs.
  No condition: definitions, plain laws, contracts over any program that has this code.
-/
import Derived.Test.YtiigcfeklofcaaaZ3
set_option linter.all false
namespace Go.AW
section
variable {P : Program} {C C' : Nat → Nat} {τ τ' : Nat → Option Loc} {H H' : List AObj} {w w' : World}
theorem ACalls.gp {f : FuncId} {args : List AVal} {Q0 Q : AVal → List AObj → Prop} (h : ACalls P f args H Q0)
    (hq : ∀ r H', Q0 r H' → Gp (H.map AObj.olen) [r] H' (fun ρ1 H1 => ∃ r', ρ1 = [r'] ∧ Q r' H1)) : ACalls P f args H Q := by
  intro C τ w vs hw hl hr
  have hc := h C τ w vs hw hl hr
  have fin : ∀ (e : Ending) (w' : World), (∃ v r C' τ' H', e = .returned v ∧ Q0 r H' ∧ Rel C' w' τ' H' r v ∧ St w (PrCall τ H w) C' τ' H' w' ∧ Step C τ H w C' τ' H' w') →
      ∃ v r C' τ' H', e = .returned v ∧ Q r H' ∧ Rel C' w' τ' H' r v ∧ St w (PrCall τ H w) C' τ' H' w' ∧ Step C τ H w C' τ' H' w' := by
    rintro e w' ⟨v, r, C1, τ1, H1, he, hq0, hrel, hst, hstep⟩
    let E : Env := ⟨w, PrCall τ H w, C, τ, H, fun b hb hn => Classical.byContradiction fun ho => hn ⟨hb, ho⟩⟩
    have hsa : SA E C1 τ1 [r] H1 { tmps := #[v], defers := [] } w' := by
      refine ⟨hst, hstep, fun t => ?_, rfl, rfl⟩
      cases t with
      | zero => exact hrel
      | succ t => exact .undef _
    obtain ⟨ρ2, H2, C2, τ2, ⟨r', rfl, hQ⟩, hs2⟩ := hsa.regroup (hq r H1 hq0)
    exact ⟨v, r', C2, τ2, H2, he, hQ, hs2.tmps 0, hs2.st, hs2.step⟩
  unfold CallsX at hc ⊢
  split at hc
  · exact Calls.mono hc fun e w' hh => fin e w' hh
  · exact fin _ _ hc
  · exact hc

def AObj.clean : AObj → Bool
  | .arr _ es => pureEs es
  | .iter _ _ => true

inductive Ren (σ : Nat → Nat) : AVal → AVal → Prop where
  | closed (v : AVal) (h : v.closed = true) : Ren σ v v
  | sl (id ep off len : Nat) : Ren σ (.sl id ep off len) (.sl (σ id) ep off len)
  | ptr (id ep idx fld : Nat) : Ren σ (.ptr id ep idx fld) (.ptr (σ id) ep idx fld)
  | agg (vs rs : List AVal) (hl : vs.length = rs.length) (h : ∀ (i : Nat) (v r : AVal), vs[i]? = some v → rs[i]? = some r → Ren σ v r) : Ren σ (.agg vs) (.agg rs)
  | tuple (vs rs : List AVal) (hl : vs.length = rs.length) (h : ∀ (i : Nat) (v r : AVal), vs[i]? = some v → rs[i]? = some r → Ren σ v r) : Ren σ (.tuple vs) (.tuple rs)

inductive RenO (σ : Nat → Nat) : AObj → AObj → Prop where
  | same (o : AObj) (h : o.clean = true) : RenO σ o o
  | arr (esz : Nat) (es es1 : List (List AVal)) (hl : es1.length = es.length) (hl2 : ∀ (i : Nat) (e e1 : List AVal), es[i]? = some e → es1[i]? = some e1 → e1.length = e.length)
      (h : ∀ (i j : Nat) (e e1 : List AVal) (d d1 : AVal), es[i]? = some e → es1[i]? = some e1 → e[j]? = some d → e1[j]? = some d1 → Ren σ d d1 ∧ d1.isCell = true) :
      RenO σ (.arr esz es) (.arr esz es1)

theorem RenO.after {σ : Nat → Nat} {o o0 o1 : AObj} {t t' : Option Loc} (h : RenO σ o0 o1) (ha : o.after o0 t t') : o.after o1 t t' := by
  cases h with
  | same => exact ha
  | arr esz es es1 hl _ _ =>
    cases o with
    | iter _ _ => exact ha
    | arr z es0 => exact ⟨ha.1, by rw [hl]; exact ha.2.1, by rw [hl]; exact ha.2.2⟩

theorem RenO.ok {σ : Nat → Nat} {o0 o1 : AObj} (h : RenO σ o0 o1) (ho : o0.ok) : o1.ok := by
  cases h with
  | same => exact ho
  | arr esz es es1 hl hl2 hp =>
    intro e1 he1
    obtain ⟨n, hn⟩ := List.getElem?_of_mem he1
    have hnl := (List.getElem?_eq_some_iff.1 hn).1
    have he : es[n]? = some es[n] := List.getElem?_eq_getElem (by omega)
    obtain ⟨g1, g2⟩ := ho _ (List.mem_of_getElem? he)
    refine ⟨(hl2 n _ _ he hn).trans g1, fun d1 hd1 => ?_⟩
    obtain ⟨j, hj⟩ := List.getElem?_of_mem hd1
    have hjl := (List.getElem?_eq_some_iff.1 hj).1
    have := hl2 n _ _ he hn
    exact (hp n j _ _ _ d1 he hn (List.getElem?_eq_getElem (by omega)) hj).2

def frN (id n : Nat) (k : Nat) : Nat := match k with
  | 0 => id
  | k + 1 => n + k

theorem ACalls.frame1 {f : FuncId} {args0 args : List AVal} {Q0 Q : AVal → List AObj → Prop} {id : Nat} {o : AObj} (ho : H[id]? = some o)
    (hp : o.clean = true)
    (hal : args0.length = args.length) (ha : ∀ (i : Nat) (a b : AVal), args0[i]? = some a → args[i]? = some b → (a = b ∧ a.closed = true) ∨ ∃ ep idx fld, a = .ptr 0 ep idx fld ∧ b = .ptr id ep idx fld)
    (h : ACalls P f args0 [o] Q0)
    (hq : ∀ r H1, Q0 r H1 → ∃ r' o1 o1' G G', H1 = o1 :: G ∧ Ren (frN id H.length) r r' ∧ RenO (frN id H.length) o1 o1' ∧ G.length = G'.length ∧
      (∀ (k : Nat) (x y : AObj), G[k]? = some x → G'[k]? = some y → RenO (frN id H.length) x y) ∧ Q r' (H.set id o1' ++ G')) : ACalls P f args H Q := by
  intro C τ w vs hw hl hr
  have hid := (List.getElem?_eq_some_iff.1 ho).1
  let τ0 : Nat → Option Loc := fun k => if k = 0 then τ id else none
  have one : ∀ {k : Nat} {x : AObj}, [o][k]? = some x → k = 0 ∧ x = o := fun {k x} h => by
    cases k with
    | zero => simp at h; exact ⟨rfl, h.symm⟩
    | succ k => simp at h
  have hw0 : WF C τ0 [o] w := by
    refine ⟨fun k x h => ?_, fun k x h ht => ?_, fun k x l h ht => ?_, fun k l hk ht => ?_, fun i j li lj hi hj _ _ _ => ?_, hw.lt⟩
    · obtain ⟨rfl, rfl⟩ := one h; exact hw.ok id _ ho
    · obtain ⟨rfl, rfl⟩ := one h; exact hw.virt id _ ho ht
    · obtain ⟨rfl, rfl⟩ := one h
      have hob := hw.objs id _ l ho ht
      cases x with
      | iter s p => exact hob
      | arr esz es =>
        obtain ⟨a1, cells, elem, fz, a2, a3, a4, a5⟩ := hob
        refine ⟨a1, cells, elem, fz, a2, a3, a4, fun i j e d hi hd => ?_⟩
        obtain ⟨x, hx1, hx2⟩ := a5 i j e d hi hd
        exact ⟨x, hx1, .rd (hx2.pure (pureEs_get hp hi hd))⟩
    · have hk0 : k = 0 := by simp at hk; omega
      subst hk0; exact hw.comm id l hid ht
    · simp at hi hj; omega
  have hr0 : ∀ (i : Nat) (a : AVal) (v : Value), args0[i]? = some a → vs[i]? = some v → Rel C w τ0 [o] a v := fun i a v h1 h2 => by
    have hi := (List.getElem?_eq_some_iff.1 h1).1
    have hb : args[i]? = some args[i] := List.getElem?_eq_getElem (by omega)
    have hrel := hr i _ v hb h2
    rcases ha i a _ h1 hb with ⟨e, hc⟩ | ⟨ep, idx, fld, rfl, e⟩
    · rw [← e] at hrel
      exact hrel.closed hc (fun _ => Nat.le_refl _) (fun _ _ _ => rfl)
    · rw [e] at hrel
      cases hrel with
      | rd h => cases h
      | ptr _ _ _ _ a esz es ho2 hep h3 =>
        rw [ho] at ho2; cases ho2
        exact .ptr 0 ep idx fld a esz es rfl hep h3
  have hc := h C τ0 w vs hw0 (by omega) hr0
  have fin : ∀ (e : Ending) (w' : World), (∃ v r C' τ' H', e = .returned v ∧ Q0 r H' ∧ Rel C' w' τ' H' r v ∧ St w (PrCall τ0 [o] w) C' τ' H' w' ∧ Step C τ0 [o] w C' τ' H' w') →
      ∃ v r C' τ' H', e = .returned v ∧ Q r H' ∧ Rel C' w' τ' H' r v ∧ St w (PrCall τ H w) C' τ' H' w' ∧ Step C τ H w C' τ' H' w' := by
    rintro e w' ⟨v, r, C1, τ1, H1, he, hq0, hrel, hst, hstep⟩
    obtain ⟨r', o1, o1', G, G', rfl, hrr, hro, hgl, hG, hQ⟩ := hq r H1 hq0
    
    have hoth : ∀ j l, j < H.length → j ≠ id → τ j = some l → PrCall τ0 [o] w l.b := fun j l hj hne ht =>
      ⟨hw.locLt hj ht, by
        rintro ⟨k, l', hk, ht', hb⟩
        have hk0 : k = 0 := by simp at hk; omega
        subst hk0
        exact hne (hw.inj j id l l' hj hid ht ht' hb.symm)⟩
    have hheap : ∀ j l, j < H.length → j ≠ id → τ j = some l → w'.heap[l.b]? = w.heap[l.b]? := fun j l hj hne ht => hst.fr.prot _ (hoth j l hj hne ht)
    let τ2 : Nat → Option Loc := fun i => if i = id then τ1 0 else if i < H.length then τ i else τ1 (i - H.length + 1)
    have t0 : τ2 id = τ1 0 := by simp only [τ2, if_true]
    have tO : ∀ j, j < H.length → j ≠ id → τ2 j = τ j := fun j hj hne => by simp only [τ2, if_neg hne, if_pos hj]
    have tN : ∀ k, τ2 (H.length + k) = τ1 (k + 1) := fun k => by
      simp only [τ2, if_neg (by omega : ¬ H.length + k = id), if_neg (by omega : ¬ H.length + k < H.length), Nat.add_sub_cancel_left]
    have tF : ∀ k, τ2 (frN id H.length k) = τ1 k := fun k => by
      cases k with
      | zero => exact t0
      | succ k => exact tN k
    have gid : (H.set id o1' ++ G')[id]? = some o1' := by rw [List.getElem?_append_left (by rw [List.length_set]; exact hid), List.getElem?_set_self hid]
    have gO : ∀ j, j < H.length → j ≠ id → (H.set id o1' ++ G')[j]? = H[j]? := fun j hj hne => by
      rw [List.getElem?_append_left (by rw [List.length_set]; exact hj), List.getElem?_set_ne (Ne.symm hne)]
    have gN : ∀ k, (H.set id o1' ++ G')[H.length + k]? = G'[k]? := fun k => by
      rw [List.getElem?_append_right (by rw [List.length_set]; omega), List.length_set, Nat.add_sub_cancel_left]
    
    have gF : ∀ k x, (o1 :: G)[k]? = some x → ∃ y, (H.set id o1' ++ G')[frN id H.length k]? = some y ∧ RenO (frN id H.length) x y := fun k x hx => by
      cases k with
      | zero => simp at hx; subst hx; exact ⟨o1', gid, hro⟩
      | succ k =>
        have hk : k < G.length := (List.getElem?_eq_some_iff.1 (by simpa using hx : G[k]? = some x)).1
        have hy : G'[k]? = some G'[k] := List.getElem?_eq_getElem (by omega)
        exact ⟨G'[k], (gN k).trans hy, hG k x _ (by simpa using hx) hy⟩
    have split : ∀ i, i < (H.set id o1' ++ G').length → (i < H.length ∧ i ≠ id) ∨ ∃ k, i = frN id H.length k ∧ k < (o1 :: G).length := fun i hi => by
      rw [List.length_append, List.length_set] at hi
      by_cases h1 : i = id
      · exact .inr ⟨0, h1, by simp⟩
      · by_cases h2 : i < H.length
        · exact .inl ⟨h2, h1⟩
        · exact .inr ⟨i - H.length + 1, by simp only [frN]; omega, by simp; omega⟩
    have frInj : ∀ k k', frN id H.length k = frN id H.length k' → k = k' := fun k k' h => by
      cases k <;> cases k' <;> simp only [frN] at h <;> omega
    have step : Step C τ H w C1 τ2 (H.set id o1' ++ G') w' := by
      refine ⟨hstep.le, hstep.cell, fun j x hx => ?_, hstep.grow, hstep.old⟩
      have hj := (List.getElem?_eq_some_iff.1 hx).1
      by_cases e1 : j = id
      · subst e1
        rw [ho] at hx; cases hx
        obtain ⟨o', h1, h2⟩ := hstep.obj 0 o rfl
        simp at h1; subst h1
        refine ⟨o1', gid, ?_⟩
        rw [t0]
        have : τ0 0 = τ j := by simp only [τ0, if_true]
        rw [this] at h2
        exact hro.after h2
      · exact ⟨x, by rw [gO j hj e1]; exact hx, by rw [tO j hj e1]; exact x.after_refl _⟩
    have ren : ∀ {a b : AVal}, Ren (frN id H.length) a b → ∀ {u : Value}, Rel C1 w' τ1 (o1 :: G) a u → Rel C1 w' τ2 (H.set id o1' ++ G') b u := by
      intro a b hab
      induction hab with
      | closed v h => intro u hu; exact hu.closed h (fun _ => Nat.le_refl _) (fun _ _ _ => rfl)
      | sl k ep off len =>
        intro u hu
        cases hu with
        | rd h => cases h
        | sl _ _ _ _ a cap esz es ho2 hep h3 =>
          obtain ⟨y, hy, hry⟩ := gF k _ ho2
          cases hry with
          | same _ _ => exact .sl _ ep off len a cap esz es hy hep fun e => by rw [tF]; exact h3 e
          | arr _ _ es1 hl1 _ _ => exact .sl _ ep off len a cap esz es1 hy (by omega) fun e => by rw [tF, hl1]; exact h3 (by omega)
      | ptr k ep idx fld =>
        intro u hu
        cases hu with
        | rd h => cases h
        | ptr _ _ _ _ a esz es ho2 hep h3 =>
          obtain ⟨y, hy, hry⟩ := gF k _ ho2
          cases hry with
          | same _ _ => exact .ptr _ ep idx fld a esz es hy hep fun e => by rw [tF]; exact h3 e
          | arr _ _ es1 hl1 _ _ => exact .ptr _ ep idx fld a esz es1 hy (by omega) fun e => by rw [tF]; exact h3 (by omega)
      | agg vs rs hl h ih =>
        intro u hu
        obtain ⟨us, rfl, hl2, hr2⟩ := hu.agg_inv
        refine .agg _ _ (by omega) fun i c v hc hv => ?_
        have hi := (List.getElem?_eq_some_iff.1 hc).1
        have hvi : vs[i]? = some vs[i] := List.getElem?_eq_getElem (by omega)
        exact ih i _ c hvi hc (hr2 i _ v hvi hv)
      | tuple vs rs hl h ih =>
        intro u hu
        obtain ⟨us, rfl, hl2, hr2⟩ := hu.tuple_inv
        refine .tuple _ _ (by omega) fun i c v hc hv => ?_
        have hi := (List.getElem?_eq_some_iff.1 hc).1
        have hvi : vs[i]? = some vs[i] := List.getElem?_eq_getElem (by omega)
        exact ih i _ c hvi hc (hr2 i _ v hvi hv)
    have hgetF : ∀ k, k < (o1 :: G).length → ∃ x, (o1 :: G)[k]? = some x := fun k hk => ⟨_, List.getElem?_eq_getElem hk⟩
    refine ⟨v, r', C1, τ2, H.set id o1' ++ G', he, hQ, ren hrr hrel, ⟨⟨fun i x hx => ?_, fun i x hx ht => ?_, fun i x l hx ht => ?_, fun i l hi ht => ?_, fun i j li lj hi hj hti htj hb => ?_, hst.wf.lt⟩,
      ⟨hst.fr.os, hst.fr.tape, hst.fr.output, hst.fr.size, fun b hb => hst.fr.prot b ⟨hb.1, ?_⟩⟩, ?_, fun b hb => hb.1⟩, step⟩
    · rcases split i (List.getElem?_eq_some_iff.1 hx).1 with ⟨h1, h2⟩ | ⟨k, rfl, hk⟩
      · rw [gO i h1 h2] at hx; exact hw.ok i x hx
      · obtain ⟨z, hz⟩ := hgetF k hk
        obtain ⟨y, hy, hry⟩ := gF k z hz
        rw [hx] at hy; cases hy
        exact hry.ok (hst.wf.ok k z hz)
    · rcases split i (List.getElem?_eq_some_iff.1 hx).1 with ⟨h1, h2⟩ | ⟨k, rfl, hk⟩
      · rw [gO i h1 h2] at hx; rw [tO i h1 h2] at ht; exact hw.virt i x hx ht
      · obtain ⟨z, hz⟩ := hgetF k hk
        obtain ⟨y, hy, hry⟩ := gF k z hz
        rw [hx] at hy; cases hy
        rw [tF] at ht
        obtain ⟨esz, rfl⟩ := hst.wf.virt k z hz ht
        cases hry with
        | same _ _ => exact ⟨esz, rfl⟩
        | arr _ _ es1 hl1 _ _ =>
          have : es1 = [] := List.length_eq_zero_iff.1 hl1
          subst this; exact ⟨esz, rfl⟩
    · rcases split i (List.getElem?_eq_some_iff.1 hx).1 with ⟨h1, h2⟩ | ⟨k, rfl, hk⟩
      · rw [gO i h1 h2] at hx; rw [tO i h1 h2] at ht
        exact (hw.objs i x l hx ht).mono step (hheap i l h1 h2 ht)
      · obtain ⟨z, hz⟩ := hgetF k hk
        obtain ⟨y, hy, hry⟩ := gF k z hz
        rw [hx] at hy; cases hy
        rw [tF] at ht
        have hob := hst.wf.objs k z l hz ht
        cases hry with
        | same _ hpz =>
          cases x with
          | iter s p => exact hob
          | arr esz es =>
            obtain ⟨a1, cells, elem, fz, a2, a3, a4, a5⟩ := hob
            refine ⟨a1, cells, elem, fz, a2, a3, a4, fun i j e d hi hd => ?_⟩
            obtain ⟨x, hx1, hx2⟩ := a5 i j e d hi hd
            exact ⟨x, hx1, .rd (hx2.pure (pureEs_get hpz hi hd))⟩
        | arr esz es es1 hl1 hl2 hp2 =>
          obtain ⟨a1, cells, elem, fz, a2, a3, a4, a5⟩ := hob
          refine ⟨by omega, cells, elem, fz, a2, a3, a4, fun i j e1 d1 hi hd => ?_⟩
          have hil := (List.getElem?_eq_some_iff.1 hi).1
          have hjl := (List.getElem?_eq_some_iff.1 hd).1
          have he : es[i]? = some es[i] := List.getElem?_eq_getElem (by omega)
          have hl3 := hl2 i _ _ he hi
          have hd0 : es[i][j]? = some es[i][j] := List.getElem?_eq_getElem (by omega)
          obtain ⟨x, hx1, hx2⟩ := a5 i j _ _ he hd0
          exact ⟨x, hx1, ren (hp2 i j _ _ _ d1 he hi hd0 hd).1 hx2⟩
    · rcases split i hi with ⟨h1, h2⟩ | ⟨k, rfl, hk⟩
      · rw [tO i h1 h2] at ht
        rw [hstep.old _ (hw.locLt h1 ht)]; exact hw.comm i l h1 ht
      · rw [tF] at ht; exact hst.wf.comm k l hk ht
    · rcases split i hi with ⟨h1, h2⟩ | ⟨k, rfl, hk⟩ <;> rcases split j hj with ⟨h3, h4⟩ | ⟨k', rfl, hk'⟩
      · rw [tO i h1 h2] at hti; rw [tO j h3 h4] at htj; exact hw.inj i j li lj h1 h3 hti htj hb
      · rw [tO i h1 h2] at hti; rw [tF] at htj
        exact absurd (hb ▸ hoth i li h1 h2 hti) (hst.own _ ⟨k', lj, hk', htj, rfl⟩)
      · rw [tF] at hti; rw [tO j h3 h4] at htj
        exact absurd (hb ▸ hoth j lj h3 h4 htj) (hst.own _ ⟨k, li, hk, hti, rfl⟩)
      · rw [tF] at hti htj
        rw [hst.wf.inj k k' li lj hk hk' hti htj hb]
    · rintro ⟨k, l, hk, ht, hb2⟩
      have hk0 : k = 0 := by simp at hk; omega
      subst hk0
      exact hb.2 ⟨id, l, hid, ht, hb2⟩
    · rintro b ⟨i, l, hi, ht, rfl⟩ hp2
      rcases split i hi with ⟨h1, h2⟩ | ⟨k, rfl, hk⟩
      · rw [tO i h1 h2] at ht; exact hp2.2 ⟨i, l, h1, ht, rfl⟩
      · rw [tF] at ht
        refine hst.own _ ⟨k, l, hk, ht, rfl⟩ ⟨hp2.1, ?_⟩
        rintro ⟨k2, l2, hk2, ht2, hb2⟩
        have hk0 : k2 = 0 := by simp at hk2; omega
        subst hk0
        exact hp2.2 ⟨id, l2, hid, ht2, hb2⟩
  unfold CallsX at hc ⊢
  split at hc
  · exact Calls.mono hc fun e w' hh => fin e w' hh
  · exact fin _ _ hc
  · exact hc

def FrArgs (id : Nat) : List AVal → List AVal → Prop
  | [], [] => True
  | a :: as, b :: bs => ((a = b ∧ a.closed = true) ∨ ∃ ep idx fld, a = .ptr 0 ep idx fld ∧ b = .ptr id ep idx fld) ∧ FrArgs id as bs
  | _, _ => False

theorem FrArgs.get {id : Nat} : ∀ {as bs : List AVal}, FrArgs id as bs → as.length = bs.length ∧ ∀ (i : Nat) (a b : AVal), as[i]? = some a → bs[i]? = some b → (a = b ∧ a.closed = true) ∨ ∃ ep idx fld, a = .ptr 0 ep idx fld ∧ b = .ptr id ep idx fld
  | [], [], _ => ⟨rfl, fun i a b h => by simp at h⟩
  | a :: as, b :: bs, h => by
    obtain ⟨h1, h2⟩ := FrArgs.get h.2
    refine ⟨by simp [h1], fun i x y hx hy => ?_⟩
    cases i with
    | zero => simp at hx hy; subst hx hy; exact h.1
    | succ i => exact h2 i x y (by simpa using hx) (by simpa using hy)
  | [], _ :: _, h => h.elim
  | _ :: _, [], h => h.elim

theorem FrArgs.cl {id : Nat} {a : AVal} {as bs : List AVal} (h : a.closed = true) (hs : FrArgs id as bs) : FrArgs id (a :: as) (a :: bs) := ⟨.inl ⟨rfl, h⟩, hs⟩

theorem FrArgs.pt {id : Nat} {ep idx fld : Nat} {as bs : List AVal} (hs : FrArgs id as bs) : FrArgs id (.ptr 0 ep idx fld :: as) (.ptr id ep idx fld :: bs) := ⟨.inr ⟨_, _, _, rfl, rfl⟩, hs⟩

theorem ACalls.fr {f : FuncId} {args0 args : List AVal} {id : Nat} {o o1 : AObj} {R : AVal} (h : ACalls P f args0 [o] (fun r H' => r = R ∧ H' = [o1])) (ho : H[id]? = some o)
    (hp : o.clean = true) (hp1 : o1.clean = true) (ha : FrArgs id args0 args) (hR : Ren (frN id H.length) R R) : ACalls P f args H (fun r H' => r = R ∧ H' = H.set id o1) := by
  obtain ⟨hl, ha⟩ := ha.get
  refine ACalls.frame1 ho hp hl ha h ?_
  rintro r H1 ⟨rfl, rfl⟩
  exact ⟨_, o1, o1, [], [], rfl, hR, .same _ hp1, rfl, fun k x y h => by simp at h, rfl, by simp⟩

end
theorem keepB_one {a : Nat} {ids : List Nat} {H : List AObj} {o : AObj} (h1 : ids[0]? = some 0) (h2 : H[0]? = some o) (h3 : o.olen = a) : keepB [a] ids H := fun k n hk => by
  cases k with
  | zero => simp at hk; subst hk; exact ⟨h1, o, h2, h3⟩
  | succ k => simp at hk

theorem Gp.res {n0 : List Nat} {r r' : AVal} {H H1 : List AObj} {I : List AVal → List AObj → Prop} (ids : List Nat) (hnd : ids.Nodup) (hb : keepB n0 ids H) (ho : gpO H ids ids H1) (hp : Pub H 0 ids r r') (hI : I [r'] H1) : Gp n0 [r] H I :=
  .inr ⟨ids, [r'], H1, hnd, hb, ho, ⟨hp, trivial⟩, hI⟩

end Go.AW

namespace Go.AW
attribute [local irreducible] ACalls
structure RdS where
  rest : List Int
  bad : Bool

def rdO (s : RdS) : AObj := .arr 2 [[.list false 1 (bC s.rest), .bool s.bad]]

def tkB (n : Int) (s : RdS) : Bool := !s.bad && decide (n ≤ s.rest.length)

def tkL (n : Int) (s : RdS) : List Int := if tkB n s then s.rest.take n.toNat else []

def tkS (n : Int) (s : RdS) : RdS := if tkB n s then ⟨s.rest.drop n.toNat, false⟩ else ⟨s.rest, true⟩

theorem tkL_byt {n : Int} {s : RdS} (h : Byt s.rest) : Byt (tkL n s) := by
  intro x hx
  unfold tkL at hx
  split at hx
  · exact h x (List.mem_of_mem_take hx)
  · simp at hx

theorem tkS_byt {n : Int} {s : RdS} (h : Byt s.rest) : Byt (tkS n s).rest := by
  unfold tkS
  split
  · exact fun x hx => h x (List.mem_of_mem_drop hx)
  · exact h

theorem tkS_len (n : Int) (s : RdS) : (tkS n s).rest.length ≤ s.rest.length := by
  unfold tkS
  split
  · simp
  · exact Nat.le_refl _

theorem tkL_len {n : Int} {s : RdS} (hn : 0 ≤ n) : ((tkL n s).length : Int) ≤ n := by
  unfold tkL
  split
  · rw [List.length_take]; omega
  · simp; omega

theorem tkL_len2 (n : Int) (s : RdS) : (tkL n s).length ≤ s.rest.length := by
  unfold tkL
  split
  · rw [List.length_take]; omega
  · simp

set_option maxRecDepth 20000 in
theorem take_raw {P : Program} (F : F_batch_reader_take P) (n : Int) (hn : 0 ≤ n) (s : RdS) :
    ACalls P F.id [.ptr 0 1 0 0, .int .i64 n] [rdO s] (fun r H' => r = .list false 1 (bC (tkL n s)) ∧ H' = [rdO (tkS n s)]) := by
  refine ACalls.weakR (Q := fun r H' => (r = .nil ∧ tkB n s = false ∧ H' = [rdO (tkS n s)]) ∨ (r = .list false 1 (bC (tkL n s)) ∧ H' = [rdO (tkS n s)])) ?_ (by
    rintro r H' (⟨rfl, h, rfl⟩ | ⟨rfl, rfl⟩)
    · exact ⟨_, .nil false 1, by rw [tkL, h]; rfl, rfl⟩
    · exact ⟨_, .refl _, rfl, rfl⟩)
  refine acalls_of_body F.has ?_
  (conv => whnf); refine recA (fun hb => ?_) (fun hb => ?_)
  · replace hb : s.bad = true := hb
    have ht : tkB n s = false := by rw [tkB, hb]; rfl
    conv => whnf
    exact .inl ⟨rfl, ht, by rw [tkS, ht]; rfl⟩
  replace hb : s.bad = false := hb
  (conv => whnf); refine recA (fun hl => ?_) (fun hl => ?_)
  · simp [bC_length] at hl
    have ht : tkB n s = false := by rw [tkB, hb]; simp; omega
    conv => whnf
    exact .inl ⟨rfl, ht, by rw [tkS, ht]; rfl⟩
  simp [bC_length] at hl
  have ht : tkB n s = true := by rw [tkB, hb]; simp; omega
  (conv => whnf); refine And.intro (⟨by omega, by rw [bC_length]; omega⟩) ?_
  (conv => whnf); refine And.intro (⟨by omega, by rw [bC_length]; omega⟩) ?_
  conv => whnf
  refine .inr ⟨?_, ?_⟩
  · rw [tkL, ht, if_pos rfl, ← bC_take]; rfl
  · rw [tkS, ht, if_pos rfl, rdO]
    simp only [hb]
    rw [← bC_drop]
    show [AObj.arr 2 [[.list false 1 (((bC s.rest).take (bC s.rest).length).drop n.toNat), .bool false]]] = _
    rw [List.take_length]

theorem take_spec {P : Program} (F : F_batch_reader_take P) (n : Int) (hn : 0 ≤ n) (s : RdS) (H : List AObj) (id : Nat) (ho : H[id]? = some (rdO s)) :
    ACalls P F.id [.ptr id 1 0 0, .int .i64 n] H (fun r H' => r = .list false 1 (bC (tkL n s)) ∧ H' = H.set id (rdO (tkS n s))) :=
  (take_raw F n hn s).fr ho rfl rfl (.pt (.cl rfl trivial)) (.closed _ rfl)

def nbV (n : Int) (s : RdS) : Int := num (tkL n s)

theorem num_bnd (l : List Int) (h : Byt l) : 0 ≤ num l ∧ num l < 256 ^ l.length := by
  have key : ∀ (l : List Int), Byt l → ∀ (a : Int) (k : Nat), 0 ≤ a → a < 256 ^ k → 0 ≤ l.foldl (fun n x => n * 256 + x) a ∧ l.foldl (fun n x => n * 256 + x) a < 256 ^ (k + l.length) := by
    intro l
    induction l with
    | nil => intro _ a k h1 h2; exact ⟨h1, h2⟩
    | cons x l ih =>
      intro hb a k h1 h2
      have hx := hb x (List.mem_cons_self ..)
      have hp : (256 : Int) ^ (k + 1) = 256 ^ k * 256 := Int.pow_succ ..
      have := ih (fun y hy => hb y (List.mem_cons_of_mem _ hy)) (a * 256 + x) (k + 1) (by omega) (by omega)
      rw [List.length_cons, show k + (l.length + 1) = k + 1 + l.length by omega]
      exact this
  have := key l h 0 0 (by omega) (by decide)
  rwa [Nat.zero_add] at this

set_option maxRecDepth 20000 in
theorem nbV_bound {n : Int} {s : RdS} (hn : 0 ≤ n) (hn4 : n ≤ 4) (h : Byt s.rest) : 0 ≤ nbV n s ∧ nbV n s < 4294967296 := by
  have h1 := num_bnd _ (tkL_byt (n := n) h)
  have h2 := tkL_len (s := s) hn
  have h3 : (256 : Int) ^ (tkL n s).length ≤ 256 ^ 4 := by
    have : (256 : Nat) ^ (tkL n s).length ≤ 256 ^ 4 := Nat.pow_le_pow_right (by omega) (by omega)
    exact_mod_cast this
  rw [nbV]; omega

set_option maxRecDepth 20000 in
theorem rnumber_raw {P : Program} (F : F_batch_reader_number P) (n : Int) (hn : 0 ≤ n) (hn6 : n ≤ 4) (s : RdS) (hby : Byt s.rest) :
    ACalls P F.id [.ptr 0 1 0 0, .int .i64 n] [rdO s] (fun r H' => r = .int .i64 (nbV n s) ∧ H' = [rdO (tkS n s)]) := by
  have hl := tkL_len (s := s) hn
  have hb := tkL_byt (n := n) hby
  refine acalls_of_body F.has ?_
  (conv => whnf); refine ACalls.mono (take_raw F.batch_reader_take n hn s) ?_
  rintro r H' ⟨rfl, rfl⟩
  conv => whnf
  refine ⟨fun m ρ H => ∃ (k : Nat) (acc : Int), k + m = (tkL n s).length ∧ 0 ≤ acc ∧ acc < 256 ^ k ∧ ((tkL n s).drop k).foldl (fun n x => n * 256 + x) acc = num (tkL n s) ∧ H = [rdO (tkS n s)] ∧
    Sv 23 [(5, .int .i64 acc), (10, .list false 1 (bC (tkL n s))), (11, .int .i64 (tkL n s).length), (12, .int .i64 k)] ρ, (tkL n s).length, [], ?_, ?_⟩
  · exact ⟨0, 0, by omega, by omega, by omega, rfl, rfl, Sv.intro rfl ⟨rfl, rfl, intEq (by rw [bC_length]), rfl, trivial⟩⟩
  rintro m ρ H ⟨k, acc, hk, h0, h1, hr, rfl, d, rfl⟩
  (conv => whnf); refine recA (fun hlt => ?_) (fun hlt => ?_)
  · simp at hlt
    obtain ⟨x, hx, hd, hmem⟩ := get_drop hlt
    have hxb := hb x hmem
    (conv => whnf); refine And.intro (by omega) ?_
    (conv => whnf); refine recO (bC_at hx) ?_
    (conv => whnf); refine And.intro (by decide) ?_
    conv => whnf
    have hp : (256 : Int) ^ k ≤ 256 ^ 4 := by
      have : (256 : Nat) ^ k ≤ 256 ^ 4 := Nat.pow_le_pow_right (by omega) (by omega)
      exact_mod_cast this
    have hp2 : (256 : Int) ^ (k + 1) = 256 ^ k * 256 := Int.pow_succ ..
    refine ⟨m - 1, by omega, Gp.keep rfl ?_ fun ρ1 h => ⟨k + 1, acc * 256 + x, by omega, by omega, by omega, ?_, rfl, h⟩⟩
    · refine ⟨intEq ?_, rfl, rfl, intEq (wrapI ((k : Int) + 1) (by omega) (by omega)), trivial⟩
      show or64 (IntKind.i64.wrap (acc * 2 ^ 8)) (IntKind.i64.wrap x) = _
      rw [wrapI _ (by omega) (by omega), wrapI x (by omega) (by omega), or64_add acc x 8 h0 hxb.1 (by omega) (by omega)]
      omega
    · rw [← hr, hd]; rfl
  · simp at hlt
    conv => whnf
    rw [List.drop_eq_nil_of_le hlt] at hr
    exact ⟨intEq hr, rfl⟩

theorem rnumber_spec {P : Program} (F : F_batch_reader_number P) (n : Int) (hn : 0 ≤ n) (hn6 : n ≤ 4) (s : RdS) (hby : Byt s.rest) (H : List AObj) (id : Nat) (ho : H[id]? = some (rdO s)) :
    ACalls P F.id [.ptr id 1 0 0, .int .i64 n] H (fun r H' => r = .int .i64 (nbV n s) ∧ H' = H.set id (rdO (tkS n s))) :=
  (rnumber_raw F n hn hn6 s hby).fr ho rfl rfl (.pt (.cl rfl trivial)) (.closed _ rfl)

def txV (s : RdS) : ByteArray := strOf (tkL (nbV 1 s) (tkS 1 s))

def txS (s : RdS) : RdS := tkS (nbV 1 s) (tkS 1 s)

set_option maxRecDepth 20000 in
theorem rtext_raw {P : Program} (F : F_batch_reader_text P) (s : RdS) (hby : Byt s.rest) :
    ACalls P F.id [.ptr 0 1 0 0] [rdO s] (fun r H' => r = .str (txV s) ∧ H' = [rdO (txS s)]) := by
  refine acalls_of_body F.has ?_
  (conv => whnf); refine ACalls.mono (rnumber_raw F.batch_reader_number 1 (by omega) (by omega) s hby) ?_
  rintro r H' ⟨rfl, rfl⟩
  (conv => whnf); refine ACalls.mono (take_raw F.batch_reader_take _ (nbV_bound (by omega) (by omega) hby).1 (tkS 1 s)) ?_
  rintro r H' ⟨rfl, rfl⟩
  (conv => whnf); refine ⟨_, bytesOf_bC _, ?_⟩
  conv => whnf
  exact ⟨rfl, rfl⟩

theorem rtext_spec {P : Program} (F : F_batch_reader_text P) (s : RdS) (hby : Byt s.rest) (H : List AObj) (id : Nat) (ho : H[id]? = some (rdO s)) :
    ACalls P F.id [.ptr id 1 0 0] H (fun r H' => r = .str (txV s) ∧ H' = H.set id (rdO (txS s))) :=
  (rtext_raw F s hby).fr ho rfl rfl (.pt trivial) (.closed _ rfl)

end Go.AW

namespace Go.AW
attribute [local irreducible] ACalls
def dcV (l : List Int) : Option (List V) :=
  if l.length = 0 ∨ 12 < l.getD 0 0 then none else match decN (l.getD 0 0).toNat (l.drop 1) with
    | some (rs, []) => some rs
    | _ => none

theorem decR_eq (l : List Int) : decR l = match dcV l with | some rs => .tuple [.list false 3 (vC rs), .int .i64 0] | none => .tuple [.nil, .int .i64 11] := by
  unfold decR dcV decErr
  split
  · rfl
  · generalize decN (l.getD 0 0).toNat (List.drop 1 l) = o
    cases o with
    | none => rfl
    | some p =>
      obtain ⟨rs, r⟩ := p
      cases r <;> rfl

def rq3 (s : RdS) : RdS := tkS 2 (tkS 4 (tkS 1 s))

def rqL (s : RdS) : List Int := tkL (nbV 2 (tkS 4 (tkS 1 s))) (rq3 s)

def rq4 (s : RdS) : RdS := tkS (nbV 2 (tkS 4 (tkS 1 s))) (rq3 s)

def recV (s : RdS) : Rec := ⟨!(nbV 1 s == 0), nbV 4 (tkS 1 s), (dcV (rqL s)).getD []⟩

def recS (s : RdS) : RdS := match dcV (rqL s) with
  | some _ => rq4 s
  | none => ⟨(rq4 s).rest, true⟩

theorem recS_byt {s : RdS} (h : Byt s.rest) : Byt (recS s).rest := by
  have h4 : Byt (rq4 s).rest := tkS_byt (tkS_byt (tkS_byt (tkS_byt h)))
  unfold recS
  split
  · exact h4
  · exact h4

theorem recS_len (s : RdS) : (recS s).rest.length ≤ s.rest.length := by
  have h4 : (rq4 s).rest.length ≤ s.rest.length := Nat.le_trans (tkS_len _ _) (Nat.le_trans (tkS_len _ _) (Nat.le_trans (tkS_len _ _) (tkS_len _ _)))
  unfold recS
  split
  · exact h4
  · exact h4

set_option maxRecDepth 20000 in
theorem record_raw {P : Program} (F : F_batch_reader_record P) (s : RdS) (hby : Byt s.rest) (hl : s.rest.length ≤ 1000000) :
    ACalls P F.id [.ptr 0 1 0 0] [rdO s] (fun r H' => r = .agg (recC (recV s)) ∧ H' = [rdO (recS s)]) := by
  have b1 : Byt (tkS 1 s).rest := tkS_byt hby
  have b2 : Byt (tkS 4 (tkS 1 s)).rest := tkS_byt b1
  have b3 : Byt (rq3 s).rest := tkS_byt b2
  have hL : (rqL s).length ≤ 1000000 := Nat.le_trans (tkL_len2 _ _) (Nat.le_trans (Nat.le_trans (tkS_len _ _) (Nat.le_trans (tkS_len _ _) (tkS_len _ _))) hl)
  refine ACalls.weakR (Q := fun r H' => ∃ c0 : AVal, (c0 = .list false 3 (vC (recV s).row) ∨ (c0 = .nil ∧ (recV s).row = [])) ∧ r = .agg [.bool (recV s).del, .int .i64 (recV s).seq, c0] ∧ H' = [rdO (recS s)]) ?_ (by
    rintro r H' ⟨c0, hc, rfl, rfl⟩
    refine ⟨_, ?_, rfl, rfl⟩
    have : Wks [.bool (recV s).del, .int .i64 (recV s).seq, c0] (recC (recV s)) := .cons (.refl _) (.cons (.refl _) (.cons (by
      rcases hc with rfl | ⟨rfl, h⟩
      · exact .refl _
      · rw [h]; exact .nil false 3) .nil))
    exact .agg _ _ this.1 this.2)
  refine ACalls.gp (Q0 := fun r H' => ∃ c0 : AVal, (c0 = .list false 3 (vC (recV s).row) ∨ (c0 = .nil ∧ (recV s).row = [])) ∧ r = .agg [.bool (recV s).del, .int .i64 (recV s).seq, c0] ∧ ∃ x y, H' = [rdO (recS s), x, y]) ?_ (by
    rintro r H' ⟨c0, hc, rfl, x, y, rfl⟩
    refine Gp.res [0] (by simp) (keepB_one rfl rfl rfl) (H1 := [rdO (recS s)]) ⟨⟨_, rfl, .same _ _ rfl⟩, trivial⟩ (.closed (.agg [.bool (recV s).del, .int .i64 (recV s).seq, c0]) ?_) ⟨_, rfl, c0, hc, rfl, rfl⟩
    rcases hc with rfl | ⟨rfl, h⟩ <;> rfl)
  refine acalls_of_body F.has ?_
  (conv => whnf); refine ACalls.mono (rnumber_spec F.batch_reader_number 1 (by omega) (by omega) s hby _ 0 rfl) ?_
  rintro r H' ⟨rfl, rfl⟩
  (conv => whnf); refine ACalls.mono (rnumber_spec F.batch_reader_number 4 (by omega) (by omega) (tkS 1 s) b1 _ 0 rfl) ?_
  rintro r H' ⟨rfl, rfl⟩
  (conv => whnf); refine ACalls.mono (rnumber_spec F.batch_reader_number 2 (by omega) (by omega) (tkS 4 (tkS 1 s)) b2 _ 0 rfl) ?_
  rintro r H' ⟨rfl, rfl⟩
  (conv => whnf); refine ACalls.mono (take_spec F.batch_reader_take _ (nbV_bound (by omega) (by omega) b2).1 (rq3 s) _ 0 rfl) ?_
  rintro r H' ⟨rfl, rfl⟩
  have hd := fun H => value_Decode_spec F.value_Decode false (rqL s) (tkL_byt b3) hL H
  rw [decR_eq] at hd
  cases hc : dcV (rqL s) with
  | some rs =>
    rw [hc] at hd
    have e1 : (recV s).row = rs := by rw [recV, hc]; rfl
    have e2 : recS s = rq4 s := by rw [recS, hc]
    (conv => whnf); refine ACalls.use (hd _) ?_
    conv => whnf
    exact ⟨_, .inl (by rw [e1]), rfl, _, _, by rw [e2]; rfl⟩
  | none =>
    rw [hc] at hd
    have e1 : (recV s).row = [] := by rw [recV, hc]; rfl
    have e2 : recS s = ⟨(rq4 s).rest, true⟩ := by rw [recS, hc]
    (conv => whnf); refine ACalls.use (hd _) ?_
    conv => whnf
    exact ⟨_, .inr ⟨rfl, e1⟩, rfl, _, _, by rw [e2]; rfl⟩

theorem record_spec {P : Program} (F : F_batch_reader_record P) (s : RdS) (hby : Byt s.rest) (hl : s.rest.length ≤ 1000000) (H : List AObj) (id : Nat) (ho : H[id]? = some (rdO s)) :
    ACalls P F.id [.ptr id 1 0 0] H (fun r H' => r = .agg (recC (recV s)) ∧ H' = H.set id (rdO (recS s))) :=
  (record_raw F s hby hl).fr ho rfl rfl (.pt trivial) (.closed _ rfl)

def flP : Nat → RdS → List Rec → List Rec × RdS
  | 0, s, L => (L, s)
  | n + 1, s, L => if s.bad then (L, s) else flP n (recS s) (L ++ [recV s])

def magic (s : RdS) : Bool := (strOf (tkL 4 s)).data.toList == (bs [87, 72, 70, 49]).data.toList

def fl1 (s : RdS) : RdS := if magic s then tkS 4 s else ⟨(tkS 4 s).rest, true⟩

def fl2 (s : RdS) : RdS := txS (fl1 s)

def fl3 (s : RdS) : RdS := txS (fl2 s)

def flN (s : RdS) : Int := nbV 2 (fl3 s)

def fl4 (s : RdS) : RdS := tkS 2 (fl3 s)

def flV (s : RdS) : Fil := ⟨txV (fl1 s), txV (fl2 s), (flP (flN s).toNat (fl4 s) []).1⟩

def flS (s : RdS) : RdS := (flP (flN s).toNat (fl4 s) []).2

theorem txS_byt {s : RdS} (h : Byt s.rest) : Byt (txS s).rest := tkS_byt (tkS_byt h)

theorem txS_len (s : RdS) : (txS s).rest.length ≤ s.rest.length := Nat.le_trans (tkS_len _ _) (tkS_len _ _)

theorem fl1_byt {s : RdS} (h : Byt s.rest) : Byt (fl1 s).rest := by
  unfold fl1; split <;> exact tkS_byt (n := 4) h

theorem fl1_len (s : RdS) : (fl1 s).rest.length ≤ s.rest.length := by
  unfold fl1; split <;> exact tkS_len 4 s

def fobj (s : RdS) (c : AVal) : AObj := .arr 3 [[.str (txV (fl1 s)), .str (txV (fl2 s)), c]]

def recH (s0 s : RdS) (res : AObj) (L : List Rec) (c : AVal) (H : List AObj) : Prop :=
  (L = [] ∧ c = .nil ∧ H = [rdO s, res, fobj s0 .nil]) ∨ (c = .sl 3 L.length 0 L.length ∧ H = [rdO s, res, fobj s0 (.sl 3 L.length 0 L.length), .arr 3 (rC L)])

def resO : AObj := .arr 3 [[.str (bs []), .str (bs []), .nil]]

set_option maxRecDepth 20000 in
theorem file_raw {P : Program} (F : F_batch_reader_file P) (s : RdS) (hby : Byt s.rest) (hl : s.rest.length ≤ 1000000) :
    ACalls P F.id [.ptr 0 1 0 0] [rdO s] (fun r H' => ∃ c, r = .agg [.str (txV (fl1 s)), .str (txV (fl2 s)), c] ∧ ∃ res, recH s (flS s) res (flV s).recs c H') := by
  have b1 := fl1_byt hby
  have b2 : Byt (fl2 s).rest := txS_byt b1
  have b3 : Byt (fl3 s).rest := txS_byt b2
  have b4 : Byt (fl4 s).rest := tkS_byt b3
  have l4 : (fl4 s).rest.length ≤ s.rest.length := Nat.le_trans (tkS_len _ _) (Nat.le_trans (txS_len _) (Nat.le_trans (txS_len _) (fl1_len s)))
  have n0 := nbV_bound (n := 2) (by omega) (by omega) b3
  have nn : (flN s).toNat ≤ 65535 := by
    have h1 := num_bnd _ (tkL_byt (n := 2) b3)
    have h2 := tkL_len (n := 2) (s := fl3 s) (by omega)
    have h3 : (256 : Int) ^ (tkL 2 (fl3 s)).length ≤ 256 ^ 2 := by
      have : (256 : Nat) ^ (tkL 2 (fl3 s)).length ≤ 256 ^ 2 := Nat.pow_le_pow_right (by omega) (by omega)
      exact_mod_cast this
    have h4 : (256 : Int) ^ 2 = 65536 := by decide
    show (num (tkL 2 (fl3 s))).toNat ≤ 65535
    omega
  refine acalls_of_body F.has ?_
  (conv => whnf); refine ACalls.mono (take_spec F.batch_reader_take 4 (by omega) s _ 0 rfl) ?_
  rintro r H' ⟨rfl, rfl⟩
  (conv => whnf); refine ⟨_, bytesOf_bC _, ?_⟩
  (conv => whnf); refine recA (fun hm => ?_) (fun hm => ?_)
  · replace hm : (!((strOf (tkL 4 s)).data.toList == (bs [87, 72, 70, 49]).data.toList)) = true := hm
    have hf : fl1 s = ⟨(tkS 4 s).rest, true⟩ := by rw [fl1, if_neg (by rw [magic]; simpa using hm)]
    (conv => whnf); refine ACalls.mono (rtext_spec F.batch_reader_text (fl1 s) b1 _ 0 (by rw [hf]; rfl)) ?_
    rintro r H' ⟨rfl, rfl⟩
    (conv => whnf); refine ACalls.mono (rtext_spec F.batch_reader_text (fl2 s) b2 _ 0 rfl) ?_
    rintro r H' ⟨rfl, rfl⟩
    (conv => whnf); refine ACalls.mono (rnumber_spec F.batch_reader_number 2 (by omega) (by omega) (fl3 s) b3 _ 0 rfl) ?_
    rintro r H' ⟨rfl, rfl⟩
    conv => whnf
    refine ⟨fun m ρ H1 => ∃ (k : Nat) (st : RdS) (L : List Rec) (c : AVal), m = k ∧ flP k st L = flP (flN s).toNat (fl4 s) [] ∧ L.length + k ≤ 65535 ∧ Byt st.rest ∧ st.rest.length ≤ s.rest.length ∧ recH s st resO L c H1 ∧
      Sv 39 [(0, .ptr 0 1 0 0), (2, .ptr 1 1 0 0), (3, .ptr 2 1 0 0), (4, .int .i64 k)] ρ, (flN s).toNat, [], ?_, ?_⟩
    · exact ⟨(flN s).toNat, fl4 s, [], .nil, rfl, rfl, by simpa using nn, b4, l4, .inl ⟨rfl, rfl, rfl⟩, Sv.intro rfl ⟨rfl, rfl, rfl, intEq (by show nbV 2 (fl3 s) = _; rw [flN]; omega), trivial⟩⟩
    rintro m ρ H1 ⟨k, st, L, c, rfl, hr, hle, hb, hlr, hH, d, rfl⟩
    rcases hH with ⟨hL, rfl, rfl⟩ | ⟨rfl, rfl⟩
    · (conv => whnf); refine recA (fun hlt => ?_) (fun hlt => ?_)
      · simp at hlt
        obtain ⟨k, rfl⟩ : ∃ j, m = j + 1 := ⟨m - 1, by omega⟩
        (conv => whnf); refine recA (fun hbad => ?_) (fun hbad => ?_)
        · replace hbad : (!st.bad) = true := hbad
          simp at hbad
          rw [flP, if_neg (by simp [hbad])] at hr
          (conv => whnf); refine ⟨_, _, record_spec F.batch_reader_record st hb (by omega) _ 0 rfl, ?_⟩
          (conv => whnf); refine And.intro (⟨roomMul (by simp) (by omega), roomB_le (by simp)⟩) ?_
          repeat ((conv => whnf); refine And.intro rfl ?_)
          conv => whnf
          subst hL
          refine ⟨k, by omega, Gp.keep rfl ?_ fun ρ1 h => ⟨k, recS st, [] ++ [recV st], _, rfl, hr, by simp; simp at hle; omega, recS_byt hb, Nat.le_trans (recS_len st) hlr, .inr ⟨rfl, rfl⟩, h⟩⟩
          exact ⟨rfl, rfl, rfl, intEq (by have := wrapI (((k + 1 : Nat) : Int) - 1) (by omega) (by omega); show IntKind.i64.wrap (((k + 1 : Nat) : Int) - 1) = _; omega), trivial⟩
        · replace hbad : (!st.bad) = false := hbad
          simp at hbad
          have hv : (flV s).recs = L ∧ flS s = st := by
            rw [flV, flS, ← hr]
            (rw [flP, if_pos hbad]; exact ⟨rfl, rfl⟩)
          conv => whnf
          rw [hv.1, hv.2]
          exact ⟨_, rfl, _, .inl ⟨hL, rfl, rfl⟩⟩
      · simp at hlt
        have hk0 : m = 0 := by omega
        subst hk0
        have hv : (flV s).recs = L ∧ flS s = st := by
          rw [flV, flS, ← hr]
          exact ⟨rfl, rfl⟩
        conv => whnf
        rw [hv.1, hv.2]
        exact ⟨_, rfl, _, .inl ⟨hL, rfl, rfl⟩⟩
    · (conv => whnf); refine recA (fun hlt => ?_) (fun hlt => ?_)
      · simp at hlt
        obtain ⟨k, rfl⟩ : ∃ j, m = j + 1 := ⟨m - 1, by omega⟩
        (conv => whnf); refine recA (fun hbad => ?_) (fun hbad => ?_)
        · replace hbad : (!st.bad) = true := hbad
          simp at hbad
          rw [flP, if_neg (by simp [hbad])] at hr
          (conv => whnf); refine ⟨_, _, record_spec F.batch_reader_record st hb (by omega) _ 0 rfl, ?_⟩
          (conv => whnf); refine recT (by rw [rC_length]; exact Nat.beq_refl _) ?_
          (conv => whnf); refine And.intro (⟨roomMul (by simp; omega) (by omega), roomB_le (by simp; omega), rfl, by rw [rC_length]⟩) ?_
          repeat ((conv => whnf); refine And.intro rfl ?_)
          conv => whnf
          have hc : rC L ++ [recC (recV st)] = rC (L ++ [recV st]) := by rw [rC_append]; rfl
          have hcl : (rC L ++ [recC (recV st)]).length = (L ++ [recV st]).length := by rw [hc, rC_length]
          refine ⟨k, by omega, Gp.keep rfl ?_ fun ρ1 h => ⟨k, recS st, L ++ [recV st], _, rfl, hr, by simp; omega, recS_byt hb, Nat.le_trans (recS_len st) hlr, .inr ⟨rfl, ?_⟩, h⟩⟩
          · exact ⟨rfl, rfl, rfl, intEq (by have := wrapI (((k + 1 : Nat) : Int) - 1) (by omega) (by omega); show IntKind.i64.wrap (((k + 1 : Nat) : Int) - 1) = _; omega), trivial⟩
          · rw [← hc, ← hcl]; rfl
        · replace hbad : (!st.bad) = false := hbad
          simp at hbad
          have hv : (flV s).recs = L ∧ flS s = st := by
            rw [flV, flS, ← hr]
            (rw [flP, if_pos hbad]; exact ⟨rfl, rfl⟩)
          conv => whnf
          rw [hv.1, hv.2]
          exact ⟨_, rfl, _, .inr ⟨rfl, rfl⟩⟩
      · simp at hlt
        have hk0 : m = 0 := by omega
        subst hk0
        have hv : (flV s).recs = L ∧ flS s = st := by
          rw [flV, flS, ← hr]
          exact ⟨rfl, rfl⟩
        conv => whnf
        rw [hv.1, hv.2]
        exact ⟨_, rfl, _, .inr ⟨rfl, rfl⟩⟩
  · replace hm : (!((strOf (tkL 4 s)).data.toList == (bs [87, 72, 70, 49]).data.toList)) = false := hm
    have hf : fl1 s = tkS 4 s := by rw [fl1, if_pos (by rw [magic]; simpa using hm)]
    (conv => whnf); refine ACalls.mono (rtext_spec F.batch_reader_text (fl1 s) b1 _ 0 (by rw [hf]; rfl)) ?_
    rintro r H' ⟨rfl, rfl⟩
    (conv => whnf); refine ACalls.mono (rtext_spec F.batch_reader_text (fl2 s) b2 _ 0 rfl) ?_
    rintro r H' ⟨rfl, rfl⟩
    (conv => whnf); refine ACalls.mono (rnumber_spec F.batch_reader_number 2 (by omega) (by omega) (fl3 s) b3 _ 0 rfl) ?_
    rintro r H' ⟨rfl, rfl⟩
    conv => whnf
    refine ⟨fun m ρ H1 => ∃ (k : Nat) (st : RdS) (L : List Rec) (c : AVal), m = k ∧ flP k st L = flP (flN s).toNat (fl4 s) [] ∧ L.length + k ≤ 65535 ∧ Byt st.rest ∧ st.rest.length ≤ s.rest.length ∧ recH s st resO L c H1 ∧
      Sv 39 [(0, .ptr 0 1 0 0), (2, .ptr 1 1 0 0), (3, .ptr 2 1 0 0), (4, .int .i64 k)] ρ, (flN s).toNat, [], ?_, ?_⟩
    · exact ⟨(flN s).toNat, fl4 s, [], .nil, rfl, rfl, by simpa using nn, b4, l4, .inl ⟨rfl, rfl, rfl⟩, Sv.intro rfl ⟨rfl, rfl, rfl, intEq (by show nbV 2 (fl3 s) = _; rw [flN]; omega), trivial⟩⟩
    rintro m ρ H1 ⟨k, st, L, c, rfl, hr, hle, hb, hlr, hH, d, rfl⟩
    rcases hH with ⟨hL, rfl, rfl⟩ | ⟨rfl, rfl⟩
    · (conv => whnf); refine recA (fun hlt => ?_) (fun hlt => ?_)
      · simp at hlt
        obtain ⟨k, rfl⟩ : ∃ j, m = j + 1 := ⟨m - 1, by omega⟩
        (conv => whnf); refine recA (fun hbad => ?_) (fun hbad => ?_)
        · replace hbad : (!st.bad) = true := hbad
          simp at hbad
          rw [flP, if_neg (by simp [hbad])] at hr
          (conv => whnf); refine ⟨_, _, record_spec F.batch_reader_record st hb (by omega) _ 0 rfl, ?_⟩
          (conv => whnf); refine And.intro (⟨roomMul (by simp) (by omega), roomB_le (by simp)⟩) ?_
          repeat ((conv => whnf); refine And.intro rfl ?_)
          conv => whnf
          subst hL
          refine ⟨k, by omega, Gp.keep rfl ?_ fun ρ1 h => ⟨k, recS st, [] ++ [recV st], _, rfl, hr, by simp; simp at hle; omega, recS_byt hb, Nat.le_trans (recS_len st) hlr, .inr ⟨rfl, rfl⟩, h⟩⟩
          exact ⟨rfl, rfl, rfl, intEq (by have := wrapI (((k + 1 : Nat) : Int) - 1) (by omega) (by omega); show IntKind.i64.wrap (((k + 1 : Nat) : Int) - 1) = _; omega), trivial⟩
        · replace hbad : (!st.bad) = false := hbad
          simp at hbad
          have hv : (flV s).recs = L ∧ flS s = st := by
            rw [flV, flS, ← hr]
            (rw [flP, if_pos hbad]; exact ⟨rfl, rfl⟩)
          conv => whnf
          rw [hv.1, hv.2]
          exact ⟨_, rfl, _, .inl ⟨hL, rfl, rfl⟩⟩
      · simp at hlt
        have hk0 : m = 0 := by omega
        subst hk0
        have hv : (flV s).recs = L ∧ flS s = st := by
          rw [flV, flS, ← hr]
          exact ⟨rfl, rfl⟩
        conv => whnf
        rw [hv.1, hv.2]
        exact ⟨_, rfl, _, .inl ⟨hL, rfl, rfl⟩⟩
    · (conv => whnf); refine recA (fun hlt => ?_) (fun hlt => ?_)
      · simp at hlt
        obtain ⟨k, rfl⟩ : ∃ j, m = j + 1 := ⟨m - 1, by omega⟩
        (conv => whnf); refine recA (fun hbad => ?_) (fun hbad => ?_)
        · replace hbad : (!st.bad) = true := hbad
          simp at hbad
          rw [flP, if_neg (by simp [hbad])] at hr
          (conv => whnf); refine ⟨_, _, record_spec F.batch_reader_record st hb (by omega) _ 0 rfl, ?_⟩
          (conv => whnf); refine recT (by rw [rC_length]; exact Nat.beq_refl _) ?_
          (conv => whnf); refine And.intro (⟨roomMul (by simp; omega) (by omega), roomB_le (by simp; omega), rfl, by rw [rC_length]⟩) ?_
          repeat ((conv => whnf); refine And.intro rfl ?_)
          conv => whnf
          have hc : rC L ++ [recC (recV st)] = rC (L ++ [recV st]) := by rw [rC_append]; rfl
          have hcl : (rC L ++ [recC (recV st)]).length = (L ++ [recV st]).length := by rw [hc, rC_length]
          refine ⟨k, by omega, Gp.keep rfl ?_ fun ρ1 h => ⟨k, recS st, L ++ [recV st], _, rfl, hr, by simp; omega, recS_byt hb, Nat.le_trans (recS_len st) hlr, .inr ⟨rfl, ?_⟩, h⟩⟩
          · exact ⟨rfl, rfl, rfl, intEq (by have := wrapI (((k + 1 : Nat) : Int) - 1) (by omega) (by omega); show IntKind.i64.wrap (((k + 1 : Nat) : Int) - 1) = _; omega), trivial⟩
          · rw [← hc, ← hcl]; rfl
        · replace hbad : (!st.bad) = false := hbad
          simp at hbad
          have hv : (flV s).recs = L ∧ flS s = st := by
            rw [flV, flS, ← hr]
            (rw [flP, if_pos hbad]; exact ⟨rfl, rfl⟩)
          conv => whnf
          rw [hv.1, hv.2]
          exact ⟨_, rfl, _, .inr ⟨rfl, rfl⟩⟩
      · simp at hlt
        have hk0 : m = 0 := by omega
        subst hk0
        have hv : (flV s).recs = L ∧ flS s = st := by
          rw [flV, flS, ← hr]
          exact ⟨rfl, rfl⟩
        conv => whnf
        rw [hv.1, hv.2]
        exact ⟨_, rfl, _, .inr ⟨rfl, rfl⟩⟩

end Go.AW

namespace Go.AW
attribute [local irreducible] ACalls
theorem byt_inj : ∀ {a b : List Int}, Byt a → Byt b → (a.map fun n => UInt8.ofNat n.toNat) = (b.map fun n => UInt8.ofNat n.toNat) → a = b
  | [], [], _, _, _ => rfl
  | [], _ :: _, _, _, h => by simp at h
  | _ :: _, [], _, _, h => by simp at h
  | x :: a, y :: b, ha, hb, h => by
    rw [List.map_cons, List.map_cons, List.cons.injEq] at h
    have hx := ha x (List.mem_cons_self ..)
    have hy := hb y (List.mem_cons_self ..)
    have e1 : x = y := by
      have := congrArg UInt8.toNat h.1
      rw [UInt8.toNat_ofNat', UInt8.toNat_ofNat'] at this
      omega
    rw [e1, byt_inj (fun z hz => ha z (List.mem_cons_of_mem _ hz)) (fun z hz => hb z (List.mem_cons_of_mem _ hz)) h.2]

theorem byt_beq {a b : List Int} (ha : Byt a) (hb : Byt b) : ((a.map fun n => UInt8.ofNat n.toNat) == (b.map fun n => UInt8.ofNat n.toNat)) = (a == b) := by
  rw [Bool.eq_iff_iff, beq_iff_eq, beq_iff_eq]
  exact ⟨byt_inj ha hb, fun h => by rw [h]⟩

theorem bytesEqual_spec {P : Program} (F : F_bytes_Equal P) (e1 e2 : Bool) (a b : List Int) (ha : Byt a) (hb : Byt b) (H : List AObj) :
    ACalls P F.id [.list e1 1 (bC a), .list e2 1 (bC b)] H (fun r H' => r = .bool (a == b) ∧ H' = H) := by
  refine ACalls.pure rfl (acalls_of_body F.has ?_)
  (conv => whnf); refine ⟨_, bytesOf_bC _, ?_⟩
  (conv => whnf); refine ⟨_, bytesOf_bC _, ?_⟩
  conv => whnf
  exact pubB (byt_beq ha hb)

theorem file_spec0 {P : Program} (F : F_batch_reader_file P) (s : RdS) (hby : Byt s.rest) (hl : s.rest.length ≤ 1000000) :
    ACalls P F.id [.ptr 0 1 0 0] [rdO s] (fun r H' => r = .agg (fV (flV s)) ∧ H' = [rdO (flS s)]) := by
  refine ACalls.weakR (Q := fun r H' => ∃ c : AVal, (c = .list false 3 (rC (flV s).recs) ∨ (c = .nil ∧ (flV s).recs = [])) ∧ r = .agg [.str (txV (fl1 s)), .str (txV (fl2 s)), c] ∧ H' = [rdO (flS s)]) ?_ (by
    rintro r H' ⟨c, hc, rfl, rfl⟩
    refine ⟨_, ?_, rfl, rfl⟩
    have : Wks [.str (txV (fl1 s)), .str (txV (fl2 s)), c] (fV (flV s)) := .cons (.refl _) (.cons (.refl _) (.cons (by
      rcases hc with rfl | ⟨rfl, h⟩
      · exact .refl _
      · rw [h]; exact .nil false 3) .nil))
    exact .agg _ _ this.1 this.2)
  refine (file_raw F s hby hl).gp ?_
  rintro r H' ⟨c, rfl, res, ⟨h1, rfl, rfl⟩ | ⟨rfl, rfl⟩⟩
  · exact Gp.res [0] (by simp) (keepB_one rfl rfl rfl) (H1 := [rdO (flS s)]) ⟨⟨_, rfl, .same _ _ rfl⟩, trivial⟩ (.closed (.agg [.str (txV (fl1 s)), .str (txV (fl2 s)), .nil]) rfl) ⟨_, rfl, _, .inr ⟨rfl, h1⟩, rfl, rfl⟩
  · refine Gp.res [0] (by simp) (keepB_one rfl rfl rfl) (H1 := [rdO (flS s)]) (r' := .agg [.str (txV (fl1 s)), .str (txV (fl2 s)), .list false 3 (rC (flV s).recs)]) ⟨⟨_, rfl, .same _ _ rfl⟩, trivial⟩ ?_ ⟨_, rfl, _, .inl rfl, rfl, rfl⟩
    refine .agg _ _ rfl fun i v r h1 h2 => ?_
    rcases i with _ | _ | _ | i
    · cases h1; cases h2; exact .closed _ rfl
    · cases h1; cases h2; exact .closed _ rfl
    · cases h1; cases h2
      have := Pub.frz (H1 := [rdO (flS s), res, fobj s (.sl 3 (flV s).recs.length 0 (flV s).recs.length), .arr 3 (rC (flV s).recs)]) (n := 0) (ids := [0]) 3 (flV s).recs.length 0 (flV s).recs.length 3 (rC (flV s).recs) rfl (by rw [rC_length]) (pureEs_rC _) (by simp)
      have e : ((rC (flV s).recs).drop 0).take (flV s).recs.length = rC (flV s).recs := by rw [List.drop_zero, List.take_of_length_le (by rw [rC_length]; exact Nat.le_refl _)]
      rwa [e] at this
    · simp at h1

theorem file_spec {P : Program} (F : F_batch_reader_file P) (s : RdS) (hby : Byt s.rest) (hl : s.rest.length ≤ 1000000) (H : List AObj) (id : Nat) (ho : H[id]? = some (rdO s)) :
    ACalls P F.id [.ptr id 1 0 0] H (fun r H' => r = .agg (fV (flV s)) ∧ H' = H.set id (rdO (flS s))) :=
  (file_spec0 F s hby hl).fr ho rfl rfl (.pt trivial) (.closed _ rfl)

def f0 : Fil := ⟨bs [], bs [], []⟩

def dS (l : List Int) : RdS := ⟨l.take (l.length - 4), false⟩

def sumBad (l : List Int) : Bool := decide (l.length < 4) || !(l.drop (l.length - 4) == beN 4 (fnv (l.take (l.length - 4))))

def decFE (l : List Int) : Int :=
  if 65536 < l.length then 2 else if sumBad l then 12
  else if (flS (dS l)).bad = true ∨ 0 < (flS (dS l)).rest.length then 11 else if encFE (flV (dS l)) ≠ 0 ∨ filB (flV (dS l)) ≠ l then 11 else 0

def decFV (l : List Int) : Fil := if decFE l = 0 then flV (dS l) else f0

def decRaw (l : List Int) : AVal := if decFE l = 0 then .tuple [.agg (fV (flV (dS l))), .int .i64 0] else .tuple [.agg [.str (bs []), .str (bs []), .nil], .int .i64 (decFE l)]

theorem decRaw_wk (l : List Int) : WkD (decRaw l) (.tuple [.agg (fV (decFV l)), .int .i64 (decFE l)]) := by
  unfold decRaw decFV
  split
  · rename_i h; rw [h]; exact .refl _
  · exact .tuples (.cons (.aggs (.cons (.refl _) (.cons (.refl _) (.cons (.nil false 3) .nil)))) (.cons (.refl _) .nil))

theorem strOf_size (l : List Int) : (strOf l).size = l.length := by simp [strOf, ByteArray.size]

set_option maxRecDepth 20000 in
theorem txV_size {s : RdS} (h : Byt s.rest) : (txV s).size ≤ 255 := by
  rw [txV, strOf_size]
  have h1 := num_bnd _ (tkL_byt (n := 1) h)
  have h2 := tkL_len (n := 1) (s := s) (by omega)
  have h3 : (256 : Int) ^ (tkL 1 s).length ≤ 256 ^ 1 := by
    have : (256 : Nat) ^ (tkL 1 s).length ≤ 256 ^ 1 := Nat.pow_le_pow_right (by omega) (by omega)
    exact_mod_cast this
  have h4 := tkL_len (n := nbV 1 s) (s := tkS 1 s) h1.1
  have h5 : nbV 1 s < 256 := by rw [nbV]; omega
  omega

set_option maxRecDepth 20000 in
theorem batch_Decode_raw {P : Program} (F : F_batch_Decode P) (l : List Int) (hby : Byt l) (H : List AObj) :
    ACalls P F.id [.list false 1 (bC l)] H (fun r H' => r = decRaw l ∧ H' = H) := by
  refine ACalls.pure rfl (acalls_of_body F.has ?_)
  have bad : ∀ {H1 : List AObj} (e : Int), decFE l = e → e ≠ 0 → Pub H1 0 [] (.tuple [.agg [.str (bs []), .str (bs []), .nil], .int .i64 e]) (decRaw l) := fun e h1 h2 => by
    rw [decRaw, if_neg (by rw [h1]; exact h2), h1]
    exact pub2 (.closed _ rfl) (.closed _ rfl)
  (conv => whnf); refine recA (fun h1 => ?_) (fun h1 => ?_)
  · simp [bC_length] at h1
    conv => whnf
    exact bad 2 (by rw [decFE, if_pos (by omega)]) (by decide)
  simp [bC_length] at h1
  (conv => whnf); refine recA (fun h2 => ?_) (fun h2 => ?_)
  · simp [bC_length] at h2
    conv => whnf
    exact bad 12 (by rw [decFE, if_neg (by omega), if_pos (by rw [sumBad, decide_eq_true (by omega)]; rfl)]) (by decide)
  simp [bC_length] at h2
  have ew : IntKind.i64.wrap (((bC l).length : Int) - 4) = ((l.length - 4 : Nat) : Int) := by rw [bC_length, wrapI _ (by omega) (by omega)]; omega
  have et : (IntKind.i64.wrap (((bC l).length : Int) - 4)).toNat = l.length - 4 := by rw [ew, Int.toNat_natCast]
  have es1 : List.drop (IntKind.i64.wrap (((bC l).length : Int) - 4)).toNat (List.take (bC l).length (bC l)) = bC (l.drop (l.length - 4)) := by rw [et, List.take_length, bC_drop]
  have es2 : List.drop 0 (List.take (IntKind.i64.wrap (((bC l).length : Int) - 4)).toNat (bC l)) = bC (l.take (l.length - 4)) := by rw [et, List.drop_zero, bC_take]
  have hbt : Byt (l.take (l.length - 4)) := fun x hx => hby x (List.mem_of_mem_take hx)
  have hbd : Byt (l.drop (l.length - 4)) := fun x hx => hby x (List.mem_of_mem_drop hx)
  have hlt : (l.take (l.length - 4)).length ≤ 65536 := by rw [List.length_take]; omega
  (conv => whnf); refine And.intro (by rw [ew, bC_length]; omega) ?_
  (conv => whnf); refine And.intro (by rw [ew, bC_length]; omega) ?_
  conv => whnf
  rw [es1, es2]
  (conv => whnf); refine ⟨_, Checksum_spec F.batch_Checksum false (l.take (l.length - 4)) (by omega) _, ?_⟩
  (conv => whnf); refine ⟨_, put4_nil F.batch_put4 (fnv (l.take (l.length - 4))) _, ?_⟩
  conv => whnf
  rw [p4_eq _ (fnv_bound _).1 (fnv_bound _).2]
  (conv => whnf); refine ⟨_, bytesEqual_spec F.bytes_Equal false false (l.drop (l.length - 4)) (beN 4 (fnv (l.take (l.length - 4)))) hbd (beN_byt _ _) _, ?_⟩
  have hsb : sumBad l = !(l.drop (l.length - 4) == beN 4 (fnv (l.take (l.length - 4)))) := by rw [sumBad, decide_eq_false (by omega), Bool.false_or]
  (conv => whnf); refine recA (fun h3 => ?_) (fun h3 => ?_)
  · replace h3 : (!(l.drop (l.length - 4) == beN 4 (fnv (l.take (l.length - 4))))) = true := h3
    conv => whnf
    exact bad 12 (by rw [decFE, if_neg (by omega), if_pos (by rw [hsb]; exact h3)]) (by decide)
  replace h3 : (!(l.drop (l.length - 4) == beN 4 (fnv (l.take (l.length - 4))))) = false := h3
  have hE : decFE l = if (flS (dS l)).bad = true ∨ 0 < (flS (dS l)).rest.length then 11 else if encFE (flV (dS l)) ≠ 0 ∨ filB (flV (dS l)) ≠ l then 11 else 0 := by
    rw [decFE, if_neg (by omega), if_neg (by rw [hsb, h3]; simp)]
  (conv => whnf); refine And.intro (by rw [ew, bC_length]; omega) ?_
  conv => whnf
  rw [es2]
  (conv => whnf); refine ACalls.mono (file_spec F.batch_reader_file (dS l) hbt (by show (l.take (l.length - 4)).length ≤ 1000000; omega) _ 1 rfl) ?_
  rintro r H' ⟨rfl, rfl⟩
  (conv => whnf); refine recA (fun h4 => ?_) (fun h4 => ?_)
  · replace h4 : (flS (dS l)).bad = true := h4
    conv => whnf
    exact bad 11 (by rw [hE, if_pos (.inl h4)]) (by decide)
  replace h4 : (flS (dS l)).bad = false := h4
  (conv => whnf); refine recA (fun h5 => ?_) (fun h5 => ?_)
  · simp [bC_length] at h5
    conv => whnf
    exact bad 11 (by rw [hE, if_pos (.inr (by omega))]) (by decide)
  simp [bC_length] at h5
  have hE2 : decFE l = if encFE (flV (dS l)) ≠ 0 ∨ filB (flV (dS l)) ≠ l then 11 else 0 := by rw [hE, if_neg (by simp [h4, h5])]
  have z1 : (flV (dS l)).id.size ≤ 50000 := Nat.le_trans (txV_size (fl1_byt hbt)) (by omega)
  have z2 : (flV (dS l)).src.size ≤ 50000 := Nat.le_trans (txV_size (txS_byt (fl1_byt hbt))) (by omega)
  have hen := fun H => batch_Encode_spec F.batch_Encode (flV (dS l)) z1 z2 H
  by_cases hz : encFE (flV (dS l)) = 0
  · rw [encFR, if_pos hz] at hen
    (conv => whnf); refine ACalls.use (hen _) ?_
    conv => whnf
    (conv => whnf); refine ACalls.use (bytesEqual_spec F.bytes_Equal false false (filB (flV (dS l))) l (filB_byt _) hby _) ?_
    (conv => whnf); refine recA (fun h6 => ?_) (fun h6 => ?_)
    · replace h6 : (!(filB (flV (dS l)) == l)) = true := h6
      simp at h6
      conv => whnf
      exact bad 11 (by rw [hE2, if_pos (.inr h6)]) (by decide)
    · replace h6 : (!(filB (flV (dS l)) == l)) = false := h6
      simp at h6
      have hz0 : decFE l = 0 := by rw [hE2, if_neg (by simp [hz, h6])]
      conv => whnf
      rw [decRaw, if_pos hz0]
      exact pub2 (.closed _ rfl) (.closed _ rfl)
  · rw [encFR, if_neg hz] at hen
    (conv => whnf); refine ACalls.use (hen _) ?_
    (conv => whnf); refine recT (by show (!(encFE (flV (dS l)) == 0)) = true; simp [hz]) ?_
    conv => whnf
    exact bad 11 (by rw [hE2, if_pos (.inl hz)]) (by decide)

theorem batch_Decode_spec {P : Program} (F : F_batch_Decode P) (l : List Int) (hby : Byt l) (H : List AObj) :
    ACalls P F.id [.list false 1 (bC l)] H (fun r H' => r = .tuple [.agg (fV (decFV l)), .int .i64 (decFE l)] ∧ H' = H) :=
  ACalls.weakRD (batch_Decode_raw F l hby H) (by rintro r H' ⟨rfl, rfl⟩; exact ⟨_, decRaw_wk l, rfl, rfl⟩)

end Go.AW

namespace Go.AW
attribute [local irreducible] ACalls
def tkZ (n : Int) (s : RdS) : List Int := if tkB n s then s.rest.take n.toNat else List.replicate n.toNat 0

end Go.AW

namespace Go.AW
attribute [local irreducible] ACalls
def zt (s : RdS) : ByteArray := strOf (tkZ (nbV 1 s) (tkS 1 s))

def zL (s : RdS) : List Int := tkZ (nbV 2 (tkS 4 (tkS 1 s))) (rq3 s)

def zrec (s : RdS) : Option Rec := (dcV (zL s)).map fun rs => ⟨nbV 1 s == 1, nbV 4 (tkS 1 s), rs⟩

def zlP : Nat → RdS → List Rec → Option (List Rec × RdS)
  | 0, s, L => some (L, s)
  | n + 1, s, L => if s.bad then some (L, s) else match zrec s with
    | none => none
    | some r => zlP n (rq4 s) (L ++ [r])

def z1 (l : List Int) : RdS := tkS 4 (dS l)

def z2 (l : List Int) : RdS := txS (z1 l)

def z3 (l : List Int) : RdS := txS (z2 l)

def z4 (l : List Int) : RdS := tkS 2 (z3 l)

def zN (l : List Int) : Int := nbV 2 (z3 l)

def zP (l : List Int) : Option (List Rec × RdS) := zlP (zN l).toNat (z4 l) []

def zF (l : List Int) (L : List Rec) : Fil := ⟨zt (z1 l), zt (z2 l), L⟩

def refFE (l : List Int) : Int :=
  if 65536 < l.length then 2 else if sumBad l then 12
  else match zP l with
    | none => 11
    | some (L, st) => if st.bad = true ∨ encFE (zF l L) ≠ 0 ∨ filB (zF l L) ≠ l then 11 else 0

def refFV (l : List Int) : Fil := if refFE l = 0 then (match zP l with | none => f0 | some (L, _) => zF l L) else f0

theorem ob3 {H : List AObj} {ids : List Nat} {a b : ByteArray} {c c1 : AVal} (h : Pub H 0 ids c c1) (hc : c1.isCell = true) : ObP H ids (.arr 3 [[.str a, .str b, c]]) (.arr 3 [[.str a, .str b, c1]]) := by
  refine .map 3 _ _ rfl (fun i e e1 h1 h2 => ?_) (fun i j e e1 d d1 h1 h2 h3 h4 => ?_)
  · rcases i with _ | i
    · cases h1; cases h2; rfl
    · simp at h1
  · rcases i with _ | i
    · cases h1; cases h2
      rcases j with _ | _ | _ | j
      · cases h3; cases h4; exact ⟨.closed _ rfl, rfl⟩
      · cases h3; cases h4; exact ⟨.closed _ rfl, rfl⟩
      · cases h3; cases h4; exact ⟨h, hc⟩
      · simp at h3
    · simp at h1

end Go.AW

namespace Go.AW
theorem tk_app (x rest : List Int) (n : Int) (hn : n = x.length) : tkL n ⟨x ++ rest, false⟩ = x ∧ tkZ n ⟨x ++ rest, false⟩ = x ∧ tkS n ⟨x ++ rest, false⟩ = ⟨rest, false⟩ := by
  subst hn
  have h : tkB x.length ⟨x ++ rest, false⟩ = true := by simp [tkB]; omega
  refine ⟨?_, ?_, ?_⟩
  · rw [tkL, h, if_pos rfl]; simp
  · rw [tkZ, h, if_pos rfl]; simp
  · rw [tkS, h, if_pos rfl]; simp

theorem num_be : ∀ (k : Nat) (n : Int), 0 ≤ n → n < 256 ^ k → num (beN k n) = n
  | 0, n, h0, h1 => by simp at h1; rw [beN]; show (0 : Int) = n; omega
  | k + 1, n, h0, h1 => by
    rw [Int.pow_succ] at h1
    have ih := num_be k (n / 256) (by omega) (by omega)
    rw [num] at ih
    rw [beN, num, List.foldl_append, ih]
    show n / 256 * 256 + n % 256 = n
    omega

theorem nb_app (x rest : List Int) (n : Int) (hn : n = x.length) : nbV n ⟨x ++ rest, false⟩ = num x := by rw [nbV, (tk_app x rest n hn).1]

theorem text_app (s : ByteArray) (rest : List Int) (hs : s.size ≤ 255) :
    txV ⟨(u8 s.size :: bytesI s) ++ rest, false⟩ = s ∧ zt ⟨(u8 s.size :: bytesI s) ++ rest, false⟩ = s ∧ txS ⟨(u8 s.size :: bytesI s) ++ rest, false⟩ = ⟨rest, false⟩ := by
  have e1 : (u8 s.size :: bytesI s) ++ rest = [u8 s.size] ++ (bytesI s ++ rest) := rfl
  have hn : nbV 1 ⟨(u8 s.size :: bytesI s) ++ rest, false⟩ = s.size := by
    rw [e1, nb_app [u8 s.size] _ 1 rfl]
    show 0 * 256 + u8 s.size = _
    rw [u8_eq]; omega
  have ht : tkS 1 ⟨(u8 s.size :: bytesI s) ++ rest, false⟩ = ⟨bytesI s ++ rest, false⟩ := by
    rw [e1]; exact (tk_app [u8 s.size] _ 1 rfl).2.2
  have hb := tk_app (bytesI s) rest s.size (by rw [bytesI_length])
  rw [txV, zt, txS, hn, ht, hb.1, hb.2.1, hb.2.2, strOf_bytesI]
  exact ⟨rfl, rfl, rfl⟩

theorem valC_inj {a b : V} (h : valC a = valC b) : a = b := by
  cases a; cases b
  simp [valC] at h
  obtain ⟨rfl, rfl, rfl⟩ := h
  rfl

theorem vC_inj : ∀ {a b : List V}, vC a = vC b → a = b
  | [], [], _ => rfl
  | [], _ :: _, h => by simp [vC] at h
  | _ :: _, [], h => by simp [vC] at h
  | x :: a, y :: b, h => by
    simp only [vC, List.map_cons, List.cons.injEq] at h
    rw [valC_inj h.1, vC_inj (a := a) (b := b) h.2]

theorem dcV_enc {row : List V} (h : rowE row = 0) : dcV (encB row) = some row := by
  obtain ⟨h1, h2⟩ := rowE_zero h
  have h3 := decR_enc row h1 fun v hv => List.all_eq_true.1 h2 v hv
  rw [decR_eq] at h3
  cases hc : dcV (encB row) with
  | none => rw [hc] at h3; simp at h3
  | some rs =>
    rw [hc] at h3
    simp only [AVal.tuple.injEq, List.cons.injEq, AVal.list.injEq] at h3
    rw [vC_inj h3.1.2.2]

theorem rec_app {r : Rec} (h : recE r = 0) (rest : List Int) :
    recV ⟨recB r ++ rest, false⟩ = r ∧ recS ⟨recB r ++ rest, false⟩ = ⟨rest, false⟩ ∧ zrec ⟨recB r ++ rest, false⟩ = some r ∧ rq4 ⟨recB r ++ rest, false⟩ = ⟨rest, false⟩ := by
  obtain ⟨s0, s1, hr⟩ := recE_zero h
  have hel := encB_len hr
  have e1 : recB r ++ rest = [if r.del then 1 else 0] ++ (beN 4 r.seq ++ (beN 2 (encB r.row).length ++ (encB r.row ++ rest))) := by simp [recB]
  have t1 : tkS 1 ⟨recB r ++ rest, false⟩ = ⟨beN 4 r.seq ++ (beN 2 (encB r.row).length ++ (encB r.row ++ rest)), false⟩ := by rw [e1]; exact (tk_app [_] _ 1 rfl).2.2
  have t2 : tkS 4 (tkS 1 ⟨recB r ++ rest, false⟩) = ⟨beN 2 (encB r.row).length ++ (encB r.row ++ rest), false⟩ := by rw [t1]; exact (tk_app _ _ 4 (by rw [beN_length]; rfl)).2.2
  have t3 : rq3 ⟨recB r ++ rest, false⟩ = ⟨encB r.row ++ rest, false⟩ := by rw [rq3, t2]; exact (tk_app _ _ 2 (by rw [beN_length]; rfl)).2.2
  have n1 : nbV 1 ⟨recB r ++ rest, false⟩ = if r.del then 1 else 0 := by
    rw [e1, nb_app [_] _ 1 rfl]; show 0 * 256 + _ = _; omega
  have n2 : nbV 4 (tkS 1 ⟨recB r ++ rest, false⟩) = r.seq := by
    rw [t1, nb_app _ _ 4 (by rw [beN_length]; rfl), num_be 4 _ s0 (by omega)]
  have n3 : nbV 2 (tkS 4 (tkS 1 ⟨recB r ++ rest, false⟩)) = (encB r.row).length := by
    rw [t2, nb_app _ _ 2 (by rw [beN_length]; rfl), num_be 2 _ (by omega) (by omega)]
  have tl := tk_app (encB r.row) rest _ rfl
  have hL : rqL ⟨recB r ++ rest, false⟩ = encB r.row := by rw [rqL, n3, t3, tl.1]
  have hZ : zL ⟨recB r ++ rest, false⟩ = encB r.row := by rw [zL, n3, t3, tl.2.1]
  have h4 : rq4 ⟨recB r ++ rest, false⟩ = ⟨rest, false⟩ := by rw [rq4, n3, t3, tl.2.2]
  have hd : (!((if r.del then (1 : Int) else 0) == 0)) = r.del := by cases r.del <;> rfl
  have hd2 : ((if r.del then (1 : Int) else 0) == 1) = r.del := by cases r.del <;> rfl
  refine ⟨?_, ?_, ?_, h4⟩
  · rw [recV, n1, n2, hL, dcV_enc hr, hd]; rfl
  · rw [recS, hL, dcV_enc hr]; exact h4
  · rw [zrec, hZ, dcV_enc hr, n1, n2, hd2]; rfl

theorem recs_app : ∀ (l : List Rec), recsE l = 0 → ∀ (rest : List Int) (L : List Rec),
    flP l.length ⟨l.flatMap recB ++ rest, false⟩ L = (L ++ l, ⟨rest, false⟩) ∧ zlP l.length ⟨l.flatMap recB ++ rest, false⟩ L = some (L ++ l, ⟨rest, false⟩)
  | [], _, rest, L => by simp [flP, zlP]
  | r :: l, h, rest, L => by
    have hr := recsE_zero h r (List.mem_cons_self ..)
    have hl : recsE l = 0 := by rw [recsE, if_neg (by simp [hr])] at h; exact h
    obtain ⟨a1, a2, a3, a4⟩ := rec_app hr (l.flatMap recB ++ rest)
    have ih := recs_app l hl rest (L ++ [r])
    rw [List.flatMap_cons, List.append_assoc, List.length_cons, flP, if_neg (by simp), zlP, if_neg (by simp), a1, a2, a3, a4]
    simp only []
    rw [ih.1, ih.2, List.append_assoc]
    exact ⟨rfl, rfl⟩

theorem nameB_size {s : ByteArray} (h : nameB s = true) : s.size ≤ 24 := by
  simp only [nameB, Bool.and_eq_true, decide_eq_true_eq] at h; exact h.1

theorem qualB_size {s : ByteArray} (h : qualB s = true) : s.size ≤ 49 := by
  unfold qualB at h
  split at h
  · rename_i h0
    simp only [Bool.and_eq_true] at h
    have h1 := nameB_size h.1
    have h2 := nameB_size h.2
    have hd : dotAt s < s.size := by
      rcases ib_cases s.data.toList 46 with hx | ⟨i, hx, hl⟩
      · rw [dotAt, hx] at h0; omega
      · rw [dotAt, hx]
        have : s.data.toList.length = s.size := by simp
        omega
    rw [ByteArray.size_extract] at h1 h2
    omega
  · have := nameB_size h; omega

theorem parse_enc {f : Fil} (h : filE f = 0) : flV ⟨bodyB f, false⟩ = f ∧ flS ⟨bodyB f, false⟩ = ⟨[], false⟩ := by
  obtain ⟨h1, h2, h3, h4⟩ := filE_ok h
  have hi := nameB_size h3
  have hs := qualB_size h4
  have e0 : bodyB f = [87, 72, 70, 49] ++ ((u8 f.id.size :: bytesI f.id) ++ ((u8 f.src.size :: bytesI f.src) ++ (beN 2 f.recs.length ++ (f.recs.flatMap recB ++ [])))) := by
    simp [bodyB, headB]
  rw [e0]
  have hm : magic ⟨[87, 72, 70, 49] ++ ((u8 f.id.size :: bytesI f.id) ++ ((u8 f.src.size :: bytesI f.src) ++ (beN 2 f.recs.length ++ (f.recs.flatMap recB ++ [])))), false⟩ = true := by
    rw [magic, (tk_app _ _ 4 rfl).1]; rfl
  have f1 : fl1 ⟨[87, 72, 70, 49] ++ ((u8 f.id.size :: bytesI f.id) ++ ((u8 f.src.size :: bytesI f.src) ++ (beN 2 f.recs.length ++ (f.recs.flatMap recB ++ [])))), false⟩ = ⟨(u8 f.id.size :: bytesI f.id) ++ ((u8 f.src.size :: bytesI f.src) ++ (beN 2 f.recs.length ++ (f.recs.flatMap recB ++ []))), false⟩ := by
    rw [fl1, hm, if_pos rfl, (tk_app _ _ 4 rfl).2.2]
  have x1 := text_app f.id ((u8 f.src.size :: bytesI f.src) ++ (beN 2 f.recs.length ++ (f.recs.flatMap recB ++ []))) (by omega)
  have x2 := text_app f.src (beN 2 f.recs.length ++ (f.recs.flatMap recB ++ [])) (by omega)
  have x3 := recs_app f.recs h1 [] []
  have nn : nbV 2 ⟨beN 2 f.recs.length ++ (f.recs.flatMap recB ++ []), false⟩ = f.recs.length := by
    rw [nb_app _ _ 2 (by rw [beN_length]; rfl), num_be 2 _ (by omega) (by omega)]
  have ns : tkS 2 ⟨beN 2 f.recs.length ++ (f.recs.flatMap recB ++ []), false⟩ = ⟨f.recs.flatMap recB ++ [], false⟩ := (tk_app _ _ 2 (by rw [beN_length]; rfl)).2.2
  rw [flV, flS, flN, fl4, fl3, fl2, f1, x1.1, x1.2.2, x2.1, x2.2.2, nn, ns, Int.toNat_natCast, x3.1]
  exact ⟨rfl, rfl⟩

theorem zparse_enc {f : Fil} (h : filE f = 0) (l : List Int) (hl : dS l = ⟨bodyB f, false⟩) : zP l = some (f.recs, ⟨[], false⟩) ∧ zF l f.recs = f := by
  obtain ⟨h1, h2, h3, h4⟩ := filE_ok h
  have hi := nameB_size h3
  have hs := qualB_size h4
  have e0 : bodyB f = [87, 72, 70, 49] ++ ((u8 f.id.size :: bytesI f.id) ++ ((u8 f.src.size :: bytesI f.src) ++ (beN 2 f.recs.length ++ (f.recs.flatMap recB ++ [])))) := by
    simp [bodyB, headB]
  have f1 : z1 l = ⟨(u8 f.id.size :: bytesI f.id) ++ ((u8 f.src.size :: bytesI f.src) ++ (beN 2 f.recs.length ++ (f.recs.flatMap recB ++ []))), false⟩ := by
    rw [z1, hl, e0, (tk_app _ _ 4 rfl).2.2]
  have x1 := text_app f.id ((u8 f.src.size :: bytesI f.src) ++ (beN 2 f.recs.length ++ (f.recs.flatMap recB ++ []))) (by omega)
  have x2 := text_app f.src (beN 2 f.recs.length ++ (f.recs.flatMap recB ++ [])) (by omega)
  have x3 := recs_app f.recs h1 [] []
  have nn : nbV 2 ⟨beN 2 f.recs.length ++ (f.recs.flatMap recB ++ []), false⟩ = f.recs.length := by
    rw [nb_app _ _ 2 (by rw [beN_length]; rfl), num_be 2 _ (by omega) (by omega)]
  have ns : tkS 2 ⟨beN 2 f.recs.length ++ (f.recs.flatMap recB ++ []), false⟩ = ⟨f.recs.flatMap recB ++ [], false⟩ := (tk_app _ _ 2 (by rw [beN_length]; rfl)).2.2
  rw [zP, zF, zN, z4, z3, z2, f1, x1.2.1, x1.2.2, x2.2.1, x2.2.2, nn, ns, Int.toNat_natCast, x3.2]
  exact ⟨rfl, rfl⟩

theorem filB_split (f : Fil) : (filB f).length = (bodyB f).length + 4 ∧ dS (filB f) = ⟨bodyB f, false⟩ ∧ sumBad (filB f) = false := by
  have hl : (filB f).length = (bodyB f).length + 4 := by rw [filB, List.length_append, beN_length]
  have ht : (filB f).take ((filB f).length - 4) = bodyB f := by rw [hl, filB]; simp
  have hd : (filB f).drop ((filB f).length - 4) = beN 4 (fnv (bodyB f)) := by rw [hl, filB]; simp
  refine ⟨hl, by rw [dS, ht], ?_⟩
  rw [sumBad, ht, hd, decide_eq_false (by omega)]
  simp

theorem encFE_zero {f : Fil} (h : encFE f = 0) : filE f = 0 ∧ (filB f).length ≤ 65536 := by
  unfold encFE at h
  split at h
  · rename_i hx; exact absurd h hx
  · rename_i hx
    split at h
    · cases h
    · exact ⟨by simpa using hx, by omega⟩

theorem dec_enc {f : Fil} (h : encFE f = 0) : decFE (filB f) = 0 ∧ decFV (filB f) = f ∧ refFE (filB f) = 0 ∧ refFV (filB f) = f := by
  obtain ⟨h1, h2⟩ := encFE_zero h
  obtain ⟨_, s2, s3⟩ := filB_split f
  obtain ⟨p1, p2⟩ := parse_enc h1
  obtain ⟨q1, q2⟩ := zparse_enc h1 (filB f) s2
  have d : decFE (filB f) = 0 := by
    rw [decFE, if_neg (by omega), if_neg (by rw [s3]; simp), s2, p1, p2, if_neg (by simp), if_neg (by simp [h])]
  have r : refFE (filB f) = 0 := by
    rw [refFE, if_neg (by omega), if_neg (by rw [s3]; simp), q1]
    simp only []
    rw [q2, if_neg (by simp [h])]
  refine ⟨d, by rw [decFV, if_pos d, s2, p1], r, ?_⟩
  rw [refFV, if_pos r, q1]
  exact q2

end Go.AW

namespace Go.AW
attribute [local irreducible] ACalls
def fk : Fil := ⟨bs [97], bs [115], []⟩

theorem fk_E : encFE fk = 0 := by
  have h1 : filE fk = 0 := by kernel_rfl
  have h2 : (filB fk).length = 14 := by
    rw [filB, List.length_append, beN_length, bodyB]
    simp [headB, fk, bytesI_length, beN_length]; rfl
  rw [encFE, if_neg (by simp [h1]), if_neg (by omega)]

theorem fnv_a : fnv [97] = 3826002220 := by kernel_rfl

set_option maxRecDepth 20000 in
theorem known24_spec {P : Program} (F : F_warehouselaw24_known P) (H : List AObj) :
    ACalls P F.id [] H (fun r H' => r = .bool true ∧ H' = H) := by
  refine ACalls.pure rfl (acalls_of_body F.has ?_)
  have hen := fun H => (batch_Encode_spec F.batch_Encode fk (by decide) (by decide) H).weakD (args := [.agg [.str (bs [97]), .str (bs [115]), .nil]]) (.cons (.aggs (.cons (.refl _) (.cons (.refl _) (.cons (.nil false 3) .nil)))) .nil)
  rw [encFR, if_pos fk_E] at hen
  (conv => whnf); refine ACalls.use (hen _) ?_
  have hde := fun H => batch_Decode_spec F.batch_Decode (filB fk) (filB_byt _) H
  rw [(dec_enc fk_E).1, (dec_enc fk_E).2.1] at hde
  (conv => whnf); refine ACalls.use (hde _) ?_
  conv => whnf
  refine ACalls.use ((Checksum_spec F.batch_Checksum false [] (by simp) _).weak (.cons (.nil false 1) .nil)) ?_
  (conv => whnf); refine ACalls.use (Checksum_own F.batch_Checksum [97] (by simp) _ 1 rfl) ?_
  rw [fnv_a]
  conv => whnf
  exact .closed _ rfl

end Go.AW

namespace Go.AW
attribute [local irreducible] ACalls
theorem pubFI {H1 : List AObj} {n : Nat} {ids : List Nat} {id ep len sz : Nat} {es : List (List AVal)} (hid : id ∉ ids) (ho : H1[id]? = some (.arr sz es)) (he : ep = es.length) (hl : len = es.length) (hp : pureEs es = true) : Pub H1 n ids (.sl id ep 0 len) (.list false sz es) := by
  subst hl he
  have := Pub.frz (n := n) (ids := ids) id es.length 0 es.length sz es ho rfl hp hid
  rwa [List.drop_zero, List.take_length] at this

end Go.AW

namespace Go.AW
attribute [local irreducible] ACalls
theorem place_eq (x k : Int) (hk : 1 ≤ k) (hk2 : k ≤ 1000000) : (IntKind.i64.wrap (x.tmod k + k)).tmod k = x % k := by
  have h1 := Int.tmod_lt_of_pos x (show 0 < k by omega)
  have h2 := Int.lt_tmod_of_pos x (show 0 < k by omega)
  rw [wrapI _ (by omega) (by omega), Int.tmod_eq_emod_of_nonneg (by omega), Int.add_emod_right, Int.tmod_def, Int.sub_mul_emod_self_left]

theorem Place_spec {P : Program} (F : F_warehouseworld_Place P) (x k : Int) (hk : 1 ≤ k) (hk2 : k ≤ 1000000) (H : List AObj) :
    ACalls P F.id [.int .i64 x, .int .i64 k] H (fun r H' => r = .int .i64 (x % k) ∧ H' = H) := by
  refine ACalls.pure rfl (acalls_of_body F.has ?_)
  (conv => whnf); refine recF (by simp; omega) ?_
  (conv => whnf); refine And.intro (by omega) ?_
  (conv => whnf); refine And.intro (by omega) ?_
  conv => whnf
  exact pub_int (place_eq x k hk hk2)

theorem SameBytes_spec {P : Program} (F : F_warehouseworld_SameBytes P) (e1 e2 : Bool) (a b : List Int) (ha : Byt a) (hb : Byt b) (H : List AObj) :
    ACalls P F.id [.list e1 1 (bC a), .list e2 1 (bC b)] H (fun r H' => r = .bool (a == b) ∧ H' = H) := by
  refine ACalls.pure rfl (acalls_of_body F.has ?_)
  (conv => whnf); refine ⟨_, bytesOf_bC _, ?_⟩
  (conv => whnf); refine ⟨_, bytesOf_bC _, ?_⟩
  conv => whnf
  exact pubB (byt_beq ha hb)

theorem SameEnc {P : Program} (F : F_warehouseworld_SameBytes P) (f : Fil) :
    ∃ a e, encFR f = .tuple [a, .int .i64 e] ∧ ∀ H, ACalls P F.id [a, a] H (fun r H' => r = .bool true ∧ H' = H) := by
  by_cases hz : encFE f = 0
  · refine ⟨_, _, by rw [encFR, if_pos hz], fun H => ?_⟩
    have := SameBytes_spec F false false (filB f) (filB f) (filB_byt _) (filB_byt _) H
    rwa [beq_self_eq_true] at this
  · refine ⟨_, _, by rw [encFR, if_neg hz], fun H => ?_⟩
    exact ((SameBytes_spec F false false [] [] (fun _ h => by simp at h) (fun _ h => by simp at h) H).weakD (args := [.nil, .nil]) (.cons (.nil false 1) (.cons (.nil false 1) .nil)))

theorem decFE_ne0 {l : List Int} (h : l.head? = some 0) : decFE l ≠ 0 := fun e => by
  have : filB (flV (dS l)) = l := by
    unfold decFE at e
    split at e; · cases e
    split at e; · cases e
    split at e; · cases e
    split at e; · cases e
    rename_i h4
    exact Classical.byContradiction fun h5 => h4 (.inr h5)
  rw [← this] at h
  simp [filB, bodyB, headB] at h

theorem decFE_two {l : List Int} (h : l.length ≤ 65536) : decFE l ≠ 2 := by
  unfold decFE
  rw [if_neg (by omega)]
  repeat' split
  all_goals decide

def tv : V := ⟨3, 0, bs [48, 49, 50, 51, 52, 53, 54, 55, 56, 57, 48, 49, 50, 51, 52, 53, 54, 55, 56, 57, 48, 49, 50, 51, 52, 53, 54, 55, 56, 57, 48, 49, 50, 51, 52, 53, 54, 55, 56, 57, 48, 49, 50, 51, 52, 53, 54, 55, 56, 57, 48, 49, 50, 51, 52, 53, 54, 55, 56, 57, 48, 49, 50, 51]⟩

def tvs (k : Nat) : List V := List.replicate k tv

theorem tvs_succ (k : Nat) : vC (tvs (k + 1)) = vC (tvs k) ++ [valC tv] := by rw [tvs, List.replicate_succ', tvs, vC_append]; rfl

def recK (d : Bool) (row : List V) (k : Nat) : List Rec := List.map (fun (i : Nat) => (⟨d, (i : Int), row⟩ : Rec)) (List.range k)

theorem recK_succ (d : Bool) (row : List V) (k : Nat) : rC (recK d row (k + 1)) = rC (recK d row k) ++ [recC ⟨d, k, row⟩] := by rw [recK, List.range_succ, List.map_append, rC_append]; rfl

theorem recK_len (d : Bool) (row : List V) (k : Nat) : (recK d row k).length = k := by simp [recK]

set_option maxRecDepth 20000 in
theorem law_BatchLimits {P : Program} (F : F_warehouselaw24_BatchLimits P) (n wide : Int) (deleted : Bool) (hn : (Lit.int .i64 n).wf = true) (hwd : (Lit.int .i64 wide).wf = true) :
    ACalls P F.id [.int .i64 n, .int .i64 wide, .bool deleted] [] (fun r _ => r = .bool true) := by
  have fin : ∀ H, ACalls P F.warehouselaw24_known.id [] H (fun r H' => r = .bool true ∧ H' = H) := known24_spec F.warehouselaw24_known
  obtain ⟨w, hw⟩ : ∃ w : Nat, wide % 14 = w := ⟨(wide % 14).toNat, by have := Int.emod_nonneg wide (show (14 : Int) ≠ 0 by decide); omega⟩
  have hw2 : w < 14 := by have := Int.emod_lt_of_pos wide (show (0 : Int) < 14 by decide); omega
  obtain ⟨N, hN⟩ : ∃ w : Nat, n % 5 = w := ⟨(n % 5).toNat, by have := Int.emod_nonneg n (show (5 : Int) ≠ 0 by decide); omega⟩
  have hN2 : N < 5 := by have := Int.emod_lt_of_pos n (show (0 : Int) < 5 by decide); omega
  have pw := fun H => Place_spec F.warehouseworld_Place wide 14 (by decide) (by decide) H
  have pn := fun H => Place_spec F.warehouseworld_Place n 5 (by decide) (by decide) H
  rw [hw] at pw
  rw [hN] at pn
  refine acalls_of_body F.has ?_
  conv => whnf
  refine ⟨fun m ρ H1 => ∃ k : Nat, k + m = w ∧ H1 = [.arr 3 (vC (tvs k))] ∧ Sv 82 [(0, .int .i64 n), (1, .int .i64 wide), (2, .bool deleted), (7, .sl 0 k 0 k), (8, .int .i64 k)] ρ, w, [], ?_, ?_⟩
  · exact ⟨0, by omega, rfl, Sv.intro rfl ⟨rfl, rfl, rfl, rfl, rfl, trivial⟩⟩
  rintro m ρ H1 ⟨k, hk, rfl, d, rfl⟩
  (conv => whnf); refine ACalls.use (pw _) ?_
  (conv => whnf); refine recA (fun hlt => ?_) (fun hlt => ?_)
  · simp at hlt
    (conv => whnf); refine recT (by rw [vC_length]; simp [tvs]) ?_
    (conv => whnf); refine And.intro (⟨roomMul (by simp; omega) (by omega), roomB_le (by simp; omega), rfl, by rw [vC_length]; simp [tvs]⟩) ?_
    conv => whnf
    have hl : (vC (tvs (k + 1))).length = k + 1 := by rw [vC_length]; simp [tvs]
    refine ⟨m - 1, by omega, Gp.one 0 3 (vC (tvs (k + 1))) (by rw [tvs_succ]; rfl) (pureEs_vC _) rfl ?_ fun ρ1 h => ⟨k + 1, by omega, rfl, h⟩⟩
    exact ⟨.closed _ rfl, .closed _ rfl, .closed _ rfl, by show Pub _ _ _ (.sl 0 (vC (tvs k) ++ [valC tv]).length 0 (vC (tvs k) ++ [valC tv]).length) _; rw [← tvs_succ, hl]; exact .keep 0 _ _ _ 0 rfl, pub_int (wrapI _ (by omega) (by omega)), trivial⟩
  simp at hlt
  have hkw : k = w := by omega
  subst hkw
  conv => whnf
  have hl : (vC (tvs k)).length = k := by rw [vC_length]; simp [tvs]
  refine Ghost.some (n := 82) (live := [(0, .int .i64 n), (2, .bool deleted), (7, .list false 3 (vC (tvs k))), (9, .ptr 0 1 0 0)]) (H1 := [.arr 3 [[.str (bs [97]), .str (bs [98, 46, 99]), .nil]]]) [1] (by simp) ⟨⟨_, rfl, .same _ _ rfl⟩, trivial⟩ rfl ⟨.closed _ rfl, .closed _ rfl, pubFI (by simp) rfl hl.symm hl.symm (pureEs_vC _), .keepP 1 1 0 0 0 rfl, trivial⟩ ?_
  rintro ρ1 ⟨d, rfl⟩
  conv => whnf
  refine ⟨fun m ρ H1 => ∃ j : Nat, j + m = 1022 + N ∧ ((j = 0 ∧ H1 = [.arr 3 [[.str (bs [97]), .str (bs [98, 46, 99]), .nil]]]) ∨ H1 = [.arr 3 [[.str (bs [97]), .str (bs [98, 46, 99]), .sl 1 j 0 j]], .arr 3 (rC (recK deleted (tvs k) j))]) ∧
    Sv 82 [(0, .int .i64 n), (2, .bool deleted), (7, .list false 3 (vC (tvs k))), (9, .ptr 0 1 0 0), (10, .int .i64 j)] ρ, 1022 + N, [], ?_, ?_⟩
  · exact ⟨0, by omega, .inl ⟨rfl, rfl⟩, Sv.intro rfl ⟨rfl, rfl, rfl, rfl, rfl, trivial⟩⟩
  rintro m ρ H1 ⟨j, hj, hH, d, rfl⟩
  have e32 : IntKind.i64.wrap (1022 + (N : Int)) = 1022 + (N : Int) := wrapI _ (by omega) (by omega)
  have e33 : decide ((j : Int) < IntKind.i64.wrap (1022 + (N : Int))) = decide (j < 1022 + N) := by rw [e32]; exact decide_eq_decide.2 (by omega)
  rcases hH with ⟨rfl, rfl⟩ | rfl
  · (conv => whnf); refine ACalls.use (pn _) ?_
    conv => whnf
    refine ⟨Gp.keep (n := 82) (live := [(0, .int .i64 n), (2, .bool deleted), (7, .list false 3 (vC (tvs k))), (9, .ptr 0 1 0 0), (10, .int .i64 0), (33, .bool true)]) rfl ⟨rfl, rfl, rfl, rfl, rfl, by show AVal.bool (decide _) = .bool true; rw [e33]; simp; omega, trivial⟩ ?_⟩
    rintro ρ1 ⟨d, rfl⟩
    (conv => whnf); refine And.intro (⟨roomMul (by simp) (by omega), roomB_le (by simp)⟩) ?_
    conv => whnf
    refine ⟨m - 1, by omega, Gp.some (n := 82) (live := [(0, .int .i64 n), (2, .bool deleted), (7, .list false 3 (vC (tvs k))), (9, .ptr 0 1 0 0), (10, .int .i64 (1 : Nat))]) (H1 := [.arr 3 [[.str (bs [97]), .str (bs [98, 46, 99]), .sl 1 1 0 1]], .arr 3 [recC ⟨deleted, 0, tvs k⟩]]) [0, 1] (by simp)
      ⟨⟨_, rfl, ob3 (.keep 1 _ _ _ 1 rfl) rfl⟩, ⟨_, rfl, .same _ _ (by simp [pureEs, recC, AVal.isPure])⟩, trivial⟩ rfl ?_ fun ρ1 h => ⟨1, by omega, .inr rfl, h⟩⟩
    exact ⟨.closed _ rfl, .closed _ rfl, .closed _ rfl, .keepP 0 1 0 0 0 rfl, .closed _ rfl, trivial⟩
  · by_cases hlt : j < 1022 + N
    · (conv => whnf); refine ACalls.use (pn _) ?_
      conv => whnf
      refine ⟨Gp.keep (n := 82) (live := [(0, .int .i64 n), (2, .bool deleted), (7, .list false 3 (vC (tvs k))), (9, .ptr 0 1 0 0), (10, .int .i64 j), (33, .bool true)]) rfl ⟨rfl, rfl, rfl, rfl, rfl, by show AVal.bool (decide _) = .bool true; rw [e33]; simp; omega, trivial⟩ ?_⟩
      rintro ρ1 ⟨d, rfl⟩
      have hl2 : (rC (recK deleted (tvs k) j)).length = j := by rw [rC_length, recK_len]
      (conv => whnf); refine recT (by rw [hl2]; exact Nat.beq_refl _) ?_
      (conv => whnf); refine And.intro (⟨roomMul (by simp; omega) (by omega), roomB_le (by simp; omega), rfl, by rw [hl2]⟩) ?_
      conv => whnf
      have hcn := recK_succ deleted (tvs k) j
      have hl3 : (rC (recK deleted (tvs k) j) ++ [recC ⟨deleted, j, tvs k⟩]).length = j + 1 := by simp [hl2]
      refine ⟨m - 1, by omega, Gp.some (n := 82) (live := [(0, .int .i64 n), (2, .bool deleted), (7, .list false 3 (vC (tvs k))), (9, .ptr 0 1 0 0), (10, .int .i64 (j + 1 : Nat))]) (H1 := [.arr 3 [[.str (bs [97]), .str (bs [98, 46, 99]), .sl 1 (rC (recK deleted (tvs k) j) ++ [recC ⟨deleted, j, tvs k⟩]).length 0 (rC (recK deleted (tvs k) j) ++ [recC ⟨deleted, j, tvs k⟩]).length]], .arr 3 (rC (recK deleted (tvs k) j) ++ [recC ⟨deleted, j, tvs k⟩])]) [0, 1] (by simp)
        ⟨⟨_, rfl, ob3 (.keep 1 _ _ _ 1 rfl) rfl⟩, ⟨_, rfl, .same _ _ ((congrArg pureEs hcn.symm).trans (pureEs_rC _))⟩, trivial⟩ rfl ?_ fun ρ1 h => ⟨j + 1, by omega, .inr (by rw [hl3, ← hcn]), h⟩⟩
      exact ⟨.closed _ rfl, .closed _ rfl, .closed _ rfl, .keepP 0 1 0 0 0 rfl, pub_int (wrapI _ (by omega) (by omega)), trivial⟩
    · (conv => whnf); refine ACalls.use (pn _) ?_
      conv => whnf
      have hjN : j = 1022 + N := by omega
      refine Ghost.some (n := 82) (live := [(0, .int .i64 n), (9, .ptr 0 1 0 0), (33, .bool false)]) (H1 := [.arr 3 [fV ⟨bs [97], bs [98, 46, 99], recK deleted (tvs k) j⟩]]) [0] (by simp)
        ⟨⟨_, rfl, ob3 ?_ rfl⟩, trivial⟩ rfl ⟨.closed _ rfl, .keepP 0 1 0 0 0 rfl, by show Pub _ _ _ (.bool (decide _)) _; rw [e33, decide_eq_false hlt]; exact .closed _ rfl, trivial⟩ ?_
      · have := Pub.frz (H1 := [.arr 3 [[.str (bs [97]), .str (bs [98, 46, 99]), .sl 1 j 0 j]], .arr 3 (rC (recK deleted (tvs k) j))]) (n := 0) (ids := [0]) 1 j 0 j 3 (rC (recK deleted (tvs k) j)) rfl (by rw [rC_length, recK_len]) (pureEs_rC _) (by simp)
        have e : ((rC (recK deleted (tvs k) j)).drop 0).take j = rC (recK deleted (tvs k) j) := by rw [List.drop_zero, List.take_of_length_le (by rw [rC_length, recK_len]; exact Nat.le_refl _)]
        rwa [e] at this
      rintro ρ1 ⟨d, rfl⟩
      obtain ⟨a, e, he, hsame⟩ := SameEnc F.warehouseworld_SameBytes ⟨bs [97], bs [98, 46, 99], recK deleted (tvs k) j⟩
      have e1 := fun H => batch_Encode_spec F.batch_Encode ⟨bs [97], bs [98, 46, 99], recK deleted (tvs k) j⟩ (by show (bs [97]).size ≤ 50000; decide) (by show (bs [98, 46, 99]).size ≤ 50000; decide) H
      have e2 := fun H => ref24_Encode_spec F.warehouseref24_Encode ⟨bs [97], bs [98, 46, 99], recK deleted (tvs k) j⟩ (by show (bs [97]).size ≤ 50000; decide) (by show (bs [98, 46, 99]).size ≤ 50000; decide) H
      rw [he] at e1 e2
      (conv => whnf); refine ACalls.use (e1 _) ?_
      (conv => whnf); refine ACalls.use (e2 _) ?_
      obtain ⟨p, hp⟩ : ∃ w : Nat, n % 2 = w := ⟨(n % 2).toNat, by have := Int.emod_nonneg n (show (2 : Int) ≠ 0 by decide); omega⟩
      have hp2 : p < 2 := by have := Int.emod_lt_of_pos n (show (0 : Int) < 2 by decide); omega
      have pp := fun H => Place_spec F.warehouseworld_Place n 2 (by decide) (by decide) H
      rw [hp] at pp
      (conv => whnf); refine ACalls.use (pp _) ?_
      have ew : IntKind.i64.wrap (65536 + (p : Int)) = ((65536 + p : Nat) : Int) := by rw [wrapI _ (by omega) (by omega)]; omega
      (conv => whnf); refine And.intro (by rw [ew]; exact ⟨by omega, by omega, by rw [roomB_val]; omega, by rw [roomB_val]; omega⟩) ?_
      have hzl : (List.replicate (65536 + p) (0 : Int)).length = 65536 + p := List.length_replicate ..
      have hz0 : decFE (List.replicate (65536 + p) 0) ≠ 0 := decFE_ne0 (by rw [show 65536 + p = (65535 + p) + 1 by omega, List.replicate_succ]; rfl)
      have hzr : decRaw (List.replicate (65536 + p) 0) = .tuple [.agg [.str (bs []), .str (bs []), .nil], .int .i64 (decFE (List.replicate (65536 + p) 0))] := by rw [decRaw, if_neg hz0]
      have hzd := ACalls.mono (batch_Decode_raw F.batch_Decode (List.replicate (65536 + p) 0) (fun x hx => by rw [List.eq_of_mem_replicate hx]; decide) []) (fun r H' h => h.1)
      rw [hzr] at hzd
      have hes : List.replicate (IntKind.i64.wrap (65536 + (p : Int))).toNat [AVal.int .u8 0] = bC (List.replicate (65536 + p) 0) := by rw [ew, Int.toNat_natCast, bC, List.map_replicate]
      have hlen : (IntKind.i64.wrap (65536 + (p : Int))).toNat = (bC (List.replicate (65536 + p) 0)).length := by rw [ew, Int.toNat_natCast, bC_length, hzl]
      conv => whnf
      refine ACalls.use (ACalls.bor rfl hzd (Lents.cons (?_ : Lent _ _ (.list false 1 (bC (List.replicate (65536 + p) 0)))) Lents.nil)) ?_
      · show Lent [.arr 3 [fV _], .arr 1 (List.replicate (IntKind.i64.wrap (65536 + (p : Int))).toNat [AVal.int .u8 0])] (.sl 1 (IntKind.i64.wrap (65536 + (p : Int))).toNat 0 (IntKind.i64.wrap (65536 + (p : Int))).toNat) _
        rw [hes, hlen]
        have := Lent.sl (H := [.arr 3 [fV ⟨bs [97], bs [98, 46, 99], recK deleted (tvs k) j⟩], .arr 1 (bC (List.replicate (65536 + p) 0))]) 1 _ 0 (bC (List.replicate (65536 + p) 0)).length 1 (bC (List.replicate (65536 + p) 0)) rfl rfl (pureEs_bC _)
        rwa [List.drop_zero, List.take_length] at this
      conv => whnf
      (conv => whnf); refine recT (by simp) ?_
      (conv => whnf); refine ACalls.use (hsame _) ?_
      (conv => whnf); refine ACalls.use (pp _) ?_
      have hfin2 : ∀ D : Int, (p = 0 → D ≠ 2) → (p = 1 → D = 2) → ((D == 2) == ((p : Int) == 1)) = true := fun D h0 h1 => by
        have hpp : p = 0 ∨ p = 1 := by omega
        rcases hpp with h | h
        · have := h0 h
          subst h
          simp [this]
        · rw [h1 h, h]; rfl
      have hfin := hfin2 (decFE (List.replicate (65536 + p) 0)) (fun h => decFE_two (by rw [hzl]; omega)) (fun h => by rw [decFE, if_pos (by rw [hzl]; omega)])
      (conv => whnf); refine recT (hfin) ?_
      (conv => whnf); refine ACalls.use (fin _) ?_
      conv => whnf

end Go.AW

