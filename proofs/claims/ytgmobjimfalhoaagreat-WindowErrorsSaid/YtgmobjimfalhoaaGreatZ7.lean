/-
  An abstract machine over the model, the code of functions on it, and their contracts: what the claim needs.
  No condition: definitions, plain laws, contracts over any program that has this code.
-/
import Derived.Test.YtgmobjimfalhoaaGreatZ6
set_option linter.all false
namespace Go.AW
variable [Draws]
section
variable {P : Program} {C C' : Nat → Nat} {τ τ' : Nat → Option Loc} {H H' : List AObj} {w w' : World}
def AObj.clean : AObj → Bool
  | .arr _ es => pureEs es
  | .iter _ _ => true
  | .map kvs => kvs.all fun kv => kv.2.isPure

theorem pureKvs_get {kvs : List (AVal × AVal)} (h : (kvs.all fun kv => kv.2.isPure) = true) {i : Nat} {kv : AVal × AVal} (hi : kvs[i]? = some kv) : kv.2.isPure = true :=
  List.all_eq_true.1 h kv (List.mem_of_getElem? hi)

inductive Ren (σ : Nat → Nat) : AVal → AVal → Prop where
  | closed (v : AVal) (h : v.closed = true) : Ren σ v v
  | sl (id ep off len : Nat) : Ren σ (.sl id ep off len) (.sl (σ id) ep off len)
  | ptr (id ep idx fld : Nat) : Ren σ (.ptr id ep idx fld) (.ptr (σ id) ep idx fld)
  | agg (vs rs : List AVal) (hl : vs.length = rs.length) (h : ∀ (i : Nat) (v r : AVal), vs[i]? = some v → rs[i]? = some r → Ren σ v r) : Ren σ (.agg vs) (.agg rs)
  | tuple (vs rs : List AVal) (hl : vs.length = rs.length) (h : ∀ (i : Nat) (v r : AVal), vs[i]? = some v → rs[i]? = some r → Ren σ v r) : Ren σ (.tuple vs) (.tuple rs)

inductive RenO (σ : Nat → Nat) : AObj → AObj → Prop where
  | same (o : AObj) (h : o.clean = true) : RenO σ o o
  | arr (esz : Nat) (es es1 : List (List AVal)) (hl : es1.length = es.length) (hl2 : ∀ (i : Nat) (e e1 : List AVal), es[i]? = some e → es1[i]? = some e1 → e1.length = e.length)
      (h : ∀ (i j : Nat) (e e1 : List AVal) (d d1 : AVal), es[i]? = some e → es1[i]? = some e1 → e[j]? = some d → e1[j]? = some d1 → Ren σ d d1 ∧ d1.isCell = true) :
      RenO σ (.arr esz es) (.arr esz es1)

theorem RenO.after {σ : Nat → Nat} {o o0 o1 : AObj} {t t' : Option Loc} (h : RenO σ o0 o1) (ha : o.after o0 t t') : o.after o1 t t' := by
  cases h with
  | same => exact ha
  | arr esz es es1 hl _ _ =>
    cases o with
    | iter _ _ => exact ha
    | map _ => exact ha
    | arr z es0 => exact ⟨ha.1, by rw [hl]; exact ha.2.1, by rw [hl]; exact ha.2.2⟩

theorem RenO.ok {σ : Nat → Nat} {o0 o1 : AObj} (h : RenO σ o0 o1) (ho : o0.ok) : o1.ok := by
  cases h with
  | same => exact ho
  | arr esz es es1 hl hl2 hp =>
    intro e1 he1
    obtain ⟨n, hn⟩ := List.getElem?_of_mem he1
    have hnl := (List.getElem?_eq_some_iff.1 hn).1
    have he : es[n]? = some es[n] := List.getElem?_eq_getElem (by omega)
    obtain ⟨g1, g2⟩ := ho _ (List.mem_of_getElem? he)
    refine ⟨(hl2 n _ _ he hn).trans g1, fun d1 hd1 => ?_⟩
    obtain ⟨j, hj⟩ := List.getElem?_of_mem hd1
    have hjl := (List.getElem?_eq_some_iff.1 hj).1
    have := hl2 n _ _ he hn
    exact (hp n j _ _ _ d1 he hn (List.getElem?_eq_getElem (by omega)) hj).2

def frN (id n : Nat) (k : Nat) : Nat := match k with
  | 0 => id
  | k + 1 => n + k

theorem ACalls.frame1 {f : FuncId} {args0 args : List AVal} {Q0 Q : AVal → List AObj → Prop} {id : Nat} {o : AObj} (ho : H[id]? = some o)
    (hp : o.clean = true)
    (hal : args0.length = args.length) (ha : ∀ (i : Nat) (a b : AVal), args0[i]? = some a → args[i]? = some b → (a = b ∧ a.closed = true) ∨ ∃ ep idx fld, a = .ptr 0 ep idx fld ∧ b = .ptr id ep idx fld)
    (h : ACalls P f args0 [o] Q0)
    (hq : ∀ r H1, Q0 r H1 → ∃ r' o1 o1' G G', H1 = o1 :: G ∧ Ren (frN id H.length) r r' ∧ RenO (frN id H.length) o1 o1' ∧ G.length = G'.length ∧
      (∀ (k : Nat) (x y : AObj), G[k]? = some x → G'[k]? = some y → RenO (frN id H.length) x y) ∧ Q r' (H.set id o1' ++ G')) : ACalls P f args H Q := by
  intro C τ w vs hw hl hr
  have hid := (List.getElem?_eq_some_iff.1 ho).1
  let τ0 : Nat → Option Loc := fun k => if k = 0 then τ id else none
  have one : ∀ {k : Nat} {x : AObj}, [o][k]? = some x → k = 0 ∧ x = o := fun {k x} h => by
    cases k with
    | zero => simp at h; exact ⟨rfl, h.symm⟩
    | succ k => simp at h
  have hw0 : WF C τ0 [o] w := by
    refine ⟨fun k x h => ?_, fun k x h ht => ?_, fun k x l h ht => ?_, fun k l hk ht => ?_, fun i j li lj hi hj _ _ _ => ?_, hw.lt⟩
    · obtain ⟨rfl, rfl⟩ := one h; exact hw.ok id _ ho
    · obtain ⟨rfl, rfl⟩ := one h; exact hw.virt id _ ho ht
    · obtain ⟨rfl, rfl⟩ := one h
      have hob := hw.objs id _ l ho ht
      cases x with
      | iter s p => exact hob
      | map kvs =>
        obtain ⟨es, clock, a1, a2, a3⟩ := hob
        exact ⟨es, clock, a1, a2, fun i e kv he hkv => ⟨(a3 i e kv he hkv).1, .rd ((a3 i e kv he hkv).2.pure (pureKvs_get hp hkv))⟩⟩
      | arr esz es =>
        obtain ⟨a1, cells, elem, fz, a2, a3, a4, a5⟩ := hob
        refine ⟨a1, cells, elem, fz, a2, a3, a4, fun i j e d hi hd => ?_⟩
        obtain ⟨x, hx1, hx2⟩ := a5 i j e d hi hd
        exact ⟨x, hx1, .rd (hx2.pure (pureEs_get hp hi hd))⟩
    · have hk0 : k = 0 := by simp at hk; omega
      subst hk0; exact hw.comm id l hid ht
    · simp at hi hj; omega
  have hr0 : ∀ (i : Nat) (a : AVal) (v : Value), args0[i]? = some a → vs[i]? = some v → Rel C w τ0 [o] a v := fun i a v h1 h2 => by
    have hi := (List.getElem?_eq_some_iff.1 h1).1
    have hb : args[i]? = some args[i] := List.getElem?_eq_getElem (by omega)
    have hrel := hr i _ v hb h2
    rcases ha i a _ h1 hb with ⟨e, hc⟩ | ⟨ep, idx, fld, rfl, e⟩
    · rw [← e] at hrel
      exact hrel.closed hc (fun _ => Nat.le_refl _) (fun _ _ _ => rfl)
    · rw [e] at hrel
      cases hrel with
      | rd h => cases h
      | ptr _ _ _ _ a esz es ho2 hep h3 =>
        rw [ho] at ho2; cases ho2
        exact .ptr 0 ep idx fld a esz es rfl hep h3
  have hc := h C τ0 w vs hw0 (by omega) hr0
  have fin : ∀ (e : Ending) (w' : World), (∃ v r C' τ' H', e = .returned v ∧ Q0 r H' ∧ Rel C' w' τ' H' r v ∧ St w (PrCall τ0 [o] w) C' τ' H' w' ∧ Step C τ0 [o] w C' τ' H' w') →
      ∃ v r C' τ' H', e = .returned v ∧ Q r H' ∧ Rel C' w' τ' H' r v ∧ St w (PrCall τ H w) C' τ' H' w' ∧ Step C τ H w C' τ' H' w' := by
    rintro e w' ⟨v, r, C1, τ1, H1, he, hq0, hrel, hst, hstep⟩
    obtain ⟨r', o1, o1', G, G', rfl, hrr, hro, hgl, hG, hQ⟩ := hq r H1 hq0
    
    have hoth : ∀ j l, j < H.length → j ≠ id → τ j = some l → PrCall τ0 [o] w l.b := fun j l hj hne ht =>
      ⟨hw.locLt hj ht, by
        rintro ⟨k, l', hk, ht', hb⟩
        have hk0 : k = 0 := by simp at hk; omega
        subst hk0
        exact hne (hw.inj j id l l' hj hid ht ht' hb.symm)⟩
    have hheap : ∀ j l, j < H.length → j ≠ id → τ j = some l → w'.heap[l.b]? = w.heap[l.b]? := fun j l hj hne ht => hst.fr.prot _ (hoth j l hj hne ht)
    let τ2 : Nat → Option Loc := fun i => if i = id then τ1 0 else if i < H.length then τ i else τ1 (i - H.length + 1)
    have t0 : τ2 id = τ1 0 := by simp only [τ2, if_true]
    have tO : ∀ j, j < H.length → j ≠ id → τ2 j = τ j := fun j hj hne => by simp only [τ2, if_neg hne, if_pos hj]
    have tN : ∀ k, τ2 (H.length + k) = τ1 (k + 1) := fun k => by
      simp only [τ2, if_neg (by omega : ¬ H.length + k = id), if_neg (by omega : ¬ H.length + k < H.length), Nat.add_sub_cancel_left]
    have tF : ∀ k, τ2 (frN id H.length k) = τ1 k := fun k => by
      cases k with
      | zero => exact t0
      | succ k => exact tN k
    have gid : (H.set id o1' ++ G')[id]? = some o1' := by rw [List.getElem?_append_left (by rw [List.length_set]; exact hid), List.getElem?_set_self hid]
    have gO : ∀ j, j < H.length → j ≠ id → (H.set id o1' ++ G')[j]? = H[j]? := fun j hj hne => by
      rw [List.getElem?_append_left (by rw [List.length_set]; exact hj), List.getElem?_set_ne (Ne.symm hne)]
    have gN : ∀ k, (H.set id o1' ++ G')[H.length + k]? = G'[k]? := fun k => by
      rw [List.getElem?_append_right (by rw [List.length_set]; omega), List.length_set, Nat.add_sub_cancel_left]
    
    have gF : ∀ k x, (o1 :: G)[k]? = some x → ∃ y, (H.set id o1' ++ G')[frN id H.length k]? = some y ∧ RenO (frN id H.length) x y := fun k x hx => by
      cases k with
      | zero => simp at hx; subst hx; exact ⟨o1', gid, hro⟩
      | succ k =>
        have hk : k < G.length := (List.getElem?_eq_some_iff.1 (by simpa using hx : G[k]? = some x)).1
        have hy : G'[k]? = some G'[k] := List.getElem?_eq_getElem (by omega)
        exact ⟨G'[k], (gN k).trans hy, hG k x _ (by simpa using hx) hy⟩
    have split : ∀ i, i < (H.set id o1' ++ G').length → (i < H.length ∧ i ≠ id) ∨ ∃ k, i = frN id H.length k ∧ k < (o1 :: G).length := fun i hi => by
      rw [List.length_append, List.length_set] at hi
      by_cases h1 : i = id
      · exact .inr ⟨0, h1, by simp⟩
      · by_cases h2 : i < H.length
        · exact .inl ⟨h2, h1⟩
        · exact .inr ⟨i - H.length + 1, by simp only [frN]; omega, by simp; omega⟩
    have frInj : ∀ k k', frN id H.length k = frN id H.length k' → k = k' := fun k k' h => by
      cases k <;> cases k' <;> simp only [frN] at h <;> omega
    have step : Step C τ H w C1 τ2 (H.set id o1' ++ G') w' := by
      refine ⟨hstep.le, hstep.cell, fun j x hx => ?_, hstep.grow, hstep.old⟩
      have hj := (List.getElem?_eq_some_iff.1 hx).1
      by_cases e1 : j = id
      · subst e1
        rw [ho] at hx; cases hx
        obtain ⟨o', h1, h2⟩ := hstep.obj 0 o rfl
        simp at h1; subst h1
        refine ⟨o1', gid, ?_⟩
        rw [t0]
        have : τ0 0 = τ j := by simp only [τ0, if_true]
        rw [this] at h2
        exact hro.after h2
      · exact ⟨x, by rw [gO j hj e1]; exact hx, by rw [tO j hj e1]; exact x.after_refl _⟩
    have ren : ∀ {a b : AVal}, Ren (frN id H.length) a b → ∀ {u : Value}, Rel C1 w' τ1 (o1 :: G) a u → Rel C1 w' τ2 (H.set id o1' ++ G') b u := by
      intro a b hab
      induction hab with
      | closed v h => intro u hu; exact hu.closed h (fun _ => Nat.le_refl _) (fun _ _ _ => rfl)
      | sl k ep off len =>
        intro u hu
        cases hu with
        | rd h => cases h
        | sl _ _ _ _ a cap esz es ho2 hep h3 =>
          obtain ⟨y, hy, hry⟩ := gF k _ ho2
          cases hry with
          | same _ _ => exact .sl _ ep off len a cap esz es hy hep fun e => by rw [tF]; exact h3 e
          | arr _ _ es1 hl1 _ _ => exact .sl _ ep off len a cap esz es1 hy (by omega) fun e => by rw [tF, hl1]; exact h3 (by omega)
      | ptr k ep idx fld =>
        intro u hu
        cases hu with
        | rd h => cases h
        | ptr _ _ _ _ a esz es ho2 hep h3 =>
          obtain ⟨y, hy, hry⟩ := gF k _ ho2
          cases hry with
          | same _ _ => exact .ptr _ ep idx fld a esz es hy hep fun e => by rw [tF]; exact h3 e
          | arr _ _ es1 hl1 _ _ => exact .ptr _ ep idx fld a esz es1 hy (by omega) fun e => by rw [tF]; exact h3 (by omega)
      | agg vs rs hl h ih =>
        intro u hu
        obtain ⟨us, rfl, hl2, hr2⟩ := hu.agg_inv
        refine .agg _ _ (by omega) fun i c v hc hv => ?_
        have hi := (List.getElem?_eq_some_iff.1 hc).1
        have hvi : vs[i]? = some vs[i] := List.getElem?_eq_getElem (by omega)
        exact ih i _ c hvi hc (hr2 i _ v hvi hv)
      | tuple vs rs hl h ih =>
        intro u hu
        obtain ⟨us, rfl, hl2, hr2⟩ := hu.tuple_inv
        refine .tuple _ _ (by omega) fun i c v hc hv => ?_
        have hi := (List.getElem?_eq_some_iff.1 hc).1
        have hvi : vs[i]? = some vs[i] := List.getElem?_eq_getElem (by omega)
        exact ih i _ c hvi hc (hr2 i _ v hvi hv)
    have hgetF : ∀ k, k < (o1 :: G).length → ∃ x, (o1 :: G)[k]? = some x := fun k hk => ⟨_, List.getElem?_eq_getElem hk⟩
    refine ⟨v, r', C1, τ2, H.set id o1' ++ G', he, hQ, ren hrr hrel, ⟨⟨fun i x hx => ?_, fun i x hx ht => ?_, fun i x l hx ht => ?_, fun i l hi ht => ?_, fun i j li lj hi hj hti htj hb => ?_, hst.wf.lt⟩,
      ⟨hst.fr.os, hst.fr.tape, hst.fr.output, hst.fr.size, fun b hb => hst.fr.prot b ⟨hb.1, ?_⟩, hst.fr.drawn⟩, ?_, fun b hb => hb.1⟩, step⟩
    · rcases split i (List.getElem?_eq_some_iff.1 hx).1 with ⟨h1, h2⟩ | ⟨k, rfl, hk⟩
      · rw [gO i h1 h2] at hx; exact hw.ok i x hx
      · obtain ⟨z, hz⟩ := hgetF k hk
        obtain ⟨y, hy, hry⟩ := gF k z hz
        rw [hx] at hy; cases hy
        exact hry.ok (hst.wf.ok k z hz)
    · rcases split i (List.getElem?_eq_some_iff.1 hx).1 with ⟨h1, h2⟩ | ⟨k, rfl, hk⟩
      · rw [gO i h1 h2] at hx; rw [tO i h1 h2] at ht; exact hw.virt i x hx ht
      · obtain ⟨z, hz⟩ := hgetF k hk
        obtain ⟨y, hy, hry⟩ := gF k z hz
        rw [hx] at hy; cases hy
        rw [tF] at ht
        obtain ⟨esz, rfl⟩ := hst.wf.virt k z hz ht
        cases hry with
        | same _ _ => exact ⟨esz, rfl⟩
        | arr _ _ es1 hl1 _ _ =>
          have : es1 = [] := List.length_eq_zero_iff.1 hl1
          subst this; exact ⟨esz, rfl⟩
    · rcases split i (List.getElem?_eq_some_iff.1 hx).1 with ⟨h1, h2⟩ | ⟨k, rfl, hk⟩
      · rw [gO i h1 h2] at hx; rw [tO i h1 h2] at ht
        exact (hw.objs i x l hx ht).mono step (hheap i l h1 h2 ht)
      · obtain ⟨z, hz⟩ := hgetF k hk
        obtain ⟨y, hy, hry⟩ := gF k z hz
        rw [hx] at hy; cases hy
        rw [tF] at ht
        have hob := hst.wf.objs k z l hz ht
        cases hry with
        | same _ hpz =>
          cases x with
          | iter s p => exact hob
          | map kvs =>
            obtain ⟨es, clock, a1, a2, a3⟩ := hob
            exact ⟨es, clock, a1, a2, fun i e kv he hkv => ⟨(a3 i e kv he hkv).1, .rd ((a3 i e kv he hkv).2.pure (pureKvs_get hpz hkv))⟩⟩
          | arr esz es =>
            obtain ⟨a1, cells, elem, fz, a2, a3, a4, a5⟩ := hob
            refine ⟨a1, cells, elem, fz, a2, a3, a4, fun i j e d hi hd => ?_⟩
            obtain ⟨x, hx1, hx2⟩ := a5 i j e d hi hd
            exact ⟨x, hx1, .rd (hx2.pure (pureEs_get hpz hi hd))⟩
        | arr esz es es1 hl1 hl2 hp2 =>
          obtain ⟨a1, cells, elem, fz, a2, a3, a4, a5⟩ := hob
          refine ⟨by omega, cells, elem, fz, a2, a3, a4, fun i j e1 d1 hi hd => ?_⟩
          have hil := (List.getElem?_eq_some_iff.1 hi).1
          have hjl := (List.getElem?_eq_some_iff.1 hd).1
          have he : es[i]? = some es[i] := List.getElem?_eq_getElem (by omega)
          have hl3 := hl2 i _ _ he hi
          have hd0 : es[i][j]? = some es[i][j] := List.getElem?_eq_getElem (by omega)
          obtain ⟨x, hx1, hx2⟩ := a5 i j _ _ he hd0
          exact ⟨x, hx1, ren (hp2 i j _ _ _ d1 he hi hd0 hd).1 hx2⟩
    · rcases split i hi with ⟨h1, h2⟩ | ⟨k, rfl, hk⟩
      · rw [tO i h1 h2] at ht
        rw [hstep.old _ (hw.locLt h1 ht)]; exact hw.comm i l h1 ht
      · rw [tF] at ht; exact hst.wf.comm k l hk ht
    · rcases split i hi with ⟨h1, h2⟩ | ⟨k, rfl, hk⟩ <;> rcases split j hj with ⟨h3, h4⟩ | ⟨k', rfl, hk'⟩
      · rw [tO i h1 h2] at hti; rw [tO j h3 h4] at htj; exact hw.inj i j li lj h1 h3 hti htj hb
      · rw [tO i h1 h2] at hti; rw [tF] at htj
        exact absurd (hb ▸ hoth i li h1 h2 hti) (hst.own _ ⟨k', lj, hk', htj, rfl⟩)
      · rw [tF] at hti; rw [tO j h3 h4] at htj
        exact absurd (hb ▸ hoth j lj h3 h4 htj) (hst.own _ ⟨k, li, hk, hti, rfl⟩)
      · rw [tF] at hti htj
        rw [hst.wf.inj k k' li lj hk hk' hti htj hb]
    · rintro ⟨k, l, hk, ht, hb2⟩
      have hk0 : k = 0 := by simp at hk; omega
      subst hk0
      exact hb.2 ⟨id, l, hid, ht, hb2⟩
    · rintro b ⟨i, l, hi, ht, rfl⟩ hp2
      rcases split i hi with ⟨h1, h2⟩ | ⟨k, rfl, hk⟩
      · rw [tO i h1 h2] at ht; exact hp2.2 ⟨i, l, h1, ht, rfl⟩
      · rw [tF] at ht
        refine hst.own _ ⟨k, l, hk, ht, rfl⟩ ⟨hp2.1, ?_⟩
        rintro ⟨k2, l2, hk2, ht2, hb2⟩
        have hk0 : k2 = 0 := by simp at hk2; omega
        subst hk0
        exact hp2.2 ⟨id, l2, hid, ht2, hb2⟩
  unfold CallsX at hc ⊢
  split at hc
  · exact Calls.mono hc fun e w' hh => fin e w' hh
  · exact fin _ _ hc
  · exact hc

def FrArgs (id : Nat) : List AVal → List AVal → Prop
  | [], [] => True
  | a :: asv, b :: bs => ((a = b ∧ a.closed = true) ∨ ∃ ep idx fld, a = .ptr 0 ep idx fld ∧ b = .ptr id ep idx fld) ∧ FrArgs id asv bs
  | _, _ => False

theorem FrArgs.get {id : Nat} : ∀ {asv bs : List AVal}, FrArgs id asv bs → asv.length = bs.length ∧ ∀ (i : Nat) (a b : AVal), asv[i]? = some a → bs[i]? = some b → (a = b ∧ a.closed = true) ∨ ∃ ep idx fld, a = .ptr 0 ep idx fld ∧ b = .ptr id ep idx fld
  | [], [], _ => ⟨rfl, fun i a b h => by simp at h⟩
  | a :: asv, b :: bs, h => by
    obtain ⟨h1, h2⟩ := FrArgs.get h.2
    refine ⟨by simp [h1], fun i x y hx hy => ?_⟩
    cases i with
    | zero => simp at hx hy; subst hx hy; exact h.1
    | succ i => exact h2 i x y (by simpa using hx) (by simpa using hy)
  | [], _ :: _, h => h.elim
  | _ :: _, [], h => h.elim

theorem FrArgs.cl {id : Nat} {a : AVal} {asv bs : List AVal} (h : a.closed = true) (hs : FrArgs id asv bs) : FrArgs id (a :: asv) (a :: bs) := ⟨.inl ⟨rfl, h⟩, hs⟩

theorem ACalls.fr {f : FuncId} {args0 args : List AVal} {id : Nat} {o o1 : AObj} {R : AVal} (h : ACalls P f args0 [o] (fun r H' => r = R ∧ H' = [o1])) (ho : H[id]? = some o)
    (hp : o.clean = true) (hp1 : o1.clean = true) (ha : FrArgs id args0 args) (hR : Ren (frN id H.length) R R) : ACalls P f args H (fun r H' => r = R ∧ H' = H.set id o1) := by
  obtain ⟨hl, ha⟩ := ha.get
  refine ACalls.frame1 ho hp hl ha h ?_
  rintro r H1 ⟨rfl, rfl⟩
  exact ⟨_, o1, o1, [], [], rfl, hR, .same _ hp1, rfl, fun k x y h => by simp at h, rfl, by simp⟩

end
theorem Gp.res {n0 : List Nat} {r r' : AVal} {H H1 : List AObj} {I : List AVal → List AObj → Prop} (ids : List Nat) (hnd : ids.Nodup) (hb : keepB n0 ids H) (ho : gpO H ids ids H1) (hp : Pub H 0 ids r r') (hI : I [r'] H1) : Gp n0 [r] H I :=
  .inr ⟨ids, [r'], H1, hnd, hb, ho, ⟨hp, trivial⟩, hI⟩

end Go.AW

namespace Go.AW
variable [Draws]
attribute [local irreducible] ACalls
structure RdS where
  rest : List Int
  bad : Bool

def tkB (n : Int) (s : RdS) : Bool := !s.bad && decide (n ≤ s.rest.length)

def tkL (n : Int) (s : RdS) : List Int := if tkB n s then s.rest.take n.toNat else []

def tkS (n : Int) (s : RdS) : RdS := if tkB n s then ⟨s.rest.drop n.toNat, false⟩ else ⟨s.rest, true⟩

def nbV (n : Int) (s : RdS) : Int := num (tkL n s)

def txS (s : RdS) : RdS := tkS (nbV 1 s) (tkS 1 s)

end Go.AW

namespace Go.AW
variable [Draws]
attribute [local irreducible] ACalls
def f0 : Fil := ⟨bs [], bs [], []⟩

def dS (l : List Int) : RdS := ⟨l.take (l.length - 4), false⟩

end Go.AW

namespace Go.AW
variable [Draws]
attribute [local irreducible] ACalls
def z1 (l : List Int) : RdS := tkS 4 (dS l)

def z2 (l : List Int) : RdS := txS (z1 l)

def z3 (l : List Int) : RdS := txS (z2 l)

def z4 (l : List Int) : RdS := tkS 2 (z3 l)

end Go.AW

namespace Go.AW
variable [Draws]
attribute [local irreducible] ACalls
theorem ob1s {H : List AObj} {ids : List Nat} (xs ys : List AVal) (hl : xs.length = ys.length) (h : ∀ (i : Nat) (x y : AVal), xs[i]? = some x → ys[i]? = some y → Pub H 0 ids x y ∧ y.isCell = true) : ObP H ids (.arr 1 (xs.map fun x => [x])) (.arr 1 (ys.map fun x => [x])) := by
  refine .map 1 _ _ (by simp [hl]) (fun i e e1 h1 h2 => ?_) (fun i j e e1 d d1 h1 h2 h3 h4 => ?_)
  · rw [List.getElem?_map] at h1 h2
    obtain ⟨x, _, rfl⟩ := Option.map_eq_some_iff.1 h1
    obtain ⟨y, _, rfl⟩ := Option.map_eq_some_iff.1 h2
    rfl
  · rw [List.getElem?_map] at h1 h2
    obtain ⟨x, hx, rfl⟩ := Option.map_eq_some_iff.1 h1
    obtain ⟨y, hy, rfl⟩ := Option.map_eq_some_iff.1 h2
    rcases j with _ | j
    · cases h3; cases h4; exact h i _ _ hx hy
    · simp at h3

end Go.AW

namespace Go.AW
variable [Draws]
attribute [local irreducible] ACalls
def gO (l : List Int) (i : Nat) : AObj := .arr 2 [[.list false 1 (iC l), .int .i64 i]]

def nx (l : List Int) (i : Nat) (n : Int) : Int × Nat := if l.length ≤ i ∨ n < 1 then (0, i) else (l.getD i 0 % n, i + 1)

def inB (l : List ByteArray) (s : ByteArray) : Bool := l.any fun x => eqS x s

def instL : List Int := [144000, 144719, 145380, 145400, 145439, 145440, 145500, 146000, 146879, 146880, 148000, 148320, 149000, 151199, 151200, 153000]

def wtexts : List ByteArray := [bs [], bs [97], bs [98], bs [105, 116, 39, 115], bs [122, 122]]

def wv1 (k : Int) (l : List Int) (i : Nat) : V × Nat :=
  if k = 1 then (⟨1, (nx l i 2).1, bs []⟩, (nx l i 2).2)
  else if k = 2 then (⟨2, (nx l i 7).1 - 1, bs []⟩, (nx l i 7).2)
  else if k = 3 then (⟨3, 0, wtexts.getD (nx l i 5).1.toNat (bs [])⟩, (nx l i 5).2)
  else (⟨4, instL.getD (nx l i 16).1.toNat 0, bs []⟩, (nx l i 16).2)

def wv (c : Col) (l : List Int) (i : Nat) : V × Nat :=
  if c.nul then (if (nx l i 5).1 = 0 then (zV, (nx l i 5).2) else wv1 c.kind l (nx l i 5).2) else wv1 c.kind l i

end Go.AW

namespace Go.AW
variable [Draws]
attribute [local irreducible] ACalls
def wr (l : List Int) : List Col → Nat → List V → List V × Nat
  | [], i, out => (out, i)
  | c :: cs, i, out => wr l cs (wv c l i).2 (out ++ [(wv c l i).1])

end Go.AW

namespace Go.AW
variable [Draws]
attribute [local irreducible] ACalls
structure Src where
  cols : List Col
  key : List ByteArray
  late : Int
  reopen : Int

end Go.AW

namespace Go.AW
variable [Draws]
attribute [local irreducible] ACalls
def sAt : ByteArray := bs [97, 116]

def keepC (key : List ByteArray) (c : Col) : Bool := inB key c.name || eqS c.name sAt

def delR (key : List ByteArray) : List Col → List V → List V
  | c :: cs, v :: vs => (if keepC key c then v else zV) :: delR key cs vs
  | _, _ => []

end Go.AW

namespace Go.AW
variable [Draws]
attribute [local irreducible] ACalls
def wk (s : Src) (l : List Int) (i : Nat) : Int × Nat := nx l (wr l s.cols (nx l i 4).2 []).2 24

def wrow (s : Src) (l : List Int) (i : Nat) : List V := (wr l s.cols (nx l i 4).2 []).1

def wrec (s : Src) (l : List Int) (i : Nat) : Rec × Nat :=
  if (wk s l i).1 < 5 then (⟨true, (nx l i 4).1, delR s.key s.cols (wrow s l i)⟩, (wk s l i).2)
  else if (wk s l i).1 = 5 then (⟨true, (nx l i 4).1, wrow s l i⟩, (wk s l i).2)
  else if (wk s l i).1 = 6 then (⟨false, (nx l i 4).1, (wrow s l i).take (s.cols.length - 1)⟩, (wk s l i).2)
  else if (wk s l i).1 = 7 then (⟨false, (nx l i 4).1, (wrow s l i).set (nx l (wk s l i).2 s.cols.length).1.toNat ⟨1, 1, bs []⟩⟩, (nx l (wk s l i).2 s.cols.length).2)
  else if (wk s l i).1 = 8 then (⟨false, -1, wrow s l i⟩, (wk s l i).2)
  else (⟨false, (nx l i 4).1, wrow s l i⟩, (wk s l i).2)

end Go.AW

namespace Go.AW
variable [Draws]
attribute [local irreducible] ACalls
def wf (s : Src) (l : List Int) : Nat → Nat → List Rec → List Rec × Nat
  | 0, i, L => (L, i)
  | k + 1, i, L => wf s l k (wrec s l i).2 (L ++ [(wrec s l i).1])

end Go.AW

namespace Go.AW
variable [Draws]
attribute [local irreducible] ACalls
noncomputable def eqD {α : Type} (a b : α) : Bool := @decide (a = b) (Classical.propDecidable _)

theorem eqD_true {α : Type} {a b : α} (h : a = b) : eqD a b = true := by simp [eqD, h]

theorem eqD_false {α : Type} {a b : α} (h : a ≠ b) : eqD a b = false := by simp [eqD, h]

theorem take_more {α : Type} {a b : List α} {k : Nat} {x y : α} (ht : a.take k = b.take k) (hx : a[k]? = some x) (hy : b[k]? = some y) (h : x = y) : a.take (k + 1) = b.take (k + 1) := by
  rw [List.take_add_one, List.take_add_one, hx, hy, ht, h]

theorem get_ne {α : Type} {a b : List α} {k : Nat} {x y : α} (hx : a[k]? = some x) (hy : b[k]? = some y) (h : x ≠ y) : a ≠ b := fun e => by
  rw [e, hy] at hx
  cases hx
  exact h rfl

end Go.AW

namespace Go.AW
variable [Draws]
attribute [local irreducible] ACalls
def tO (x y z : List Int) : AObj := .arr 1 [[.list false 1 (bC x)], [.list false 1 (bC y)], [.list false 1 (bC z)]]

end Go.AW

namespace Go.AW
variable [Draws]
attribute [local irreducible] ACalls
set_option maxRecDepth 20000 in
theorem ins0_spec {P : Program} (F : F_slices_insertionSortCmpFunc_Entry P) (X : AVal) (g : FuncId) (H : List AObj) :
    ACalls P F.id [X, .int .i64 0, .int .i64 0, .fn g []] H (fun r H' => r = .tuple [] ∧ H' = H) := by
  refine acalls_of_body F.has ?_
  conv => whnf
  refine ⟨fun m ρ H1 => H1 = H ∧ Sv 53 [(1, .int .i64 0), (2, .int .i64 0), (8, .int .i64 1)] ρ, 0, [], ?_, ?_⟩
  · exact ⟨rfl, Sv.intro rfl ⟨rfl, rfl, rfl, trivial⟩⟩
  rintro m ρ H1 ⟨rfl, d, rfl⟩
  conv => whnf
  exact ⟨rfl, rfl⟩

set_option maxRecDepth 20000 in
theorem Len64_0 {P : Program} (F : F_math_bits_Len64 P) (H : List AObj) :
    ACalls P F.id [.int .u64 0] H (fun r H' => r = .int .i64 0 ∧ H' = H) := by
  refine ACalls.pure rfl (acalls_of_body F.has ?_)
  (conv => whnf); refine And.intro (by decide) ?_
  conv => whnf
  exact .closed _ rfl

theorem Len_0 {P : Program} (F : F_math_bits_Len P) (H : List AObj) :
    ACalls P F.id [.int .u64 0] H (fun r H' => r = .int .i64 0 ∧ H' = H) := by
  refine ACalls.pure rfl (acalls_of_body F.has ?_)
  (conv => whnf); refine ACalls.use (Len64_0 F.math_bits_Len64 _) ?_
  conv => whnf
  exact .closed _ rfl

set_option maxRecDepth 20000 in
theorem pdq0_spec {P : Program} (F : F_slices_pdqsortCmpFunc_Entry P) (X : AVal) (g : FuncId) (H : List AObj) :
    ACalls P F.id [X, .int .i64 0, .int .i64 0, .int .i64 0, .fn g []] H (fun r H' => r = .tuple [] ∧ H' = H) := by
  refine acalls_of_body F.has ?_
  conv => whnf
  refine ⟨fun m ρ H1 => H1 = H ∧ Sv 148 [(0, X), (1, .int .i64 0), (2, .int .i64 0), (3, .int .i64 0), (4, .fn g []), (10, .bool true), (11, .bool true)] ρ, 0, [], ?_, ?_⟩
  · exact ⟨rfl, Sv.intro rfl ⟨rfl, rfl, rfl, rfl, rfl, rfl, rfl, trivial⟩⟩
  rintro m ρ H1 ⟨rfl, d, rfl⟩
  (conv => whnf); refine ACalls.use (ins0_spec F.slices_insertionSortCmpFunc_Entry X g _) ?_
  conv => whnf
  exact ⟨rfl, rfl⟩

theorem sort0_spec {P : Program} (F : F_slices_SortFunc_LEntry_Entry P) (id : Nat) (g : FuncId) (H : List AObj) (ho : H[id]? = some (.arr 2 [])) :
    ACalls P F.id [.sl id 0 0 0, .fn g []] H (fun r H' => r = .tuple [] ∧ H' = H) := by
  refine acalls_of_body F.has ?_
  (conv => whnf); refine recO (ho) ?_
  (conv => whnf); refine ACalls.use (Len_0 F.math_bits_Len _) ?_
  (conv => whnf); refine ACalls.use (pdq0_spec F.slices_pdqsortCmpFunc_Entry (.sl id 0 0 0) g _) ?_
  conv => whnf
  exact ⟨rfl, rfl⟩

theorem sort0n_spec {P : Program} (F : F_slices_SortFunc_LEntry_Entry P) (g : FuncId) (H : List AObj) :
    ACalls P F.id [.nil, .fn g []] H (fun r H' => r = .tuple [] ∧ H' = H) := by
  refine acalls_of_body F.has ?_
  (conv => whnf); refine ACalls.use (Len_0 F.math_bits_Len _) ?_
  (conv => whnf); refine ACalls.use (pdq0_spec F.slices_pdqsortCmpFunc_Entry .nil g _) ?_
  conv => whnf
  exact ⟨rfl, rfl⟩

end Go.AW

namespace Go.AW
variable [Draws]
attribute [local irreducible] ACalls
def posE (e : Ent) : Bool := decide (0 < e.cnt)

def szW : List Ent → Int → Int
  | [], a => a
  | e :: l, a => szW l (IntKind.i64.wrap (a + e.cnt))

def sizeR (b : List Ent) : AVal := if bagB b = 0 then .tuple [.int .i64 (szW b 0), .int .i64 0] else .tuple [.int .i64 0, .int .i64 (bagB b)]

theorem bagB_le {b : List Ent} (h : bagB b = 0) : b.length ≤ 1000000 := by
  unfold bagB at h
  split at h
  · cases h
  · omega

set_option maxRecDepth 20000 in
theorem ref6_positive_spec {P : Program} (F : F_warehouseref6_positive P) (ex : Bool) (b : List Ent) (hl : b.length ≤ 1000000) (H : List AObj) :
    ACalls P F.id [.list ex 2 (eC b)] H (fun r H' => r = .bool (b.all posE) ∧ H' = H) := by
  refine ACalls.pure (by simp [AVal.closed, AVal.isPure]) (acalls_of_body F.has ?_)
  conv => whnf
  refine ⟨fun m ρ H1 => ∃ k : Nat, k + m = b.length ∧ b.all posE = (b.drop k).all posE ∧ H1 = [] ∧ Sv 16 [(0, .list ex 2 (eC b)), (3, .int .i64 k)] ρ, b.length, [], ?_, ?_⟩
  · exact ⟨0, by omega, rfl, rfl, Sv.intro rfl ⟨rfl, rfl, trivial⟩⟩
  rintro m ρ H1 ⟨k, hk, hr, rfl, d, rfl⟩
  (conv => whnf); refine recA (fun hlt => ?_) (fun hlt => ?_)
  · simp [eC_length] at hlt
    have hx : b[k]? = some b[k] := List.getElem?_eq_getElem hlt
    rw [List.drop_eq_getElem_cons hlt, List.all_cons] at hr
    (conv => whnf); refine And.intro (by omega) ?_
    (conv => whnf); refine recO (eC_at hx) ?_
    (conv => whnf); refine recA (fun h5 => ?_) (fun h5 => ?_)
    · simp at h5
      conv => whnf
      exact pubB (by rw [hr, posE, decide_eq_false (by omega)]; rfl)
    · simp at h5
      rw [posE, decide_eq_true (by omega), Bool.true_and] at hr
      conv => whnf
      refine ⟨m - 1, by omega, Gp.keep rfl ?_ fun ρ1 h => ⟨k + 1, by omega, hr, rfl, h⟩⟩
      exact ⟨rfl, intEq (wrapI _ (by omega) (by omega)), trivial⟩
  · simp [eC_length] at hlt
    rw [List.drop_of_length_le (by omega)] at hr
    conv => whnf
    exact pubB hr.symm

set_option maxRecDepth 20000 in
theorem ref6_Size_spec {P : Program} (F : F_warehouseref6_Size P) (ex : Bool) (b : List Ent) (H : List AObj) :
    ACalls P F.id [.list ex 2 (eC b)] H (fun r H' => r = sizeR b ∧ H' = H) := by
  refine ACalls.pure (by simp [AVal.closed, AVal.isPure]) (acalls_of_body F.has ?_)
  (conv => whnf); refine ACalls.use (ref6_Validate_spec F.warehouseref6_Validate ex b _) ?_
  (conv => whnf); refine recA (fun h1 => ?_) (fun h1 => ?_)
  · simp at h1
    conv => whnf
    rw [sizeR, if_neg h1]
    exact pub2 (.closed _ rfl) (.closed _ rfl)
  simp at h1
  have hl := bagB_le h1
  conv => whnf
  refine ⟨fun m ρ H1 => ∃ (k : Nat) (a : Int), k + m = b.length ∧ szW (b.drop k) a = szW b 0 ∧ H1 = [] ∧ Sv 26 [(0, .list ex 2 (eC b)), (5, .int .i64 a), (6, .int .i64 k)] ρ, b.length, [], ?_, ?_⟩
  · exact ⟨0, 0, by omega, rfl, rfl, Sv.intro rfl ⟨rfl, rfl, rfl, trivial⟩⟩
  rintro m ρ H1 ⟨k, a, hk, hr, rfl, d, rfl⟩
  (conv => whnf); refine recA (fun hlt => ?_) (fun hlt => ?_)
  · simp [eC_length] at hlt
    have hx : b[k]? = some b[k] := List.getElem?_eq_getElem hlt
    rw [List.drop_eq_getElem_cons hlt, szW] at hr
    (conv => whnf); refine And.intro (by omega) ?_
    (conv => whnf); refine recO (eC_at hx) ?_
    conv => whnf
    refine ⟨m - 1, by omega, Gp.keep rfl ?_ fun ρ1 h => ⟨k + 1, _, by omega, hr, rfl, h⟩⟩
    exact ⟨rfl, rfl, intEq (wrapI _ (by omega) (by omega)), trivial⟩
  · simp [eC_length] at hlt
    rw [List.drop_of_length_le (by omega), szW] at hr
    conv => whnf
    rw [sizeR, if_pos h1, ← hr]
    exact pub2 (.closed _ rfl) (.closed _ rfl)

set_option maxRecDepth 20000 in
theorem bag_Size_spec {P : Program} (F : F_bag_Size P) (ex : Bool) (b : List Ent) (H : List AObj) :
    ACalls P F.id [.list ex 2 (eC b)] H (fun r H' => r = sizeR b ∧ H' = H) := by
  refine ACalls.pure (by simp [AVal.closed, AVal.isPure]) (acalls_of_body F.has ?_)
  (conv => whnf); refine ACalls.use (bag_Validate_spec F.bag_Validate ex b _) ?_
  (conv => whnf); refine recA (fun h1 => ?_) (fun h1 => ?_)
  · simp at h1
    conv => whnf
    rw [sizeR, if_neg h1]
    exact pub2 (.closed _ rfl) (.closed _ rfl)
  simp at h1
  have hl := bagB_le h1
  conv => whnf
  refine ⟨fun m ρ H1 => ∃ (k : Nat) (a : Int), k + m = b.length ∧ szW (b.drop k) a = szW b 0 ∧ H1 = [] ∧ Sv 25 [(5, .int .i64 a), (13, .list ex 2 (eC b)), (14, .int .i64 b.length), (15, .int .i64 k)] ρ, b.length, [], ?_, ?_⟩
  · exact ⟨0, 0, by omega, rfl, rfl, Sv.intro rfl ⟨rfl, rfl, intEq (by rw [eC_length]), rfl, trivial⟩⟩
  rintro m ρ H1 ⟨k, a, hk, hr, rfl, d, rfl⟩
  (conv => whnf); refine recA (fun hlt => ?_) (fun hlt => ?_)
  · simp at hlt
    have hx : b[k]? = some b[k] := List.getElem?_eq_getElem hlt
    rw [List.drop_eq_getElem_cons hlt, szW] at hr
    (conv => whnf); refine And.intro (by omega) ?_
    (conv => whnf); refine recO (eC_at hx) ?_
    conv => whnf
    refine ⟨m - 1, by omega, Gp.none rfl ?_ fun ρ1 h => ⟨k + 1, _, by omega, hr, rfl, h⟩⟩
    exact ⟨.closed _ rfl, .closed (.list ex 2 (eC b)) rfl, .closed _ rfl, pub_int (wrapI _ (by omega) (by omega)), trivial⟩
  · simp at hlt
    rw [List.drop_of_length_le (by omega), szW] at hr
    conv => whnf
    rw [sizeR, if_pos h1, ← hr]
    exact pub2 (.closed _ rfl) (.closed _ rfl)

end Go.AW

namespace Go.AW
variable [Draws]
attribute [local irreducible] ACalls
set_option maxRecDepth 20000 in
theorem ref6_Same_spec {P : Program} (F : F_warehouseref6_Same P) (e1 e2 : Bool) (a b : List Ent) (hl : a.length ≤ 1000000) (hr : ∀ x ∈ a, x.row.length ≤ 1000000) (H : List AObj) :
    ACalls P F.id [.list e1 2 (eC a), .list e2 2 (eC b)] H (fun r H' => r = .bool (eqD a b) ∧ H' = H) := by
  refine ACalls.pure (by simp [AVal.closed, AVal.isPure]) (acalls_of_body F.has ?_)
  (conv => whnf); refine recA (fun hn => ?_) (fun hn => ?_)
  · simp [eC_length] at hn
    conv => whnf
    exact pubB (eqD_false (fun e => hn (by rw [e]))).symm
  simp [eC_length] at hn
  conv => whnf
  refine ⟨fun m ρ H => ∃ k : Nat, k + m = a.length ∧ a.take k = b.take k ∧ H = [] ∧ Sv 42 [(0, .list e1 2 (eC a)), (1, .list e2 2 (eC b)), (5, .int .i64 k)] ρ, a.length, [], ?_, ?_⟩
  · exact ⟨0, by omega, rfl, rfl, Sv.intro rfl ⟨rfl, rfl, rfl, trivial⟩⟩
  rintro m ρ H ⟨k, hk, ht, rfl, d, rfl⟩
  (conv => whnf); refine recA (fun hlt => ?_) (fun hlt => ?_)
  · simp [eC_length] at hlt
    have hx : a[k]? = some a[k] := List.getElem?_eq_getElem hlt
    have hy : b[k]? = some (b[k]'(by omega)) := List.getElem?_eq_getElem (by omega)
    (conv => whnf); refine And.intro (by omega) ?_
    (conv => whnf); refine recO (eC_at hx) ?_
    (conv => whnf); refine And.intro (by omega) ?_
    (conv => whnf); refine recO (eC_at hy) ?_
    (conv => whnf); refine recA (fun h1 => ?_) (fun h1 => ?_)
    · replace h1 : (!(a[k].cnt == (b[k]'(by omega)).cnt)) = true := h1
      have hv : a[k] ≠ b[k]'(by omega) := fun e => by rw [e, beq_self_eq_true] at h1; cases h1
      conv => whnf
      exact pubB (eqD_false (get_ne hx hy hv)).symm
    replace h1 : (!(a[k].cnt == (b[k]'(by omega)).cnt)) = false := h1
    have hc : a[k].cnt = (b[k]'(by omega)).cnt := by rw [Bool.not_eq_false', beq_iff_eq] at h1; exact h1
    (conv => whnf); refine And.intro (by omega) ?_
    (conv => whnf); refine recO (eC_at hx) ?_
    (conv => whnf); refine And.intro (by omega) ?_
    (conv => whnf); refine recO (eC_at hy) ?_
    (conv => whnf); refine ⟨_, ref1_SameRow_spec F.warehouseref1_SameRow false false a[k].row (b[k]'(by omega)).row (hr _ (List.getElem_mem hlt)) _, ?_⟩
    (conv => whnf); refine recA (fun h2 => ?_) (fun h2 => ?_)
    · replace h2 : (!(rowsCmp a[k].row (b[k]'(by omega)).row == 0)) = true := h2
      have hv : a[k] ≠ b[k]'(by omega) := fun e => by rw [e, (rowsCmp_zero _ _).2 rfl] at h2; cases h2
      conv => whnf
      exact pubB (eqD_false (get_ne hx hy hv)).symm
    · replace h2 : (!(rowsCmp a[k].row (b[k]'(by omega)).row == 0)) = false := h2
      have hrw : a[k].row = (b[k]'(by omega)).row := by
        rw [Bool.not_eq_false', beq_iff_eq] at h2
        exact (rowsCmp_zero _ _).1 h2
      have hv : ∀ x y : Ent, x.row = y.row → x.cnt = y.cnt → x = y := fun x y h3 h4 => by
        cases x; cases y
        simp only at h3 h4
        rw [h3, h4]
      conv => whnf
      refine ⟨m - 1, by omega, Gp.keep rfl ?_ fun ρ1 h => ⟨k + 1, by omega, take_more ht hx hy (hv _ _ hrw hc), rfl, h⟩⟩
      exact ⟨rfl, rfl, intEq (wrapI ((k : Int) + 1) (by omega) (by omega)), trivial⟩
  · simp [eC_length] at hlt
    have : a = b := by
      rw [List.take_of_length_le (by omega), List.take_of_length_le (by omega)] at ht
      exact ht
    conv => whnf
    exact pubB (eqD_true this).symm

end Go.AW

namespace Go.AW
variable [Draws]
def grpA (c : Ent) : List Ent → List Ent
  | [] => [c]
  | e :: l => if rowsCmp c.row e.row = 0 then grpA ⟨c.row, c.cnt + e.cnt⟩ l else c :: grpA e l

def grpL : List Ent → List Ent
  | [] => []
  | e :: l => grpA e l

def Asc (l : List Ent) : Prop := l.Pairwise fun x y => rowsCmp x.row y.row ≤ 0

theorem cntL_grpA : ∀ (l : List Ent) (c : Ent) (r : List V), cntL (grpA c l) r = cntL (c :: l) r
  | [], c, r => rfl
  | e :: l, c, r => by
    rw [grpA]
    split
    · rename_i h
      have hr : c.row = e.row := (rowsCmp_zero _ _).1 h
      rw [cntL_grpA l, cntL, cntL, cntL]
      simp only [hr]
      split <;> omega
    · rw [cntL, cntL_grpA l e r, cntL]; rfl

theorem cntL_grpL (l : List Ent) (r : List V) : cntL (grpL l) r = cntL l r := by
  cases l with
  | nil => rfl
  | cons e l => exact cntL_grpA l e r

theorem grpA_ge : ∀ (l : List Ent) (c : Ent) (x : List V), rowsCmp x c.row < 0 → (∀ e ∈ l, rowsCmp x e.row < 0) → ∀ e ∈ grpA c l, rowsCmp x e.row < 0
  | [], c, x, h, _, e, he => by rw [grpA] at he; rw [List.mem_singleton.1 he]; exact h
  | f :: l, c, x, h, hl, e, he => by
    rw [grpA] at he
    split at he
    · exact grpA_ge l ⟨c.row, c.cnt + f.cnt⟩ x h (fun e he => hl e (List.mem_cons_of_mem _ he)) e he
    · rcases List.mem_cons.1 he with rfl | he
      · exact h
      · exact grpA_ge l f x (hl f (List.mem_cons_self ..)) (fun e he => hl e (List.mem_cons_of_mem _ he)) e he

theorem asc_tail {c e : Ent} {l : List Ent} (h : Asc (c :: e :: l)) : Asc (c :: l) :=
  List.pairwise_cons.2 ⟨fun x hx => (List.pairwise_cons.1 h).1 x (List.mem_cons_of_mem _ hx), (List.pairwise_cons.1 (List.pairwise_cons.1 h).2).2⟩

theorem srt_grpA : ∀ (l : List Ent) (c : Ent), Asc (c :: l) → Srt (grpA c l)
  | [], c, _ => by rw [grpA]; exact List.pairwise_singleton _ _
  | e :: l, c, h => by
    rw [grpA]
    split
    · refine srt_grpA l ⟨c.row, c.cnt + e.cnt⟩ ?_
      have := asc_tail h
      exact List.pairwise_cons.2 ⟨fun x hx => (List.pairwise_cons.1 this).1 x hx, (List.pairwise_cons.1 this).2⟩
    · rename_i hne
      have h1 := (List.pairwise_cons.1 h).1
      have h2 := (List.pairwise_cons.1 h).2
      have hce : rowsCmp c.row e.row < 0 := by have := h1 e (List.mem_cons_self ..); omega
      refine List.pairwise_cons.2 ⟨grpA_ge l e c.row hce fun x hx => ?_, srt_grpA l e h2⟩
      have h3 := (List.pairwise_cons.1 h2).1 x hx
      have h4 := h1 x (List.mem_cons_of_mem _ hx)
      have h5 := rowsCmp_vals c.row x.row
      by_cases hz : rowsCmp c.row x.row = 0
      · have hr := (rowsCmp_zero _ _).1 hz
        rw [← hr, rowsCmp_anti] at h3
        omega
      · omega

theorem cntF_nz : ∀ (l : List Ent) (r : List V), cntL (l.filter nzB) r = cntL l r
  | [], _ => rfl
  | e :: l, r => by
    rw [List.filter_cons]
    split
    · rw [cntL, cntL, cntF_nz l r]
    · rename_i h
      have hz : e.cnt = 0 := by simpa [nzB] using h
      rw [cntF_nz l r, cntL, hz]
      split <;> omega

theorem small_nz (l : List Ent) : (l.all fun e => smallB e.cnt) = ((l.filter nzB).all fun e => smallB e.cnt) := by
  rw [Bool.eq_iff_iff, List.all_eq_true, List.all_eq_true]
  constructor
  · exact fun h e he => h e (List.mem_filter.1 he).1
  · intro h e he
    by_cases hz : e.cnt = 0
    · rw [hz]; decide
    · exact h e (List.mem_filter.2 ⟨he, by simpa [nzB] using hz⟩)

theorem resR_ext {a b : List Ent} (ha : Srt a) (hb : Srt b) (h : ∀ r, cntL a r = cntL b r) : resR a = resR b := by
  have e : a.filter nzB = b.filter nzB := bag_ext _ _ (ha.filter _) (hb.filter _) (fun e he => by have := (List.mem_filter.1 he).2; simpa [nzB] using this) (fun e he => by have := (List.mem_filter.1 he).2; simpa [nzB] using this) fun r => by rw [cntF_nz, cntF_nz, h r]
  rw [resR, resR, small_nz a, small_nz b, e]

end Go.AW

namespace Go.AW
variable [Draws]
attribute [local irreducible] ACalls
def srtM : Nat → List Ent → List Ent
  | 0, l => l
  | n + 1, l => if l.length < 2 then l else mrg (srtM n (l.take (l.length / 2))) (srtM n (l.drop (l.length / 2)))

theorem cntL_srtM : ∀ (n : Nat) (l : List Ent) (r : List V), cntL (srtM n l) r = cntL l r
  | 0, _, _ => rfl
  | n + 1, l, r => by
    rw [srtM]
    split
    · rfl
    · rw [cntL_mrg, cntL_srtM n, cntL_srtM n, ← cntL_append, List.take_append_drop]

theorem srt_short {l : List Ent} (h : l.length < 2) : Srt l := by
  match l, h with
  | [], _ => exact List.Pairwise.nil
  | [x], _ => exact List.pairwise_singleton _ _

theorem srt_srtM : ∀ (n : Nat) (l : List Ent), l.length ≤ n + 1 → Srt (srtM n l)
  | 0, l, h => by rw [srtM]; exact srt_short (by omega)
  | n + 1, l, h => by
    rw [srtM]
    split
    · exact srt_short (by assumption)
    · exact srt_mrg _ _ (srt_srtM n _ (by rw [List.length_take]; omega)) (srt_srtM n _ (by rw [List.length_drop]; omega))

end Go.AW

namespace Go.AW
variable [Draws]
attribute [local irreducible] ACalls
def EntB (B : Int) (e : Ent) : Prop := e.row.length ≤ 12 ∧ -B ≤ e.cnt ∧ e.cnt ≤ B

set_option maxRecDepth 20000 in
theorem ref6_mergeB_raw {P : Program} (F : F_warehouseref6_merge P) {B : Int} (hB0 : B ≤ 4000000000000) (e1 e2 : Bool) (a b : List Ent) (ha : a.length ≤ 100000) (hb : b.length ≤ 100000) (hA : ∀ e ∈ a, EntB B e) (hB : ∀ e ∈ b, EntB B e) :
    ACalls P F.id [.list e1 2 (eC a), .list e2 2 (eC b)] [] (fun r H' => r = .sl 0 (mrg a b).length 0 (mrg a b).length ∧ H' = [.arr 2 (eC (mrg a b))]) := by
  refine acalls_of_body F.has ?_
  conv => whnf
  refine ⟨fun m ρ H => ∃ (a' b' pre : List Ent) (f1 f2 : Bool), m = a'.length + b'.length ∧ mrg a b = pre ++ mrg a' b' ∧
      pre.length + a'.length + b'.length ≤ a.length + b.length ∧ (∀ e ∈ a', EntB B e) ∧ (∀ e ∈ b', EntB B e) ∧ H = [.arr 2 (eC pre)] ∧
      Sv 74 [(0, .list f1 2 (eC a')), (1, .list f2 2 (eC b')), (5, .sl 0 pre.length 0 pre.length)] ρ, a.length + b.length, [(5, 2)], ?_, ?_⟩
  · exact ⟨a, b, [], e1, e2, rfl, rfl, by simp, hA, hB, by rfl, Sv.intro rfl ⟨rfl, rfl, rfl, trivial⟩⟩
  rintro m ρ H ⟨a', b', pre, f1, f2, hm, hM, hlen, hA', hB', rfl, d, rfl⟩
  (conv => whnf); refine recA (fun hz => ?_) (fun hz => ?_)
  · replace hz : decide (((eC a').length : Int) > 0) = true := hz
    rw [eC_length] at hz
    have hzl : a'.length ≠ 0 := by simp at hz; omega
    obtain ⟨x, hx, hxd, hxm⟩ := get_drop (l := a') (k := 0) (by omega)
    obtain ⟨kx1, kx2, kx3⟩ := hA' x hxm
    rw [List.drop_zero] at hxd
    (conv => whnf); refine recF (by rw [eC_length]; simpa using hzl) ?_
    (conv => whnf); refine recA (fun hw => ?_) (fun hw => ?_)
    · replace hw : decide (((eC b').length : Int) > 0) = true := hw
      rw [eC_length] at hw
      have hwl : b'.length ≠ 0 := by simp at hw; omega
      obtain ⟨y, hy, hyd, hym⟩ := get_drop (l := b') (k := 0) (by omega)
      obtain ⟨ky1, ky2, ky3⟩ := hB' y hym
      rw [List.drop_zero] at hyd
      (conv => whnf); refine And.intro (by decide) ?_
      (conv => whnf); refine recO (eC_at hx) ?_
      (conv => whnf); refine And.intro (by decide) ?_
      (conv => whnf); refine recO (eC_at hy) ?_
      conv => whnf
      refine ⟨_, ref1_CompareRows_spec F.warehouseref1_CompareRows false false x.row y.row (by omega) _, ?_⟩
      (conv => whnf); refine recA (fun hc => ?_) (fun hc => ?_)
      · replace hc : decide (rowsCmp x.row y.row < 0) = true := hc
        simp at hc
        (conv => whnf); refine And.intro (by decide) ?_
        (conv => whnf); refine recO (eC_at hx) ?_
        have hN : mrg a b = (pre ++ [⟨x.row, x.cnt⟩]) ++ mrg (a'.drop 1) (b') := by
          rw [hM, mrgA hxd (.inr ⟨_, _, hyd, hc⟩), List.append_assoc]; rfl
        have hlN : pre.length + 1 + (a'.drop 1).length + (b').length ≤ a.length + b.length := by simp [List.length_drop]; omega
        have hmN : (a'.drop 1).length + (b').length < m := by simp [List.length_drop]; omega
        have hAN : ∀ e ∈ (a'.drop 1), EntB B e := fun e h => hA' e (by first | exact h | exact List.mem_of_mem_drop h)
        have hBN : ∀ e ∈ (b'), EntB B e := fun e h => hB' e (by first | exact h | exact List.mem_of_mem_drop h)
        have hFl : (eC pre ++ [entC ⟨x.row, x.cnt⟩]).length = (pre ++ [(⟨x.row, x.cnt⟩ : Ent)]).length := by simp [eC_length]
        (conv => whnf); refine recT (by rw [eC_length]; exact Nat.beq_refl _) ?_
        (conv => whnf); refine And.intro ⟨roomMul (by simp; omega) (by omega), roomB_le (by simp; omega), rfl, by rw [eC_length]⟩ ?_
        (conv => whnf); refine And.intro ⟨by omega, by rw [eC_length]; omega⟩ ?_
        (conv => whnf); refine And.intro (by (conv => whnf); exact ⟨⟨by omega, by rw [eC_length]; omega⟩, rfl⟩) ?_
        conv => whnf
        refine ⟨(a'.drop 1).length + (b').length, hmN, Gp.one 0 2 (eC (pre ++ [⟨x.row, x.cnt⟩])) (by rw [eC_append]; rfl) (pureEs_eC _) rfl ?_ fun ρ1 h => ⟨a'.drop 1, b', pre ++ [⟨x.row, x.cnt⟩], (f1 && (none : Option AOpd).isNone), f2, rfl, hN, by simpa using hlN, hAN, hBN, rfl, h⟩⟩
        exact ⟨pubL (tailE a'), .closed _ rfl, pubSl (k := 0) rfl rfl hFl hFl, trivial⟩
      · replace hc : decide (rowsCmp x.row y.row < 0) = false := hc
        simp at hc
        (conv => whnf); refine recA (fun hg => ?_) (fun hg => ?_)
        · replace hg : decide (rowsCmp x.row y.row > 0) = true := hg
          simp at hg
          (conv => whnf); refine And.intro (by decide) ?_
          (conv => whnf); refine recO (eC_at hy) ?_
          have hN : mrg a b = (pre ++ [⟨y.row, y.cnt⟩]) ++ mrg (a') (b'.drop 1) := by
            rw [hM, mrgB hyd (.inr ⟨_, _, hxd, hg⟩), List.append_assoc]; rfl
          have hlN : pre.length + 1 + (a').length + (b'.drop 1).length ≤ a.length + b.length := by simp [List.length_drop]; omega
          have hmN : (a').length + (b'.drop 1).length < m := by simp [List.length_drop]; omega
          have hAN : ∀ e ∈ (a'), EntB B e := fun e h => hA' e (by first | exact h | exact List.mem_of_mem_drop h)
          have hBN : ∀ e ∈ (b'.drop 1), EntB B e := fun e h => hB' e (by first | exact h | exact List.mem_of_mem_drop h)
          have hFl : (eC pre ++ [entC ⟨y.row, y.cnt⟩]).length = (pre ++ [(⟨y.row, y.cnt⟩ : Ent)]).length := by simp [eC_length]
          (conv => whnf); refine recT (by rw [eC_length]; exact Nat.beq_refl _) ?_
          (conv => whnf); refine And.intro ⟨roomMul (by simp; omega) (by omega), roomB_le (by simp; omega), rfl, by rw [eC_length]⟩ ?_
          (conv => whnf); refine And.intro ⟨by omega, by rw [eC_length]; omega⟩ ?_
          (conv => whnf); refine And.intro (by (conv => whnf); exact ⟨⟨by omega, by rw [eC_length]; omega⟩, rfl⟩) ?_
          conv => whnf
          refine ⟨(a').length + (b'.drop 1).length, hmN, Gp.one 0 2 (eC (pre ++ [⟨y.row, y.cnt⟩])) (by rw [eC_append]; rfl) (pureEs_eC _) rfl ?_ fun ρ1 h => ⟨a', b'.drop 1, pre ++ [⟨y.row, y.cnt⟩], f1, (f2 && (none : Option AOpd).isNone), rfl, hN, by simpa using hlN, hAN, hBN, rfl, h⟩⟩
          exact ⟨.closed _ rfl, pubL (tailE b'), pubSl (k := 0) rfl rfl hFl hFl, trivial⟩
        · replace hg : decide (rowsCmp x.row y.row > 0) = false := hg
          simp at hg
          (conv => whnf); refine And.intro (by decide) ?_
          (conv => whnf); refine recO (eC_at hx) ?_
          (conv => whnf); refine And.intro (by decide) ?_
          (conv => whnf); refine recO (eC_at hx) ?_
          (conv => whnf); refine And.intro (by decide) ?_
          (conv => whnf); refine recO (eC_at hy) ?_
          have em2 : IntKind.i64.wrap (x.cnt + y.cnt) = x.cnt + y.cnt := wrapI _ (by omega) (by omega)
          have hN : mrg a b = (pre ++ [⟨x.row, IntKind.i64.wrap (x.cnt + y.cnt)⟩]) ++ mrg (a'.drop 1) (b'.drop 1) := by
            rw [hM, em2, mrgC hxd hyd (by omega), List.append_assoc]; rfl
          have hlN : pre.length + 1 + (a'.drop 1).length + (b'.drop 1).length ≤ a.length + b.length := by simp [List.length_drop]; omega
          have hmN : (a'.drop 1).length + (b'.drop 1).length < m := by simp [List.length_drop]; omega
          have hAN : ∀ e ∈ (a'.drop 1), EntB B e := fun e h => hA' e (by first | exact h | exact List.mem_of_mem_drop h)
          have hBN : ∀ e ∈ (b'.drop 1), EntB B e := fun e h => hB' e (by first | exact h | exact List.mem_of_mem_drop h)
          have hFl : (eC pre ++ [entC ⟨x.row, IntKind.i64.wrap (x.cnt + y.cnt)⟩]).length = (pre ++ [(⟨x.row, IntKind.i64.wrap (x.cnt + y.cnt)⟩ : Ent)]).length := by simp [eC_length]
          (conv => whnf); refine recT (by rw [eC_length]; exact Nat.beq_refl _) ?_
          (conv => whnf); refine And.intro ⟨roomMul (by simp; omega) (by omega), roomB_le (by simp; omega), rfl, by rw [eC_length]⟩ ?_
          (conv => whnf); refine And.intro ⟨by omega, by rw [eC_length]; omega⟩ ?_
          (conv => whnf); refine And.intro ⟨by omega, by rw [eC_length]; omega⟩ ?_
          conv => whnf
          refine ⟨(a'.drop 1).length + (b'.drop 1).length, hmN, Gp.one 0 2 (eC (pre ++ [⟨x.row, IntKind.i64.wrap (x.cnt + y.cnt)⟩])) (by rw [eC_append]; rfl) (pureEs_eC _) rfl ?_ fun ρ1 h => ⟨a'.drop 1, b'.drop 1, pre ++ [⟨x.row, IntKind.i64.wrap (x.cnt + y.cnt)⟩], (f1 && (none : Option AOpd).isNone), (f2 && (none : Option AOpd).isNone), rfl, hN, by simpa using hlN, hAN, hBN, rfl, h⟩⟩
          exact ⟨pubL (tailE a'), pubL (tailE b'), pubSl (k := 0) rfl rfl hFl hFl, trivial⟩
    · replace hw : decide (((eC b').length : Int) > 0) = false := hw
      rw [eC_length] at hw
      have hwn : b' = [] := by simp at hw; exact hw
      have hwl : b'.length = 0 := by rw [hwn]; rfl
      (conv => whnf); refine And.intro (by decide) ?_
      (conv => whnf); refine recO (eC_at hx) ?_
      have hN : mrg a b = (pre ++ [⟨x.row, x.cnt⟩]) ++ mrg (a'.drop 1) (b') := by
        rw [hM, mrgA hxd (.inl hwn), List.append_assoc]; rfl
      have hlN : pre.length + 1 + (a'.drop 1).length + (b').length ≤ a.length + b.length := by simp [List.length_drop]; omega
      have hmN : (a'.drop 1).length + (b').length < m := by simp [List.length_drop]; omega
      have hAN : ∀ e ∈ (a'.drop 1), EntB B e := fun e h => hA' e (by first | exact h | exact List.mem_of_mem_drop h)
      have hBN : ∀ e ∈ (b'), EntB B e := fun e h => hB' e (by first | exact h | exact List.mem_of_mem_drop h)
      have hFl : (eC pre ++ [entC ⟨x.row, x.cnt⟩]).length = (pre ++ [(⟨x.row, x.cnt⟩ : Ent)]).length := by simp [eC_length]
      (conv => whnf); refine recT (by rw [eC_length]; exact Nat.beq_refl _) ?_
      (conv => whnf); refine And.intro ⟨roomMul (by simp; omega) (by omega), roomB_le (by simp; omega), rfl, by rw [eC_length]⟩ ?_
      (conv => whnf); refine And.intro ⟨by omega, by rw [eC_length]; omega⟩ ?_
      (conv => whnf); refine And.intro (by (conv => whnf); exact ⟨⟨by omega, by rw [eC_length]; omega⟩, rfl⟩) ?_
      conv => whnf
      refine ⟨(a'.drop 1).length + (b').length, hmN, Gp.one 0 2 (eC (pre ++ [⟨x.row, x.cnt⟩])) (by rw [eC_append]; rfl) (pureEs_eC _) rfl ?_ fun ρ1 h => ⟨a'.drop 1, b', pre ++ [⟨x.row, x.cnt⟩], (f1 && (none : Option AOpd).isNone), f2, rfl, hN, by simpa using hlN, hAN, hBN, rfl, h⟩⟩
      exact ⟨pubL (tailE a'), .closed _ rfl, pubSl (k := 0) rfl rfl hFl hFl, trivial⟩
  · replace hz : decide (((eC a').length : Int) > 0) = false := hz
    rw [eC_length] at hz
    have hzn : a' = [] := by simp at hz; exact hz
    have hzl : a'.length = 0 := by rw [hzn]; rfl
    (conv => whnf); refine recA (fun hw => ?_) (fun hw => ?_)
    · replace hw : decide (((eC b').length : Int) > 0) = true := hw
      rw [eC_length] at hw
      have hwl : b'.length ≠ 0 := by simp at hw; omega
      obtain ⟨y, hy, hyd, hym⟩ := get_drop (l := b') (k := 0) (by omega)
      obtain ⟨ky1, ky2, ky3⟩ := hB' y hym
      rw [List.drop_zero] at hyd
      (conv => whnf); refine recT (by rw [eC_length]; simpa using hzl) ?_
      (conv => whnf); refine And.intro (by decide) ?_
      (conv => whnf); refine recO (eC_at hy) ?_
      have hN : mrg a b = (pre ++ [⟨y.row, y.cnt⟩]) ++ mrg (a') (b'.drop 1) := by
        rw [hM, mrgB hyd (.inl hzn), List.append_assoc]; rfl
      have hlN : pre.length + 1 + (a').length + (b'.drop 1).length ≤ a.length + b.length := by simp [List.length_drop]; omega
      have hmN : (a').length + (b'.drop 1).length < m := by simp [List.length_drop]; omega
      have hAN : ∀ e ∈ (a'), EntB B e := fun e h => hA' e (by first | exact h | exact List.mem_of_mem_drop h)
      have hBN : ∀ e ∈ (b'.drop 1), EntB B e := fun e h => hB' e (by first | exact h | exact List.mem_of_mem_drop h)
      have hFl : (eC pre ++ [entC ⟨y.row, y.cnt⟩]).length = (pre ++ [(⟨y.row, y.cnt⟩ : Ent)]).length := by simp [eC_length]
      (conv => whnf); refine recT (by rw [eC_length]; exact Nat.beq_refl _) ?_
      (conv => whnf); refine And.intro ⟨roomMul (by simp; omega) (by omega), roomB_le (by simp; omega), rfl, by rw [eC_length]⟩ ?_
      (conv => whnf); refine And.intro ⟨by omega, by rw [eC_length]; omega⟩ ?_
      (conv => whnf); refine And.intro (by (conv => whnf); exact ⟨⟨by omega, by rw [eC_length]; omega⟩, rfl⟩) ?_
      conv => whnf
      refine ⟨(a').length + (b'.drop 1).length, hmN, Gp.one 0 2 (eC (pre ++ [⟨y.row, y.cnt⟩])) (by rw [eC_append]; rfl) (pureEs_eC _) rfl ?_ fun ρ1 h => ⟨a', b'.drop 1, pre ++ [⟨y.row, y.cnt⟩], f1, (f2 && (none : Option AOpd).isNone), rfl, hN, by simpa using hlN, hAN, hBN, rfl, h⟩⟩
      exact ⟨.closed _ rfl, pubL (tailE b'), pubSl (k := 0) rfl rfl hFl hFl, trivial⟩
    · replace hw : decide (((eC b').length : Int) > 0) = false := hw
      rw [eC_length] at hw
      have hwn : b' = [] := by simp at hw; exact hw
      have hMM : mrg a b = pre := by rw [hM, hzn, hwn, mrg_nil]; simp
      conv => whnf
      rw [hMM]
      exact ⟨rfl, rfl⟩

theorem ref6_mergeB_spec {P : Program} (F : F_warehouseref6_merge P) {B : Int} (hB0 : B ≤ 4000000000000) (e1 e2 : Bool) (a b : List Ent) (ha : a.length ≤ 100000) (hb : b.length ≤ 100000) (hA : ∀ e ∈ a, EntB B e) (hB : ∀ e ∈ b, EntB B e) (H : List AObj) :
    ACalls P F.id [.list e1 2 (eC a), .list e2 2 (eC b)] H (fun r H' => r = .list false 2 (eC (mrg a b)) ∧ H' = H) :=
  ACalls.frz1 (by simp [AVal.closed, AVal.isPure]) (ref6_mergeB_raw F hB0 e1 e2 a b ha hb hA hB) (eC_length _).symm (pureEs_eC _)

end Go.AW

namespace Go.AW
variable [Draws]
attribute [local irreducible] ACalls
def SortE (P : Program) (f g : FuncId) : Prop :=
  ∀ (l : List Ent), l ≠ [] → l.length ≤ 1000000 → (∀ e ∈ l, e.row.length ≤ 1000) → ∀ (H : List AObj) (i0 : Nat), H[i0]? = some (.arr 2 (eC l)) →
    ACalls P f [.sl i0 l.length 0 l.length, .fn g []] H (fun r H' => r = .tuple [] ∧ ∃ s : List Ent, s.Perm l ∧ Asc s ∧ H' = H.set i0 (.arr 2 (eC s)))

theorem bag_sum_1_spec {P : Program} (F : F_bag_sum_1 P) (x y : Ent) (hx : x.row.length ≤ 1000000) (H : List AObj) :
    ACalls P F.id [.agg (entC x), .agg (entC y)] H (fun r H' => r = .int .i64 (rowsCmp x.row y.row) ∧ H' = H) := by
  refine ACalls.pure rfl (acalls_of_body F.has ?_)
  (conv => whnf); refine ACalls.use (value_CompareRows_spec F.value_CompareRows false false x.row y.row hx _) ?_
  conv => whnf
  exact .closed _ rfl

set_option maxRecDepth 20000 in
theorem put1_spec {P : Program} (F : F_bag_put P) (o : AObj) (ex : Bool) (O : List Ent) (hO : O.length ≤ 100000) (row : List V) (hr : row.length ≤ 1000) (c : Int) :
    ACalls P F.id [.sl 1 O.length 0 O.length, .list ex 3 (vC row), .int .i64 c] [o, .arr 2 (eC O)]
      (fun r H' => (smallB c = false ∧ r = .tuple [.nil, .bool false] ∧ H' = [o, .arr 2 (eC O)]) ∨ (smallB c = true ∧ c = 0 ∧ r = .tuple [.sl 1 O.length 0 O.length, .bool true] ∧ H' = [o, .arr 2 (eC O)]) ∨
        (smallB c = true ∧ c ≠ 0 ∧ r = .tuple [.sl 1 (O.length + 1) 0 (O.length + 1), .bool true] ∧ H' = [o, .arr 2 (eC (O ++ [⟨row, c⟩]))])) := by
  refine acalls_of_body F.has ?_
  (conv => whnf); refine recA (fun h => ?_) (fun h => ?_)
  · simp at h
    conv => whnf
    exact .inl ⟨by rw [smallB]; simp; omega, rfl, rfl⟩
  simp at h
  (conv => whnf); refine recA (fun h2 => ?_) (fun h2 => ?_)
  · simp at h2
    conv => whnf
    exact .inl ⟨by rw [smallB]; simp; omega, rfl, rfl⟩
  simp at h2
  have hs : smallB c = true := by simp [smallB]; omega
  (conv => whnf); refine recA (fun hz => ?_) (fun hz => ?_)
  · replace hz : (!(c == 0)) = true := hz
    simp at hz
    conv => whnf
    refine ACalls.use (CloneV_spec F.slices_Clone_LValue_Value ex row (by omega) _) ?_
    (conv => whnf); refine recT (by rw [eC_length]; exact Nat.beq_refl _) ?_
    (conv => whnf); refine And.intro (⟨roomMul (by simp; omega) (by omega), roomB_le (by simp; omega), rfl, by rw [eC_length]⟩) ?_
    conv => whnf
    have hl : (eC O ++ [[AVal.list false 3 (vC row), .int .i64 c]]).length = O.length + 1 := by rw [List.length_append, eC_length]; rfl
    refine .inr (.inr ⟨hs, hz, ?_, ?_⟩)
    · exact congrArg (fun n => AVal.tuple [.sl 1 n 0 n, .bool true]) hl
    · rw [eC_append]; rfl
  · replace hz : (!(c == 0)) = false := hz
    simp at hz
    conv => whnf
    exact .inr (.inl ⟨hs, hz, rfl, rfl⟩)

set_option maxRecDepth 20000 in
theorem done1_spec {P : Program} (F : F_bag_done P) (o : AObj) (O : List Ent) :
    ACalls P F.id [.sl 1 O.length 0 O.length] [o, .arr 2 (eC O)]
      (fun r H' => H' = [o, .arr 2 (eC O)] ∧ ((4096 < O.length ∧ r = .tuple [.nil, .int .i64 2]) ∨ (O.length ≤ 4096 ∧ r = .tuple [.sl 1 O.length 0 O.length, .int .i64 0]))) := by
  refine acalls_of_body F.has ?_
  (conv => whnf); refine recT (by rw [eC_length]; exact Nat.beq_refl _) ?_
  (conv => whnf); refine recA (fun h => ?_) (fun h => ?_)
  · simp at h
    conv => whnf
    exact ⟨rfl, .inl ⟨by omega, rfl⟩⟩
  · simp at h
    conv => whnf
    exact ⟨rfl, .inr ⟨by omega, rfl⟩⟩

theorem eC_at0 {l : List Ent} {k : Nat} {x : Ent} (h : l[k]? = some x) : (eC l)[0 + k]? = some (entC x) := by rw [Nat.zero_add]; exact eC_at h

theorem grpL_drop {S : List Ent} {i : Nat} {x : Ent} (h : S[i]? = some x) : grpL (S.drop i) = grpA x (S.drop (i + 1)) := by
  obtain ⟨hi, rfl⟩ := List.getElem?_eq_some_iff.1 h
  rw [List.drop_eq_getElem_cons hi]; rfl

theorem grpA_end {S : List Ent} {k : Nat} {c : Ent} (h : S.length ≤ k ∨ ∃ y, S[k]? = some y ∧ rowsCmp c.row y.row ≠ 0) : grpA c (S.drop k) = c :: grpL (S.drop k) := by
  rcases h with h | ⟨y, hy, hn⟩
  · rw [List.drop_of_length_le h]; rfl
  · obtain ⟨hk, rfl⟩ := List.getElem?_eq_some_iff.1 hy
    rw [List.drop_eq_getElem_cons hk, grpA, if_neg hn]; rfl

theorem grpA_step {S : List Ent} {k : Nat} {c y : Ent} (hy : S[k]? = some y) (h : rowsCmp c.row y.row = 0) : grpA c (S.drop k) = grpA ⟨c.row, c.cnt + y.cnt⟩ (S.drop (k + 1)) := by
  obtain ⟨hk, rfl⟩ := List.getElem?_eq_some_iff.1 hy
  rw [List.drop_eq_getElem_cons hk, grpA, if_pos h]

theorem cntL_perm {a b : List Ent} (h : a.Perm b) : ∀ r, cntL a r = cntL b r := by
  induction h with
  | nil => intro r; rfl
  | cons x _ ih => intro r; rw [cntL, cntL, ih]
  | swap x y l => intro r; rw [cntL, cntL, cntL, cntL]; split <;> split <;> omega
  | trans _ _ h1 h2 => intro r; rw [h1, h2]

theorem SortE.all {P : Program} {F : F_slices_SortFunc_LEntry_Entry P} {g : FuncId} (hS : SortE P F.id g) (l : List Ent) (hl : l.length ≤ 1000000) (hr : ∀ e ∈ l, e.row.length ≤ 1000) (H : List AObj) (i0 : Nat) (ho : H[i0]? = some (.arr 2 (eC l))) :
    ACalls P F.id [.sl i0 l.length 0 l.length, .fn g []] H (fun r H' => r = .tuple [] ∧ ∃ s : List Ent, s.Perm l ∧ Asc s ∧ H' = H.set i0 (.arr 2 (eC s))) := by
  cases l with
  | nil =>
    refine (sort0_spec F i0 g H ho).mono ?_
    rintro r H' ⟨rfl, rfl⟩
    refine ⟨rfl, [], List.Perm.refl _, List.Pairwise.nil, ?_⟩
    obtain ⟨h, e⟩ := List.getElem?_eq_some_iff.1 ho
    rw [← e, List.set_getElem_self]
  | cons x l => exact hS (x :: l) (by simp) hl hr H i0 ho

def sumI (S : List Ent) (n : Nat) (m : Nat) (ρ : List AVal) (H : List AObj) : Prop :=
  (∃ (i : Nat) (pre : List Ent), i + m = n ∧ grpL S = pre ++ grpL (S.drop i) ∧ (pre.all fun e => smallB e.cnt) = true ∧ pre.length ≤ i ∧ H = [.arr 2 (eC S), .arr 2 (eC (pre.filter nzB))] ∧
    Sv 66 [(0, .sl 0 n 0 n), (4, .sl 1 (pre.filter nzB).length 0 (pre.filter nzB).length), (5, .bool true), (6, .int .i64 i)] ρ) ∨
  (∃ i : Nat, ((grpL S).all fun e => smallB e.cnt) = false ∧ i ≤ n ∧ H = [.arr 2 (eC S)] ∧ Sv 66 [(0, .sl 0 n 0 n), (4, .nil), (5, .bool false), (6, .int .i64 i)] ρ)

set_option maxHeartbeats 2000000 in
set_option maxRecDepth 20000 in
theorem bag_sum_spec {P : Program} (F : F_bag_sum P) (hS : SortE P F.slices_SortFunc_LEntry_Entry.id F.bag_sum_1.id) (ex : Bool) (l : List Ent) (hl : l.length ≤ 100000) (hE : ∀ e ∈ l, EntOk e) (H : List AObj) :
    ACalls P F.id [.list ex 2 (eC l)] H (fun r H' => r = resR (srtM l.length l) ∧ H' = H) := by
  have hN : ∀ S : List Ent, S.Perm l → Asc S → resR (srtM l.length l) = resR (grpL S) ∧ (∀ e ∈ S, EntOk e) ∧ S.length = l.length := fun S hp hs =>
    ⟨resR_ext (srt_srtM _ _ (by omega)) (by cases S with | nil => exact List.Pairwise.nil | cons x S => exact srt_grpA S x hs) fun r => by rw [cntL_srtM, cntL_grpL, cntL_perm hp], fun e h => hE e (hp.mem_iff.1 h), hp.length_eq⟩
  refine ACalls.pure (by simp [AVal.closed, AVal.isPure]) (acalls_of_body F.has ?_)
  (conv => whnf); refine ACalls.mono (CloneE_raw F.slices_Clone_LEntry_Entry ex l (by omega)) ?_
  rintro r H1 (⟨rfl, h0, rfl⟩ | ⟨rfl, rfl⟩)
  · subst h0
    (conv => whnf); refine ACalls.use (sort0n_spec F.slices_SortFunc_LEntry_Entry _ _) ?_
    conv => whnf
    refine ⟨fun m ρ H1 => H1 = [.arr 2 []] ∧ Sv 66 [(0, .nil), (4, .sl 0 0 0 0), (5, .bool true), (6, .int .i64 0)] ρ, 0, [(4, 2)], ?_, ?_⟩
    · exact ⟨rfl, Sv.intro rfl ⟨rfl, rfl, rfl, rfl, trivial⟩⟩
    rintro m ρ H1 ⟨rfl, d, rfl⟩
    conv => whnf
    refine (done_spec F.bag_done []).mono ?_
    rintro r H1 ⟨rfl, ⟨h, rfl⟩ | ⟨h, rfl⟩⟩
    · cases h
    · conv => whnf
      exact pub2 (pubF rfl rfl rfl rfl) (.closed _ rfl)
  · (conv => whnf); refine ACalls.mono (hS.all l (by omega) (fun e h => by have := (hE e h).1; omega) _ 0 rfl) ?_
    rintro r H1 ⟨rfl, S, hp, hs, rfl⟩
    obtain ⟨hR, hA, hSl⟩ := hN S hp hs
    replace hA : ∀ e ∈ S, EntOk e := hA
    clear hN hE
    have hl2 : S.length ≤ 100000 := by omega
    rw [hR, ← hSl]
    clear hR hSl hl
    conv => whnf
    refine ⟨sumI S S.length, S.length, [(4, 2)], ?_, ?_⟩
    · exact .inl ⟨0, [], by omega, rfl, rfl, Nat.le_refl _, rfl, Sv.intro rfl ⟨rfl, rfl, rfl, rfl, trivial⟩⟩
    rintro m ρ H1 (⟨i, pre, hm, hG, hP, hpl, rfl, d, rfl⟩ | ⟨i, hbad, hi, rfl, d, rfl⟩)
    · have hO : (pre.filter nzB).length ≤ pre.length := List.length_filter_le _ _
      (conv => whnf); refine recT (by rw [eC_length]; exact Nat.beq_refl _) ?_
      (conv => whnf); refine recA (fun hlt => ?_) (fun hlt => ?_)
      · simp at hlt
        obtain ⟨x, hx⟩ : ∃ x, S[i]? = some x := ⟨S[i], List.getElem?_eq_getElem hlt⟩
        obtain ⟨hx1, hx2, hx3⟩ := hA x (List.mem_of_getElem? hx)
        conv => whnf
        refine ⟨fun m1 ρ1 H2 => ∃ (k : Nat) (acc : Int), k + m1 = S.length ∧ ((k = i ∧ acc = 0) ∨ (i < k ∧ grpL (S.drop i) = grpA ⟨x.row, acc⟩ (S.drop k))) ∧ -(65536 * ((k : Int) - i)) ≤ acc ∧ acc ≤ 65536 * ((k : Int) - i) ∧
          H2 = [.arr 2 (eC S), .arr 2 (eC (pre.filter nzB))] ∧ Sv 66 [(0, .sl 0 S.length 0 S.length), (4, .sl 1 (pre.filter nzB).length 0 (pre.filter nzB).length), (6, .int .i64 i), (7, .int .i64 acc), (8, .int .i64 k)] ρ1, S.length - i, [], ?_, ?_⟩
        · exact ⟨i, 0, by omega, .inl ⟨rfl, rfl⟩, by omega, by omega, rfl, Sv.intro rfl ⟨rfl, rfl, rfl, rfl, rfl, trivial⟩⟩
        rintro m1 ρ1 H2 ⟨k, acc, hk, hc, hb1, hb2, rfl, d1, rfl⟩
        (conv => whnf); refine recT (by rw [eC_length]; exact Nat.beq_refl _) ?_
        (conv => whnf); refine recA (fun hkl => ?_) (fun hkl => ?_)
        · simp at hkl
          obtain ⟨y, hy⟩ : ∃ y, S[k]? = some y := ⟨S[k], List.getElem?_eq_getElem hkl⟩
          obtain ⟨hy1, hy2, hy3⟩ := hA y (List.mem_of_getElem? hy)
          (conv => whnf); refine recT (by rw [eC_length]; exact Nat.beq_refl _) ?_
          (conv => whnf); refine And.intro (by omega) ?_
          (conv => whnf); refine recT (by rw [eC_length]; exact Nat.beq_refl _) ?_
          (conv => whnf); refine recO (eC_at0 hx) ?_
          (conv => whnf); refine recT (by rw [eC_length]; exact Nat.beq_refl _) ?_
          (conv => whnf); refine And.intro (by omega) ?_
          (conv => whnf); refine recT (by rw [eC_length]; exact Nat.beq_refl _) ?_
          (conv => whnf); refine recO (eC_at0 hy) ?_
          (conv => whnf); refine ⟨_, value_CompareRows_spec F.value_CompareRows false false x.row y.row (by omega) _, ?_⟩
          (conv => whnf); refine recA (fun hc2 => ?_) (fun hc2 => ?_)
          · replace hc2 : (rowsCmp x.row y.row == 0) = true := hc2
            have hc3 : rowsCmp x.row y.row = 0 := by simpa using hc2
            (conv => whnf); refine recT (by rw [eC_length]; exact Nat.beq_refl _) ?_
            (conv => whnf); refine And.intro (by omega) ?_
            (conv => whnf); refine recT (by rw [eC_length]; exact Nat.beq_refl _) ?_
            (conv => whnf); refine recO (eC_at0 hy) ?_
            conv => whnf
            have ew := wrapI (acc + y.cnt) (by omega) (by omega)
            refine ⟨m1 - 1, by omega, Gp.two 0 1 (by decide) 2 2 (eC S) (eC (pre.filter nzB)) rfl rfl (pureEs_eC _) (pureEs_eC _) rfl ?_ fun ρ2 h => ⟨k + 1, acc + y.cnt, by omega, .inr ⟨by omega, ?_⟩, by omega, by omega, rfl, h⟩⟩
            · exact ⟨pubSl (k := 0) rfl rfl rfl rfl, pubSl (k := 1) rfl rfl rfl rfl, .closed _ rfl, pub_int ew, pub_int (wrapI _ (by omega) (by omega)), trivial⟩
            · rcases hc with ⟨h1, h2⟩ | ⟨h1, h2⟩
              · subst h1 h2
                rw [hx] at hy
                cases hy
                rw [grpL_drop hx, Int.zero_add]
              · exact h2.trans (grpA_step (c := ⟨x.row, acc⟩) hy hc3)
          · replace hc2 : (rowsCmp x.row y.row == 0) = false := hc2
            have hc3 : rowsCmp x.row y.row ≠ 0 := by simpa using hc2
            have hik : i < k ∧ grpL (S.drop i) = grpA ⟨x.row, acc⟩ (S.drop k) := by
              rcases hc with ⟨h1, h2⟩ | h
              · subst h1
                rw [hx] at hy
                cases hy
                exact absurd ((rowsCmp_zero _ _).2 rfl) hc3
              · exact h
            have hend := hik.2.trans (grpA_end (.inr ⟨y, hy, hc3⟩))
            conv => whnf
            have hN : grpL S = (pre ++ [⟨x.row, acc⟩]) ++ grpL (S.drop k) := by rw [hG, hend, List.append_assoc]; rfl
            (conv => whnf); refine recT (by rw [eC_length]; exact Nat.beq_refl _) ?_
            (conv => whnf); refine And.intro (by omega) ?_
            (conv => whnf); refine recT (by rw [eC_length]; exact Nat.beq_refl _) ?_
            (conv => whnf); refine recO (eC_at0 hx) ?_
            (conv => whnf); refine ACalls.mono (put1_spec F.bag_put (.arr 2 (eC S)) false (pre.filter nzB) (by omega) x.row (by omega) acc) ?_
            rintro r H1 (⟨hsm, rfl, rfl⟩ | ⟨hsm, hz0, rfl, rfl⟩ | ⟨hsm, hz0, rfl, rfl⟩)
            · conv => whnf
              refine ⟨m - 1, by omega, Gp.one 0 2 (eC S) rfl (pureEs_eC _) rfl ?_ fun ρ2 h => .inr ⟨k, by rw [hN]; simp [hsm], by omega, rfl, h⟩⟩
              exact ⟨pubSl (k := 0) rfl rfl rfl rfl, .closed _ rfl, .closed _ rfl, .closed _ rfl, trivial⟩
            · have hPN : ((pre ++ [(⟨x.row, acc⟩ : Ent)]).all fun e => smallB e.cnt) = true := by rw [List.all_append, hP]; simp [hsm]
              have hF : (pre ++ [(⟨x.row, acc⟩ : Ent)]).filter nzB = pre.filter nzB := by rw [List.filter_append]; simp [nzB, hz0]
              conv => whnf
              refine ⟨S.length - k, by omega, Gp.two 0 1 (by decide) 2 2 (eC S) (eC ((pre ++ [(⟨x.row, acc⟩ : Ent)]).filter nzB)) rfl (by rw [hF]; rfl) (pureEs_eC _) (pureEs_eC _) rfl ?_ fun ρ2 h => .inl ⟨k, pre ++ [⟨x.row, acc⟩], by omega, hN, hPN, by simp; omega, rfl, h⟩⟩
              exact ⟨pubSl (k := 0) rfl rfl rfl rfl, by rw [hF]; exact pubSl (k := 1) rfl rfl rfl rfl, .closed _ rfl, .closed _ rfl, trivial⟩
            · have hPN : ((pre ++ [(⟨x.row, acc⟩ : Ent)]).all fun e => smallB e.cnt) = true := by rw [List.all_append, hP]; simp [hsm]
              have hF : (pre ++ [(⟨x.row, acc⟩ : Ent)]).filter nzB = pre.filter nzB ++ [⟨x.row, acc⟩] := by rw [List.filter_append]; simp [nzB, hz0]
              have hFl : ((pre ++ [(⟨x.row, acc⟩ : Ent)]).filter nzB).length = (pre.filter nzB).length + 1 := by rw [hF, List.length_append]; rfl
              conv => whnf
              refine ⟨S.length - k, by omega, Gp.two 0 1 (by decide) 2 2 (eC S) (eC ((pre ++ [(⟨x.row, acc⟩ : Ent)]).filter nzB)) rfl (by rw [hF]; rfl) (pureEs_eC _) (pureEs_eC _) rfl ?_ fun ρ2 h => .inl ⟨k, pre ++ [⟨x.row, acc⟩], by omega, hN, hPN, by simp; omega, rfl, h⟩⟩
              exact ⟨pubSl (k := 0) rfl rfl rfl rfl, pubSl (k := 1) rfl rfl hFl.symm hFl.symm, .closed _ rfl, .closed _ rfl, trivial⟩
        · simp at hkl
          have hik : i < k ∧ grpL (S.drop i) = grpA ⟨x.row, acc⟩ (S.drop k) := by
            rcases hc with ⟨h1, h2⟩ | h
            · omega
            · exact h
          have hend := hik.2.trans (grpA_end (.inl hkl))
          conv => whnf
          have hN : grpL S = (pre ++ [⟨x.row, acc⟩]) ++ grpL (S.drop k) := by rw [hG, hend, List.append_assoc]; rfl
          (conv => whnf); refine recT (by rw [eC_length]; exact Nat.beq_refl _) ?_
          (conv => whnf); refine And.intro (by omega) ?_
          (conv => whnf); refine recT (by rw [eC_length]; exact Nat.beq_refl _) ?_
          (conv => whnf); refine recO (eC_at0 hx) ?_
          (conv => whnf); refine ACalls.mono (put1_spec F.bag_put (.arr 2 (eC S)) false (pre.filter nzB) (by omega) x.row (by omega) acc) ?_
          rintro r H1 (⟨hsm, rfl, rfl⟩ | ⟨hsm, hz0, rfl, rfl⟩ | ⟨hsm, hz0, rfl, rfl⟩)
          · conv => whnf
            refine ⟨m - 1, by omega, Gp.one 0 2 (eC S) rfl (pureEs_eC _) rfl ?_ fun ρ2 h => .inr ⟨k, by rw [hN]; simp [hsm], by omega, rfl, h⟩⟩
            exact ⟨pubSl (k := 0) rfl rfl rfl rfl, .closed _ rfl, .closed _ rfl, .closed _ rfl, trivial⟩
          · have hPN : ((pre ++ [(⟨x.row, acc⟩ : Ent)]).all fun e => smallB e.cnt) = true := by rw [List.all_append, hP]; simp [hsm]
            have hF : (pre ++ [(⟨x.row, acc⟩ : Ent)]).filter nzB = pre.filter nzB := by rw [List.filter_append]; simp [nzB, hz0]
            conv => whnf
            refine ⟨S.length - k, by omega, Gp.two 0 1 (by decide) 2 2 (eC S) (eC ((pre ++ [(⟨x.row, acc⟩ : Ent)]).filter nzB)) rfl (by rw [hF]; rfl) (pureEs_eC _) (pureEs_eC _) rfl ?_ fun ρ2 h => .inl ⟨k, pre ++ [⟨x.row, acc⟩], by omega, hN, hPN, by simp; omega, rfl, h⟩⟩
            exact ⟨pubSl (k := 0) rfl rfl rfl rfl, by rw [hF]; exact pubSl (k := 1) rfl rfl rfl rfl, .closed _ rfl, .closed _ rfl, trivial⟩
          · have hPN : ((pre ++ [(⟨x.row, acc⟩ : Ent)]).all fun e => smallB e.cnt) = true := by rw [List.all_append, hP]; simp [hsm]
            have hF : (pre ++ [(⟨x.row, acc⟩ : Ent)]).filter nzB = pre.filter nzB ++ [⟨x.row, acc⟩] := by rw [List.filter_append]; simp [nzB, hz0]
            have hFl : ((pre ++ [(⟨x.row, acc⟩ : Ent)]).filter nzB).length = (pre.filter nzB).length + 1 := by rw [hF, List.length_append]; rfl
            conv => whnf
            refine ⟨S.length - k, by omega, Gp.two 0 1 (by decide) 2 2 (eC S) (eC ((pre ++ [(⟨x.row, acc⟩ : Ent)]).filter nzB)) rfl (by rw [hF]; rfl) (pureEs_eC _) (pureEs_eC _) rfl ?_ fun ρ2 h => .inl ⟨k, pre ++ [⟨x.row, acc⟩], by omega, hN, hPN, by simp; omega, rfl, h⟩⟩
            exact ⟨pubSl (k := 0) rfl rfl rfl rfl, pubSl (k := 1) rfl rfl hFl.symm hFl.symm, .closed _ rfl, .closed _ rfl, trivial⟩
      · simp at hlt
        have hi : S.drop i = [] := List.drop_of_length_le hlt
        rw [hi] at hG
        have hGG : grpL S = pre := by rw [hG]; simp [grpL]
        conv => whnf
        refine (done1_spec F.bag_done _ (pre.filter nzB)).mono ?_
        rintro r H1 ⟨rfl, ⟨h, rfl⟩ | ⟨h, rfl⟩⟩
        · conv => whnf
          rw [hGG, resR, if_neg (by omega)]
          exact pub2 (.closed _ rfl) (.closed _ rfl)
        · conv => whnf
          rw [hGG, resR, if_pos ⟨hP, h⟩]
          exact pub2 (pubF rfl (eC_length _).symm (eC_length _).symm (pureEs_eC _)) (.closed _ rfl)
    · (conv => whnf); refine recT (by rw [eC_length]; exact Nat.beq_refl _) ?_
      (conv => whnf); refine recA (fun hlt => ?_) (fun hlt => ?_)
      all_goals
        conv => whnf
        rw [resR_bad _ hbad]
        exact pub2 (.closed _ rfl) (.closed _ rfl)

end Go.AW

namespace Go.AW
variable [Draws]
attribute [local irreducible] ACalls
theorem mrg_bnd {A B : Int} (hA0 : 0 ≤ A) (hB0 : 0 ≤ B) : ∀ (a b : List Ent), (∀ e ∈ a, EntB A e) → (∀ e ∈ b, EntB B e) → ∀ e ∈ mrg a b, EntB (A + B) e
  | [], b, ha, hb, e, he => by
    rw [mrg_nil] at he
    obtain ⟨h1, h2, h3⟩ := hb e he
    exact ⟨h1, by omega, by omega⟩
  | x :: a, [], ha, hb, e, he => by
    rw [mrg_nil2] at he
    obtain ⟨h1, h2, h3⟩ := ha e he
    exact ⟨h1, by omega, by omega⟩
  | x :: a, y :: b, ha, hb, e, he => by
    obtain ⟨h1, h2, h3⟩ := ha x (List.mem_cons_self ..)
    obtain ⟨k1, k2, k3⟩ := hb y (List.mem_cons_self ..)
    have ha' : ∀ e ∈ a, EntB A e := fun e h => ha e (List.mem_cons_of_mem _ h)
    have hb' : ∀ e ∈ b, EntB B e := fun e h => hb e (List.mem_cons_of_mem _ h)
    rw [mrg_cons] at he
    split at he
    · rcases List.mem_cons.1 he with rfl | he
      · exact ⟨h1, by omega, by omega⟩
      · exact mrg_bnd hA0 hB0 a (y :: b) ha' hb e he
    split at he
    · rcases List.mem_cons.1 he with rfl | he
      · exact ⟨k1, by omega, by omega⟩
      · exact mrg_bnd hA0 hB0 (x :: a) b ha hb' e he
    · rcases List.mem_cons.1 he with rfl | he
      · exact ⟨h1, by simp only []; omega, by simp only []; omega⟩
      · exact mrg_bnd hA0 hB0 a b ha' hb' e he
termination_by a b => a.length + b.length

theorem entB_mono {A B : Int} (h : A ≤ B) {e : Ent} (he : EntB A e) : EntB B e := ⟨he.1, by have := he.2.1; omega, by have := he.2.2; omega⟩

theorem srtM_bnd : ∀ (n : Nat) (l : List Ent), (∀ e ∈ l, EntOk e) → ∀ e ∈ srtM n l, EntB (65536 * (l.length : Int)) e
  | 0, l, h, e, he => by
    rw [srtM] at he
    have := List.length_pos_of_mem he
    exact entB_mono (A := 65536) (by omega) (h e he)
  | n + 1, l, h, e, he => by
    rw [srtM] at he
    split at he
    · have := List.length_pos_of_mem he
      exact entB_mono (A := 65536) (by omega) (h e he)
    · refine entB_mono ?_ (mrg_bnd (by omega) (by omega) _ _ (srtM_bnd n _ fun e h1 => h e (List.mem_of_mem_take h1)) (srtM_bnd n _ fun e h1 => h e (List.mem_of_mem_drop h1)) e he)
      rw [List.length_take, List.length_drop]; omega

theorem srtM_length : ∀ (n : Nat) (l : List Ent), (srtM n l).length ≤ l.length
  | 0, l => Nat.le_refl _
  | n + 1, l => by
    rw [srtM]
    split
    · exact Nat.le_refl _
    · have h := mrg_length (srtM n (l.take (l.length / 2))) (srtM n (l.drop (l.length / 2)))
      have h1 := srtM_length n (l.take (l.length / 2))
      have h2 := srtM_length n (l.drop (l.length / 2))
      rw [List.length_take] at h1
      rw [List.length_drop] at h2
      omega

set_option maxRecDepth 20000 in
theorem ref6_sorted_spec {P : Program} (F : F_warehouseref6_sorted P) : ∀ (n : Nat) (ex : Bool) (l : List Ent), l.length ≤ n → l.length ≤ 100000 → (∀ e ∈ l, EntOk e) → ∀ (H : List AObj),
    ACalls P F.id [.list ex 2 (eC l)] H (fun r H' => r = .list false 2 (eC (srtM n l)) ∧ H' = H) := by
  intro n
  induction n with
  | zero =>
    intro ex l hl _ hE H
    have : l = [] := List.length_eq_zero_iff.1 (by omega)
    subst this
    refine ACalls.pure rfl (acalls_of_body F.has ?_)
    (conv => whnf); refine And.intro (by decide) ?_
    conv => whnf
    exact pubF rfl rfl rfl rfl
  | succ n ih =>
    intro ex l hl hl2 hE H
    refine ACalls.pure (by simp [AVal.closed, AVal.isPure]) (acalls_of_body F.has ?_)
    (conv => whnf); refine recA (fun h => ?_) (fun h => ?_)
    · simp [eC_length] at h
      (conv => whnf); refine And.intro (⟨roomMul (by simp [eC_length]; omega) (by omega), roomB_le (by simp [eC_length]; omega)⟩) ?_
      conv => whnf
      rw [srtM, if_pos (by omega)]
      exact pubF rfl rfl rfl (pureEs_eC _)
    · simp [eC_length] at h
      have ew : IntKind.i64.wrap (((eC l).length : Int).tdiv 2) = ((l.length / 2 : Nat) : Int) := by
        rw [eC_length, Int.tdiv_eq_ediv_of_nonneg (by omega), wrapI _ (by omega) (by omega)]; omega
      have es1 : List.drop 0 (List.take (IntKind.i64.wrap (((eC l).length : Int).tdiv 2)).toNat (eC l)) = eC (l.take (l.length / 2)) := by rw [ew, Int.toNat_natCast, List.drop_zero, eC, eC, List.map_take]
      have es2 : List.drop (IntKind.i64.wrap (((eC l).length : Int).tdiv 2)).toNat (List.take (eC l).length (eC l)) = eC (l.drop (l.length / 2)) := by rw [ew, Int.toNat_natCast, List.take_length, eC, eC, List.map_drop]
      (conv => whnf); refine And.intro (by decide) ?_
      (conv => whnf); refine And.intro (⟨by rw [ew]; omega, by rw [ew, eC_length]; omega⟩) ?_
      conv => whnf
      rw [es1]
      (conv => whnf); refine ⟨_, ih _ (l.take (l.length / 2)) (by rw [List.length_take]; omega) (by rw [List.length_take]; omega) (fun e h => hE e (List.mem_of_mem_take h)) _, ?_⟩
      (conv => whnf); refine And.intro (by decide) ?_
      (conv => whnf); refine And.intro (⟨by rw [ew]; omega, by rw [ew, eC_length]; omega⟩) ?_
      conv => whnf
      rw [es2]
      (conv => whnf); refine ⟨_, ih _ (l.drop (l.length / 2)) (by rw [List.length_drop]; omega) (by rw [List.length_drop]; omega) (fun e h => hE e (List.mem_of_mem_drop h)) _, ?_⟩
      have b1 := srtM_bnd n (l.take (l.length / 2)) fun e h => hE e (List.mem_of_mem_take h)
      have b2 := srtM_bnd n (l.drop (l.length / 2)) fun e h => hE e (List.mem_of_mem_drop h)
      have c1 := srtM_length n (l.take (l.length / 2))
      have c2 := srtM_length n (l.drop (l.length / 2))
      rw [List.length_take] at b1 c1
      rw [List.length_drop] at b2 c2
      (conv => whnf); refine ⟨_, ref6_mergeB_spec F.warehouseref6_merge (B := 65536 * 100000) (by decide) false false _ _ (by omega) (by omega) (fun e h => entB_mono (by omega) (b1 e h)) (fun e h => entB_mono (by omega) (b2 e h)) _, ?_⟩
      conv => whnf
      rw [srtM, if_neg (by omega)]
      exact .closed _ (by simp [AVal.closed, AVal.isPure])

set_option maxRecDepth 20000 in
theorem ref6_Sum_spec {P : Program} (F : F_warehouseref6_Sum P) (ex : Bool) (l : List Ent) (hl : l.length ≤ 100000) (hE : ∀ e ∈ l, EntOk e) (H : List AObj) :
    ACalls P F.id [.list ex 2 (eC l)] H (fun r H' => r = resR (srtM l.length l) ∧ H' = H) := by
  refine ACalls.pure (by simp [AVal.closed, AVal.isPure]) (acalls_of_body F.has ?_)
  (conv => whnf); refine ACalls.use (ref6_sorted_spec F.warehouseref6_sorted l.length ex l (Nat.le_refl _) hl hE _) ?_
  have hb := srtM_bnd l.length l hE
  have hc := srtM_length l.length l
  (conv => whnf); refine ACalls.use (ref6_result_spec F.warehouseref6_result false (srtM l.length l) (by omega) (fun e h => by have := (hb e h).1; omega) _) ?_
  rcases resR_cases (srtM l.length l) with h | h
  all_goals
    rw [h]
    conv => whnf
    exact pub2 (.closed _ rfl) (.closed _ rfl)

def frmE : List Ent → Int
  | [] => 0
  | e :: l => if fitB e ≠ 0 then fitB e else frmE l

def norR (l : List Ent) : AVal := if frmE l ≠ 0 then .tuple [.nil, .int .i64 (frmE l)] else resR (srtM l.length l)

theorem frmE_ok : ∀ (l : List Ent), frmE l = 0 → ∀ e ∈ l, fitB e = 0
  | [], _, e, he => by cases he
  | x :: l, h, e, he => by
    rw [frmE] at h
    by_cases hx : fitB x = 0
    · rw [if_neg (by simp [hx])] at h
      rcases List.mem_cons.1 he with rfl | he
      · exact hx
      · exact frmE_ok l h e he
    · rw [if_pos hx] at h; exact absurd h hx

theorem fit_ok {e : Ent} (h : fitB e = 0) : EntOk e := by
  obtain ⟨h1, h2, h3, _⟩ := fitB_zero e h
  exact ⟨h1, h2, h3⟩

set_option maxRecDepth 20000 in
theorem bag_Normalize_spec {P : Program} (F : F_bag_Normalize P) (hS : SortE P F.bag_sum.slices_SortFunc_LEntry_Entry.id F.bag_sum.bag_sum_1.id) (ex : Bool) (l : List Ent) (hl : l.length ≤ 100000) (H : List AObj) :
    ACalls P F.id [.list ex 2 (eC l)] H (fun r H' => r = norR l ∧ H' = H) := by
  refine ACalls.pure (by simp [AVal.closed, AVal.isPure]) (acalls_of_body F.has ?_)
  conv => whnf
  refine ⟨fun m ρ H1 => ∃ k : Nat, k + m = l.length ∧ frmE l = frmE (l.drop k) ∧ H1 = [] ∧ Sv 23 [(0, .list ex 2 (eC l)), (7, .list ex 2 (eC l)), (8, .int .i64 l.length), (9, .int .i64 k)] ρ, l.length, [], ?_, ?_⟩
  · exact ⟨0, by omega, rfl, rfl, Sv.intro rfl ⟨rfl, rfl, intEq (by rw [eC_length]), rfl, trivial⟩⟩
  rintro m ρ H1 ⟨k, hk, hr, rfl, d, rfl⟩
  (conv => whnf); refine recA (fun hlt => ?_) (fun hlt => ?_)
  · simp at hlt
    have hx : l[k]? = some l[k] := List.getElem?_eq_getElem hlt
    rw [List.drop_eq_getElem_cons hlt, frmE] at hr
    (conv => whnf); refine And.intro (by omega) ?_
    (conv => whnf); refine recO (eC_at hx) ?_
    (conv => whnf); refine ACalls.use (formed_spec F.bag_formed l[k] _) ?_
    (conv => whnf); refine recA (fun h1 => ?_) (fun h1 => ?_)
    · replace h1 : (!(fitB l[k] == 0)) = true := h1
      have h2 : fitB l[k] ≠ 0 := by simpa using h1
      rw [if_pos h2] at hr
      conv => whnf
      rw [norR, hr, if_pos h2]
      exact pub2 (.closed _ rfl) (.closed _ rfl)
    · replace h1 : (!(fitB l[k] == 0)) = false := h1
      have h2 : fitB l[k] = 0 := by simpa using h1
      rw [if_neg (by simp [h2])] at hr
      conv => whnf
      refine ⟨m - 1, by omega, Gp.none rfl ?_ fun ρ1 h => ⟨k + 1, by omega, hr, rfl, h⟩⟩
      exact ⟨.closed (.list ex 2 (eC l)) rfl, .closed (.list ex 2 (eC l)) rfl, .closed _ rfl, pub_int (wrapI _ (by omega) (by omega)), trivial⟩
  · simp at hlt
    rw [List.drop_of_length_le (by omega), frmE] at hr
    (conv => whnf); refine ACalls.use (bag_sum_spec F.bag_sum hS ex l hl (fun e h => fit_ok (frmE_ok l hr e h)) _) ?_
    rw [norR, if_neg (by simp [hr])]
    rcases resR_cases (srtM l.length l) with h | h
    all_goals
      rw [h]
      conv => whnf
      exact pub2 (.closed _ rfl) (.closed _ rfl)

end Go.AW

namespace Go.AW
variable [Draws]
attribute [local irreducible] ACalls
def tabB (b : List Ent) : Bool := (bagB b == 0) && b.all posE

def negE (e : Ent) : Bool := decide (e.cnt < 0)

theorem bag_IsTable_1_spec {P : Program} (F : F_bag_IsTable_1 P) (e : Ent) (H : List AObj) :
    ACalls P F.id [.agg (entC e)] H (fun r H' => r = .bool (negE e) ∧ H' = H) := by
  refine ACalls.pure (by simp [AVal.closed, entC, AVal.isPure]) (acalls_of_body F.has ?_)
  conv => whnf
  exact .closed _ rfl

theorem ContainsE_spec {P : Program} (F : F_slices_ContainsFunc_LEntry_Entry P) (g : FuncId) (p : Ent → Bool) (hg : ∀ c H, ACalls P g [.agg (entC c)] H (fun r H' => r = .bool (p c) ∧ H' = H)) (ex : Bool) (l : List Ent) (hl : l.length ≤ 1000000) (H : List AObj) :
    ACalls P F.id [.list ex 2 (eC l), .fn g []] H (fun r H' => r = .bool (l.any p) ∧ H' = H) := by
  refine ACalls.pure (by simp [AVal.closed, AVal.isPure]) (acalls_of_body F.has ?_)
  (conv => whnf); refine ACalls.use (IndexFuncE_spec F.slices_IndexFunc_LEntry_Entry g [] p _ l (fun c _ => hg c _) ex hl) ?_
  conv => whnf
  refine pubB ?_
  have h := idxOf_any p l 0 (by omega)
  rw [Bool.eq_iff_iff, ← h]; simp

theorem neg_any {b : List Ent} (h : bagB b = 0) : (!(b.any negE)) = b.all posE := by
  have hn := fun e he => (((bagB_iff b).1 h).2.1 e he).2
  rw [Bool.eq_iff_iff]
  simp only [Bool.not_eq_true', List.any_eq_false, List.all_eq_true, negE, posE, decide_eq_true_eq]
  constructor
  · intro h1 e he
    have := h1 e he
    have := hn e he
    omega
  · intro h1 e he
    have := h1 e he
    omega

set_option maxRecDepth 20000 in
theorem bag_IsTable_spec {P : Program} (F : F_bag_IsTable P) (ex : Bool) (b : List Ent) (H : List AObj) :
    ACalls P F.id [.list ex 2 (eC b)] H (fun r H' => r = .bool (tabB b) ∧ H' = H) := by
  refine ACalls.pure (by simp [AVal.closed, AVal.isPure]) (acalls_of_body F.has ?_)
  (conv => whnf); refine ACalls.use (bag_Validate_spec F.bag_Validate ex b _) ?_
  (conv => whnf); refine recA (fun h => ?_) (fun h => ?_)
  · replace h : (bagB b == 0) = true := h
    have h1 : bagB b = 0 := by simpa using h
    (conv => whnf); refine ACalls.use (ContainsE_spec F.slices_ContainsFunc_LEntry_Entry F.bag_IsTable_1.id negE (fun c H => bag_IsTable_1_spec F.bag_IsTable_1 c H) ex b (bagB_le h1) _) ?_
    conv => whnf
    exact pubB (by rw [neg_any h1, tabB, h, Bool.true_and])
  · replace h : (bagB b == 0) = false := h
    conv => whnf
    exact pubB (by rw [tabB, h, Bool.false_and])

end Go.AW

namespace Go.AW
variable [Draws]
attribute [local irreducible] ACalls
abbrev SortL (P : Program) (F : F_bag_Normalize P) : Prop := SortE P F.bag_sum.slices_SortFunc_LEntry_Entry.id F.bag_sum.bag_sum_1.id

end Go.AW

namespace Go.AW
variable [Draws]
attribute [local irreducible] ACalls
def rowOk (e : Ent) : Prop := e.row.length ≤ 12 ∧ e.row.all validB = true

def resP (l : List Ent) : List Ent × Int := if (l.all fun e => smallB e.cnt) = true ∧ (l.filter nzB).length ≤ 4096 then (l.filter nzB, 0) else ([], 2)

def tR (p : List Ent × Int) : AVal := if p.2 ≠ 0 then .tuple [.nil, .int .i64 p.2] else .tuple [.list false 2 (eC p.1), .int .i64 0]

def rV (p : List Ent × Int) : AVal := .tuple [.list false 2 (eC p.1), .int .i64 p.2]

theorem resR_P (l : List Ent) : resR l = tR (resP l) := by
  rw [resR, resP]
  split <;> rfl

theorem tR_wk {p : List Ent × Int} (h : p.2 ≠ 0 → p.1 = []) : WkD (tR p) (rV p) := by
  unfold tR rV
  split
  · rename_i h1
    rw [h h1]
    exact .tuples (.cons (.nil false 2) (.cons (.refl _) ⟨rfl, fun i a b h => by simp at h⟩))
  · rename_i h1
    have : p.2 = 0 := Classical.byContradiction fun h => h1 h
    rw [this]
    exact .refl _

def Good (p : List Ent × Int) : Prop := bagB p.1 = 0 ∧ (p.2 ≠ 0 → p.1 = [])

theorem good_err (n : Int) : Good ([], n) := ⟨rfl, fun _ => rfl⟩

theorem resP_good {l : List Ent} (hs : Srt l) (hf : ∀ e ∈ l, rowOk e) : Good (resP l) := by
  unfold resP
  split
  · rename_i h
    refine ⟨(bagB_iff _).2 ⟨h.2, fun e he => ?_, srt_filter _ hs⟩, fun h => absurd rfl h⟩
    obtain ⟨h1, h2⟩ := List.mem_filter.1 he
    exact ⟨(fitB_iff e).2 ⟨(hf e h1).1, List.all_eq_true.1 h.1 e h1, (hf e h1).2⟩, by simpa [nzB] using h2⟩
  · exact good_err 2

theorem resP_ok {l : List Ent} (hs : Srt l) (hl : l.length ≤ 4096) (hc : ∀ r, smallB (cntL l r) = true) : (resP l).2 = 0 := by
  have hsm : ∀ e ∈ l, smallB e.cnt = true := fun e he => by rw [← cntL_mem hs he]; exact hc _
  rw [resP, if_pos ⟨List.all_eq_true.2 hsm, Nat.le_trans (List.length_filter_le _ _) hl⟩]

theorem mem_srtM : ∀ (n : Nat) (l : List Ent) (e : Ent), e ∈ srtM n l → ∃ x ∈ l, x.row = e.row
  | 0, l, e, h => ⟨e, h, rfl⟩
  | n + 1, l, e, h => by
    rw [srtM] at h
    split at h
    · exact ⟨e, h, rfl⟩
    · rcases mem_mrg _ _ e h with ⟨x, hx, hr⟩ | ⟨x, hx, hr⟩
      · obtain ⟨y, hy, hyr⟩ := mem_srtM n _ x hx
        exact ⟨y, List.mem_of_mem_take hy, hyr.trans hr⟩
      · obtain ⟨y, hy, hyr⟩ := mem_srtM n _ x hx
        exact ⟨y, List.mem_of_mem_drop hy, hyr.trans hr⟩

theorem rowOk_of {x e : Ent} (h : rowOk x) (hr : x.row = e.row) : rowOk e := by rw [rowOk, ← hr]; exact h

def sumP (l : List Ent) : List Ent × Int := resP (srtM l.length l)

theorem sumP_good {l : List Ent} (hf : ∀ e ∈ l, rowOk e) : Good (sumP l) :=
  resP_good (srt_srtM _ _ (by omega)) fun e he => by
    obtain ⟨x, hx, hr⟩ := mem_srtM _ _ e he
    exact rowOk_of (hf x hx) hr

theorem sumP_ok {l : List Ent} (hl : l.length ≤ 4096) (hc : ∀ r, smallB (cntL l r) = true) : (sumP l).2 = 0 :=
  resP_ok (srt_srtM _ _ (by omega)) (Nat.le_trans (srtM_length _ _) hl) fun r => by rw [cntL_srtM]; exact hc r

theorem sumP_ext {a b : List Ent} (h : ∀ r, cntL a r = cntL b r) : sumP a = sumP b := by
  have ha := srt_srtM a.length a (by omega)
  have hb := srt_srtM b.length b (by omega)
  have hcn : ∀ r, cntL (srtM a.length a) r = cntL (srtM b.length b) r := fun r => by rw [cntL_srtM, cntL_srtM, h r]
  have e : (srtM a.length a).filter nzB = (srtM b.length b).filter nzB := bag_ext _ _ (ha.filter _) (hb.filter _) (fun e he => by have := (List.mem_filter.1 he).2; simpa [nzB] using this) (fun e he => by have := (List.mem_filter.1 he).2; simpa [nzB] using this) fun r => by rw [cntF_nz, cntF_nz, hcn r]
  rw [sumP, sumP, resP, resP, small_nz (srtM a.length a), small_nz (srtM b.length b), e]

def norP (l : List Ent) : List Ent × Int := if frmE l ≠ 0 then ([], frmE l) else sumP l

theorem norR_P (l : List Ent) : norR l = tR (norP l) := by
  rw [norR, norP]
  split
  · rename_i h; rw [tR, if_pos h]
  · exact resR_P _

theorem frmE_zero : ∀ {l : List Ent}, (∀ e ∈ l, fitB e = 0) → frmE l = 0
  | [], _ => rfl
  | x :: l, h => by rw [frmE, if_neg (by simp [h x (List.mem_cons_self ..)]), frmE_zero fun e he => h e (List.mem_cons_of_mem _ he)]

theorem norP_sum {l : List Ent} (h : ∀ e ∈ l, fitB e = 0) : norP l = sumP l := by rw [norP, if_neg (by simp [frmE_zero h])]

theorem bag_rowOk {l : List Ent} (h : bagB l = 0) : ∀ e ∈ l, rowOk e := fit_row h

theorem bag_srt {l : List Ent} (h : bagB l = 0) : Srt l := ((bagB_iff l).1 h).2.2

theorem bag_len {l : List Ent} (h : bagB l = 0) : l.length ≤ 4096 := ((bagB_iff l).1 h).1

theorem nz0 {n : Int} (h : ¬ n ≠ 0) : n = 0 := Classical.byContradiction h

theorem smallB_iff (n : Int) : smallB n = true ↔ -65536 ≤ n ∧ n ≤ 65536 := by simp [smallB]

theorem ACalls.goodW {P : Program} {f : FuncId} {args : List AVal} {H : List AObj} {R : AVal} {p : List Ent × Int} (h : ACalls P f args H (fun r H' => r = R ∧ H' = H)) (hR : R = tR p) (hp : Good p) : ACalls P f args H (fun r H' => r = rV p ∧ H' = H) :=
  ACalls.weakRD h (by rintro r H' ⟨rfl, rfl⟩; exact ⟨_, by rw [hR]; exact tR_wk hp.2, rfl, rfl⟩)

section
variable {P : Program}
end
end Go.AW

namespace Go.AW
variable [Draws]
attribute [local irreducible] ACalls
theorem and7 (n : Int) : ∃ k : Nat, k ≤ 7 ∧ and64 n 7 = k := by
  have h : and64 n 7 = n % 8 := and64_mask n 3 (by omega)
  exact ⟨(n % 8).toNat, by omega, by rw [h]; omega⟩

end Go.AW

namespace Go.AW
variable [Draws]
attribute [local irreducible] ACalls
set_option maxRecDepth 20000 in
theorem ref6_result_raw {P : Program} (F : F_warehouseref6_result P) (ex : Bool) (l : List Ent) (hl : l.length ≤ 100000) (hr : ∀ e ∈ l, e.row.length ≤ 1000) (hok : (l.all fun e => smallB e.cnt) = true ∧ (l.filter nzB).length ≤ 4096) :
    ACalls P F.id [.list ex 2 (eC l)] [] (fun r H' => r = .tuple [.sl 0 (l.filter nzB).length 0 (l.filter nzB).length, .int .i64 0] ∧ H' = [.arr 2 (eC (l.filter nzB))]) := by
  refine acalls_of_body F.has ?_
  conv => whnf
  refine ⟨fun m ρ H => ∃ k : Nat, k + m = l.length ∧ ((l.take k).all fun e => smallB e.cnt) = true ∧ ((l.take k).filter nzB).length ≤ 4096 ∧ H = [.arr 2 (eC ((l.take k).filter nzB))] ∧
      Sv 46 [(0, .list ex 2 (eC l)), (4, .sl 0 ((l.take k).filter nzB).length 0 ((l.take k).filter nzB).length), (5, .int .i64 k)] ρ, l.length, [(4, 2)], ?_, ?_⟩
  · exact ⟨0, by omega, rfl, by simp, by rfl, Sv.intro rfl ⟨rfl, rfl, rfl, trivial⟩⟩
  rintro m ρ H ⟨k, hk, hP, hO, rfl, d, rfl⟩
  (conv => whnf); refine recA (fun hlt => ?_) (fun hlt => ?_)
  · simp [eC_length] at hlt
    obtain ⟨x, hx, hxd, hxm⟩ := get_drop hlt
    have ew := wrapI ((k : Int) + 1) (by omega) (by omega)
    have hxr := hr x hxm
    have hT : l.take (k + 1) = l.take k ++ [x] := by rw [List.take_add_one, hx]; rfl
    have hl2 : l = l.take k ++ x :: l.drop (k + 1) := by rw [← hxd, List.take_append_drop]
    conv => whnf
    refine And.intro (by omega) ?_
    (conv => whnf); refine recO (eC_at hx) ?_
    (conv => whnf); refine recA (fun hz => ?_) (fun hz => ?_)
    · replace hz : (x.cnt == 0) = true := hz
      simp at hz
      have hF : (l.take (k + 1)).filter nzB = (l.take k).filter nzB := by rw [hT, List.filter_append]; simp [nzB, hz]
      conv => whnf
      refine ⟨m - 1, by omega, Gp.keep rfl ?_ fun ρ1 h => ⟨k + 1, by omega, ?_, ?_, ?_, h⟩⟩
      · exact ⟨rfl, by rw [hF]; rfl, intEq ew, trivial⟩
      · rw [hT, List.all_append, hP]; simp [smallB, hz]
      · rw [hF]; exact hO
      · rw [hF]
    replace hz : (x.cnt == 0) = false := hz
    simp at hz
    conv => whnf
    refine And.intro (by omega) ?_
    (conv => whnf); refine recO (eC_at hx) ?_
    conv => whnf
    refine ACalls.use (small_spec F.warehouseref6_small _ _) ?_
    (conv => whnf); refine recA (fun hs => ?_) (fun hs => ?_)
    · replace hs : (!(smallB x.cnt)) = true := hs
      simp at hs
      exact absurd (List.all_eq_true.1 hok.1 x hxm) (by simp [hs])
    replace hs : (!(smallB x.cnt)) = false := hs
    simp at hs
    have hF : (l.take (k + 1)).filter nzB = (l.take k).filter nzB ++ [x] := by rw [hT, List.filter_append]; simp [nzB, hz]
    (conv => whnf); refine recT (by rw [eC_length]; exact Nat.beq_refl _) ?_
    (conv => whnf); refine recA (fun hq => ?_) (fun hq => ?_)
    · replace hq : ((((l.take k).filter nzB).length : Int) == 4096) = true := hq
      simp at hq
      have h3 := filter_le_of_prefix (l.take (k + 1)) l ⟨l.drop (k + 1), (List.take_append_drop _ _).symm⟩
      rw [hF, List.length_append] at h3
      exact absurd hok.2 (by simp at h3; omega)
    · replace hq : ((((l.take k).filter nzB).length : Int) == 4096) = false := hq
      simp at hq
      conv => whnf
      refine And.intro (by omega) ?_
      (conv => whnf); refine recO (eC_at hx) ?_
      (conv => whnf); refine And.intro ⟨roomMul (by rw [vC_length]; omega) (by omega), roomB_le (by rw [vC_length]; omega)⟩ ?_
      (conv => whnf); refine And.intro (by omega) ?_
      (conv => whnf); refine recO (eC_at hx) ?_
      (conv => whnf); refine recT (by rw [eC_length]; exact Nat.beq_refl _) ?_
      (conv => whnf); refine And.intro ⟨roomMul (by simp; omega) (by omega), roomB_le (by simp; omega), rfl, by rw [eC_length]⟩ ?_
      conv => whnf
      refine And.intro (by (conv => whnf); try rfl) ?_
      conv => whnf
      refine And.intro (by (conv => whnf); refine And.intro (by omega) ?_; (conv => whnf); refine recO (eC_at hx) ?_; (conv => whnf); try rfl) ?_
      conv => whnf
      have hFl : (eC ((l.take k).filter nzB) ++ [[AVal.sl 1 (vC x.row).length 0 (vC x.row).length, .int .i64 x.cnt]]).length = ((l.take (k + 1)).filter nzB).length := by
        rw [hF]; simp [eC_length]
      refine ⟨m - 1, by omega, Gp.some (H1 := [.arr 2 (eC ((l.take k).filter nzB ++ [x]))]) [0] (by simp) ?_ rfl ?_ fun ρ1 h => ⟨k + 1, by omega, ?_, ?_, ?_, h⟩⟩
      · exact ⟨⟨_, rfl, obPush ((l.take k).filter nzB) x.row x.cnt (vC x.row).length _ rfl (vC_length _)⟩, trivial⟩
      · exact ⟨.closed _ rfl, pubSl (k := 0) rfl rfl hFl hFl, pub_int ew, trivial⟩
      · rw [hT, List.all_append, hP]; simp [hs]
      · rw [hF, List.length_append]; simp; omega
      · rw [hF]
  · simp [eC_length] at hlt
    have hT : l.take k = l := List.take_of_length_le hlt
    conv => whnf
    rw [hT] at hP hO ⊢
    exact ⟨rfl, rfl⟩

theorem ref6_Sum_raw {P : Program} (F : F_warehouseref6_Sum P) (ex : Bool) (l : List Ent) (hl : l.length ≤ 100000) (hE : ∀ e ∈ l, EntOk e) (h0 : (sumP l).2 = 0) :
    ACalls P F.id [.list ex 2 (eC l)] [] (fun r H' => r = .tuple [.sl 0 (sumP l).1.length 0 (sumP l).1.length, .int .i64 0] ∧ H' = [.arr 2 (eC (sumP l).1)]) := by
  have hb := srtM_bnd l.length l hE
  have hc := srtM_length l.length l
  obtain ⟨hok, e1⟩ : (((srtM l.length l).all fun e => smallB e.cnt) = true ∧ ((srtM l.length l).filter nzB).length ≤ 4096) ∧ (sumP l).1 = (srtM l.length l).filter nzB := by
    unfold sumP resP at h0 ⊢
    split at h0
    · rename_i h; exact ⟨h, by rw [if_pos h]⟩
    · cases h0
  rw [e1]
  refine acalls_of_body F.has ?_
  (conv => whnf); refine ACalls.use (ref6_sorted_spec F.warehouseref6_sorted l.length ex l (Nat.le_refl _) hl hE _) ?_
  (conv => whnf); refine ACalls.mono (ref6_result_raw F.warehouseref6_result false (srtM l.length l) (by omega) (fun e h => by have := (hb e h).1; omega) hok) ?_
  rintro r H1 ⟨rfl, rfl⟩
  conv => whnf
  exact ⟨rfl, rfl⟩

set_option maxRecDepth 20000 in
theorem ref6_Normalize_raw {P : Program} (F : F_warehouseref6_Normalize P) (ex : Bool) (l : List Ent) (hl : l.length ≤ 100000) (h0 : (norP l).2 = 0) :
    ACalls P F.id [.list ex 2 (eC l)] [] (fun r H' => r = .tuple [.sl 0 (norP l).1.length 0 (norP l).1.length, .int .i64 0] ∧ H' = [.arr 2 (eC (norP l).1)]) := by
  have hz : frmE l = 0 := by
    unfold norP at h0
    split at h0
    · rename_i h; exact absurd h0 h
    · rename_i h; exact nz0 h
  have e0 : norP l = sumP l := by rw [norP, if_neg (by simp [hz])]
  rw [e0] at h0 ⊢
  refine acalls_of_body F.has ?_
  conv => whnf
  refine ⟨fun m ρ H1 => ∃ k : Nat, k + m = l.length ∧ frmE l = frmE (l.drop k) ∧ H1 = [] ∧ Sv 24 [(0, .list ex 2 (eC l)), (4, .int .i64 k)] ρ, l.length, [], ?_, ?_⟩
  · exact ⟨0, by omega, rfl, rfl, Sv.intro rfl ⟨rfl, rfl, trivial⟩⟩
  rintro m ρ H1 ⟨k, hk, hr, rfl, d, rfl⟩
  (conv => whnf); refine recA (fun hlt => ?_) (fun hlt => ?_)
  · simp [eC_length] at hlt
    have hx : l[k]? = some l[k] := List.getElem?_eq_getElem hlt
    rw [List.drop_eq_getElem_cons hlt, frmE] at hr
    (conv => whnf); refine And.intro (by omega) ?_
    (conv => whnf); refine recO (eC_at hx) ?_
    (conv => whnf); refine ACalls.use (fits_spec F.warehouseref6_fits l[k] _) ?_
    have h2 : fitB l[k] = 0 := frmE_ok l hz _ (List.getElem_mem hlt)
    rw [if_neg (by simp [h2])] at hr
    (conv => whnf); refine recF (by rw [h2]; rfl) ?_
    conv => whnf
    refine ⟨m - 1, by omega, Gp.keep rfl ?_ fun ρ1 h => ⟨k + 1, by omega, hr, rfl, h⟩⟩
    exact ⟨rfl, intEq (wrapI _ (by omega) (by omega)), trivial⟩
  · simp [eC_length] at hlt
    (conv => whnf); refine ACalls.mono (ref6_Sum_raw F.warehouseref6_Sum ex l hl (fun e h => fit_ok (frmE_ok l hz e h)) h0) ?_
    rintro r H1 ⟨rfl, rfl⟩
    conv => whnf
    exact ⟨rfl, rfl⟩

end Go.AW

namespace Go.AW
variable [Draws]
attribute [local irreducible] ACalls
theorem tabB_eq {b : List Ent} (h : bagB b = 0) : tabB b = b.all posE := by rw [tabB, h]; rfl

end Go.AW

namespace Go.AW
variable [Draws]
attribute [local irreducible] ACalls
def rwA (R : List (List V)) : List AVal := R.map fun r => .list false 3 (vC r)

def rwC (R : List (List V)) : List (List AVal) := (rwA R).map fun x => [x]

theorem rwC_length (R : List (List V)) : (rwC R).length = R.length := by simp [rwC, rwA]

theorem rwC_append (R S : List (List V)) : rwC (R ++ S) = rwC R ++ rwC S := by simp [rwC, rwA]

theorem rwC_at {R : List (List V)} {k : Nat} {r : List V} (h : R[k]? = some r) : (rwC R)[k]? = some [.list false 3 (vC r)] := by rw [rwC, rwA, List.getElem?_map, List.getElem?_map, h]; rfl

theorem pureEs_rwC (R : List (List V)) : pureEs (rwC R) = true := by simp [pureEs, rwC, rwA, AVal.isPure]

def expL (b : List Ent) : List (List V) := b.flatMap fun e => List.replicate e.cnt.toNat e.row

theorem expL_nil : expL [] = [] := rfl

theorem expL_cons (e : Ent) (b : List Ent) : expL (e :: b) = List.replicate e.cnt.toNat e.row ++ expL b := rfl

theorem expL_append (a b : List Ent) : expL (a ++ b) = expL a ++ expL b := by simp [expL]

theorem expL_split {b : List Ent} {k : Nat} {x : Ent} (h : b[k]? = some x) : expL b = expL (b.take k) ++ (List.replicate x.cnt.toNat x.row ++ expL (b.drop (k + 1))) := by
  obtain ⟨y, hy, hd, _⟩ := get_drop (List.getElem?_eq_some_iff.1 h).1
  rw [h] at hy; cases hy
  rw [← expL_cons, ← hd, ← expL_append, List.take_append_drop]

theorem expL_take {b : List Ent} {k : Nat} {x : Ent} (h : b[k]? = some x) : expL (b.take (k + 1)) = expL (b.take k) ++ List.replicate x.cnt.toNat x.row := by
  rw [List.take_add_one, h, expL_append]
  show _ ++ expL [x] = _
  rw [expL_cons, expL_nil, List.append_nil]

theorem expL_row {b : List Ent} {r : List V} (h : r ∈ expL b) : ∃ e ∈ b, e.row = r := by
  obtain ⟨e, he, hr⟩ := List.mem_flatMap.1 h
  exact ⟨e, he, (List.mem_replicate.1 hr).2.symm⟩

theorem szW_len : ∀ (b : List Ent) (a : Int), (∀ e ∈ b, 0 ≤ e.cnt ∧ e.cnt ≤ 65536) → 0 ≤ a → a + 65536 * b.length ≤ 4000000000000 → szW b a = a + (expL b).length
  | [], a, _, _, _ => by simp [szW, expL_nil]
  | e :: b, a, h, h0, hl => by
    obtain ⟨h1, h2⟩ := h e (List.mem_cons_self ..)
    rw [List.length_cons] at hl
    have ew : IntKind.i64.wrap (a + e.cnt) = a + e.cnt := wrapI _ (by omega) (by omega)
    rw [szW, ew, szW_len b _ (fun e he => h e (List.mem_cons_of_mem _ he)) (by omega) (by omega), expL_cons, List.length_append, List.length_replicate]
    omega

theorem bag_cnt {b : List Ent} (h : bagB b = 0) (hp : b.all posE = true) : ∀ e ∈ b, 0 ≤ e.cnt ∧ e.cnt ≤ 65536 := fun e he => by
  have h1 := fitB_zero e (((bagB_iff b).1 h).2.1 e he).1
  have h2 := List.all_eq_true.1 hp e he
  simp [posE] at h2
  omega

theorem szW_bag {b : List Ent} (h : bagB b = 0) (hp : b.all posE = true) : szW b 0 = (expL b).length := by
  have := szW_len b 0 (bag_cnt h hp) (by omega) (by have := bag_len h; omega)
  omega

def expP (b : List Ent) : List (List V) × Int :=
  if bagB b ≠ 0 then ([], bagB b) else if b.all posE = true then (if 4096 < szW b 0 then ([], 2) else (expL b, 0)) else ([], 8)

def tW (p : List (List V) × Int) : AVal := if p.2 ≠ 0 then .tuple [.nil, .int .i64 p.2] else .tuple [.list false 1 (rwC p.1), .int .i64 0]

def rW (p : List (List V) × Int) : AVal := .tuple [.list false 1 (rwC p.1), .int .i64 p.2]

theorem tW_wk {p : List (List V) × Int} (h : p.2 ≠ 0 → p.1 = []) : WkD (tW p) (rW p) := by
  unfold tW rW
  split
  · rename_i h1
    rw [h h1]
    exact .tuples (.cons (.nil false 1) (.cons (.refl _) ⟨rfl, fun i a b h => by simp at h⟩))
  · rename_i h1
    rw [nz0 h1]
    exact .refl _

theorem expP_nil (b : List Ent) : (expP b).2 ≠ 0 → (expP b).1 = [] := by
  intro h
  unfold expP at h ⊢
  split
  · rfl
  · rename_i h1
    rw [if_neg h1] at h
    split
    · rename_i h2
      rw [if_pos h2] at h
      split
      · rfl
      · rename_i h3
        rw [if_neg h3] at h
        exact absurd rfl h
    · rfl

theorem expP_row (b : List Ent) : ∀ r ∈ (expP b).1, r.length ≤ 12 := by
  intro r hr
  unfold expP at hr
  split at hr
  · cases hr
  · rename_i h1
    split at hr
    · split at hr
      · cases hr
      · obtain ⟨e, he, rfl⟩ := expL_row hr
        exact (bag_rowOk (nz0 h1) e he).1
    · cases hr

theorem expP_len (b : List Ent) : (expP b).1.length ≤ 4096 := by
  unfold expP
  split
  · exact Nat.zero_le _
  · rename_i h1
    split
    · rename_i h2
      split
      · exact Nat.zero_le _
      · rename_i h3
        rw [szW_bag (nz0 h1) h2] at h3
        show (expL b).length ≤ 4096
        omega
    · exact Nat.zero_le _

theorem expL_snoc {b : List Ent} {k j : Nat} {x : Ent} : (expL (b.take k) ++ List.replicate j x.row) ++ [x.row] = expL (b.take k) ++ List.replicate (j + 1) x.row := by
  rw [List.append_assoc, ← List.replicate_succ']

set_option maxRecDepth 20000 in
theorem bag_Expand_raw {P : Program} (F : F_bag_Expand P) (ex : Bool) (b : List Ent) (H : List AObj) :
    ACalls P F.id [.list ex 2 (eC b)] H (fun r H' => r = tW (expP b) ∧ H' = H) := by
  refine ACalls.pure (by simp [AVal.closed, AVal.isPure]) (acalls_of_body F.has ?_)
  by_cases h0 : bagB b ≠ 0
  · have s1 := fun H => bag_Size_spec F.bag_Size ex b H
    rw [sizeR, if_neg h0] at s1
    (conv => whnf); refine ACalls.use (s1 _) ?_
    (conv => whnf); refine recT (by show (!(bagB b == 0)) = true; simp [h0]) ?_
    conv => whnf
    rw [expP, if_pos h0, tW, if_pos h0]
    exact pub2 (.closed _ rfl) (.closed _ rfl)
  replace h0 := nz0 h0
  have s1 := fun H => bag_Size_spec F.bag_Size ex b H
  rw [sizeR, if_pos h0] at s1
  have lb := bag_len h0
  (conv => whnf); refine ACalls.use (s1 _) ?_
  (conv => whnf); refine ACalls.use (bag_IsTable_spec F.bag_IsTable ex b _) ?_
  rw [tabB_eq h0]
  by_cases hp : ¬ b.all posE = true
  · have hpf : b.all posE = false := by simpa using hp
    (conv => whnf); refine recT (by rw [hpf]; rfl) ?_
    conv => whnf
    rw [expP, if_neg (by simp [h0]), if_neg hp]
    exact pub2 (.closed _ rfl) (.closed _ rfl)
  replace hp := Classical.not_not.1 hp
  (conv => whnf); refine recF (by rw [hp]; rfl) ?_
  have hR : expP b = if 4096 < szW b 0 then ([], 2) else (expL b, 0) := by rw [expP, if_neg (by simp [h0]), if_pos hp]
  rw [hR]
  clear hR s1
  have hsz := szW_bag h0 hp
  (conv => whnf); refine recA (fun h3 => ?_) (fun h3 => ?_)
  · simp at h3
    conv => whnf
    rw [if_pos h3]
    exact pub2 (.closed _ rfl) (.closed _ rfl)
  simp at h3
  rw [if_neg (by omega)]
  rw [hsz] at h3
  have cnts := bag_cnt h0 hp
  have hrow := fun e he => (bag_rowOk h0 e he).1
  have cl0 : ∀ (f : Bool) (z : Nat) (y : List (List AVal)) (H1 : List AObj), pureEs y = true → Pub H1 0 [0] (.list f z y) (.list f z y) := fun f z y H1 hy => .closed _ (by simpa [AVal.closed, AVal.isPure, pureEs] using hy)
  have cl1 : ∀ (f : Bool) (z : Nat) (y : List (List AVal)) (H1 : List AObj), pureEs y = true → Pub H1 0 [0, 1] (.list f z y) (.list f z y) := fun f z y H1 hy => .closed _ (by simpa [AVal.closed, AVal.isPure, pureEs] using hy)
  conv => whnf
  refine ⟨fun m ρ H1 => ∃ k : Nat, k + m = b.length ∧ H1 = [.arr 1 (rwC (expL (b.take k)))] ∧ Sv 41 [(6, .sl 0 (expL (b.take k)).length 0 (expL (b.take k)).length), (22, .list ex 2 (eC b)), (23, .int .i64 b.length), (24, .int .i64 k)] ρ, b.length, [(6, 1)], ?_, ?_⟩
  · exact ⟨0, by omega, rfl, Sv.intro rfl ⟨rfl, rfl, intEq (by rw [eC_length]), rfl, trivial⟩⟩
  rintro m ρ H1 ⟨k, hk, rfl, d, rfl⟩
  (conv => whnf); refine recA (fun hlt => ?_) (fun hlt => ?_)
  · simp at hlt
    obtain ⟨x, hx, _, hxm⟩ := get_drop hlt
    obtain ⟨x1, x2⟩ := cnts x hxm
    have x3 := hrow x hxm
    have hspl := congrArg List.length (expL_split hx)
    rw [List.length_append, List.length_append, List.length_replicate] at hspl
    (conv => whnf); refine And.intro (by omega) ?_
    (conv => whnf); refine recO (eC_at hx) ?_
    conv => whnf
    refine ⟨fun m1 ρ1 H2 => ∃ j : Nat, j + m1 = x.cnt.toNat ∧ H2 = [.arr 1 (rwC (expL (b.take k) ++ List.replicate j x.row)), .arr 2 [entC x]] ∧
      Sv 41 [(6, .sl 0 (expL (b.take k) ++ List.replicate j x.row).length 0 (expL (b.take k) ++ List.replicate j x.row).length), (8, .ptr 1 1 0 0), (22, .list ex 2 (eC b)), (23, .int .i64 b.length), (24, .int .i64 k), (29, .int .i64 x.cnt), (30, .int .i64 j)] ρ1, x.cnt.toNat, [], ?_, ?_⟩
    · refine ⟨0, by omega, ?_, Sv.intro rfl ⟨?_, rfl, rfl, rfl, rfl, rfl, rfl, trivial⟩⟩
      · rw [List.replicate_zero, List.append_nil]; rfl
      · rw [List.replicate_zero, List.append_nil]; rfl
    rintro m1 ρ1 H2 ⟨j, hj, rfl, d1, rfl⟩
    have hRl : (expL (b.take k) ++ List.replicate j x.row).length = (expL (b.take k)).length + j := by rw [List.length_append, List.length_replicate]
    (conv => whnf); refine recA (fun hjl => ?_) (fun hjl => ?_)
    · simp at hjl
      (conv => whnf); refine ACalls.use (CloneV_spec F.slices_Clone_LValue_Value false x.row (by omega) _) ?_
      (conv => whnf); refine recT (by rw [rwC_length]; exact Nat.beq_refl _) ?_
      (conv => whnf); refine And.intro (⟨roomMul (by simp; omega) (by omega), roomB_le (by simp; omega), rfl, by rw [rwC_length]⟩) ?_
      conv => whnf
      have hN : rwC (expL (b.take k) ++ List.replicate (j + 1) x.row) = rwC (expL (b.take k) ++ List.replicate j x.row) ++ [[.list false 3 (vC x.row)]] := by rw [← expL_snoc, rwC_append]; rfl
      have hl : (rwC (expL (b.take k) ++ List.replicate j x.row) ++ [[AVal.list false 3 (vC x.row)]]).length = (expL (b.take k) ++ List.replicate (j + 1) x.row).length := by rw [← hN, rwC_length]
      refine ⟨m1 - 1, by omega, Gp.two 0 1 (by decide) 1 2 (rwC (expL (b.take k) ++ List.replicate (j + 1) x.row)) [entC x] (by rw [hN]; rfl) rfl (pureEs_rwC _) (pureEs_eC [x]) rfl ?_ fun ρ2 h => ⟨j + 1, by omega, rfl, h⟩⟩
      exact ⟨pubSl (k := 0) rfl rfl hl hl, .keepP 1 1 0 0 1 rfl, cl1 _ _ _ _ (pureEs_eC _), .closed _ rfl, .closed _ rfl, .closed _ rfl, pub_int (wrapI _ (by omega) (by omega)), trivial⟩
    · simp at hjl
      have hjx : j = x.cnt.toNat := by omega
      have hT := expL_take hx
      rw [← hjx] at hT
      conv => whnf
      refine ⟨m - 1, by omega, Gp.one 0 1 (rwC (expL (b.take (k + 1)))) (by rw [hT]; rfl) (pureEs_rwC _) rfl ?_ fun ρ2 h => ⟨k + 1, by omega, rfl, h⟩⟩
      exact ⟨by rw [hT]; exact pubSl (k := 0) rfl rfl rfl rfl, cl0 _ _ _ _ (pureEs_eC _), .closed _ rfl, pub_int (wrapI _ (by omega) (by omega)), trivial⟩
  · simp at hlt
    rw [List.take_of_length_le hlt]
    conv => whnf
    exact pub2 (pubF rfl (rwC_length _).symm (rwC_length _).symm (pureEs_rwC _)) (.closed _ rfl)

end Go.AW

namespace Go.AW
variable [Draws]
attribute [local irreducible] ACalls
theorem obRow {R : List (List V)} {row : List V} {n : Nat} {H : List AObj} (h1 : H[1]? = some (.arr 3 (vC row))) (hn : n = row.length) :
    ObP H [0] (.arr 1 (rwC R ++ [[.sl 1 n 0 n]])) (.arr 1 (rwC (R ++ [row]))) := by
  have e1 : rwC R ++ [[.sl 1 n 0 n]] = (rwA R ++ [AVal.sl 1 n 0 n]).map fun x => [x] := by simp [rwC]
  have e2 : rwC (R ++ [row]) = (rwA R ++ [AVal.list false 3 (vC row)]).map fun x => [x] := by simp [rwC, rwA]
  have hp : Pub H 0 [0] (.sl 1 n 0 n) (.list false 3 (vC row)) := by
    have h := Pub.frz (n := 0) (ids := [0]) 1 (vC row).length 0 (vC row).length 3 (vC row) h1 rfl (pureEs_vC _) (by simp)
    rw [List.drop_zero, List.take_length, vC_length, ← hn] at h
    exact h
  rw [e1, e2]
  refine ob1s _ _ (by simp) fun i x y hx hy => ?_
  by_cases hlt : i < (rwA R).length
  · rw [List.getElem?_append_left hlt] at hx hy
    rw [hx] at hy; cases hy
    rw [rwA, List.getElem?_map] at hx
    obtain ⟨r, _, rfl⟩ := Option.map_eq_some_iff.1 hx
    exact ⟨.closed _ (by simp [AVal.closed, AVal.isPure]), rfl⟩
  · rw [List.getElem?_append_right (by omega)] at hx hy
    rcases hk : i - (rwA R).length with _ | q
    · rw [hk] at hx hy
      simp at hx hy
      subst hx hy
      exact ⟨hp, rfl⟩
    · rw [hk] at hx; simp at hx

set_option maxRecDepth 20000 in
theorem ref6_Expand_raw {P : Program} (F : F_warehouseref6_Expand P) (ex : Bool) (b : List Ent) (H : List AObj) :
    ACalls P F.id [.list ex 2 (eC b)] H (fun r H' => r = tW (expP b) ∧ H' = H) := by
  refine ACalls.pure (by simp [AVal.closed, AVal.isPure]) (acalls_of_body F.has ?_)
  by_cases h0 : bagB b ≠ 0
  · have s1 := fun H => ref6_Size_spec F.warehouseref6_Size ex b H
    rw [sizeR, if_neg h0] at s1
    (conv => whnf); refine ACalls.use (s1 _) ?_
    (conv => whnf); refine recT (by show (!(bagB b == 0)) = true; simp [h0]) ?_
    conv => whnf
    rw [expP, if_pos h0, tW, if_pos h0]
    exact pub2 (.closed _ rfl) (.closed _ rfl)
  replace h0 := nz0 h0
  have s1 := fun H => ref6_Size_spec F.warehouseref6_Size ex b H
  rw [sizeR, if_pos h0] at s1
  have lb := bag_len h0
  (conv => whnf); refine ACalls.use (s1 _) ?_
  (conv => whnf); refine ACalls.use (ref6_positive_spec F.warehouseref6_positive ex b (by omega) _) ?_
  by_cases hp : ¬ b.all posE = true
  · have hpf : b.all posE = false := by simpa using hp
    (conv => whnf); refine recT (by rw [hpf]; rfl) ?_
    conv => whnf
    rw [expP, if_neg (by simp [h0]), if_neg hp]
    exact pub2 (.closed _ rfl) (.closed _ rfl)
  replace hp := Classical.not_not.1 hp
  (conv => whnf); refine recF (by rw [hp]; rfl) ?_
  have hR : expP b = if 4096 < szW b 0 then ([], 2) else (expL b, 0) := by rw [expP, if_neg (by simp [h0]), if_pos hp]
  rw [hR]
  clear hR s1
  have hsz := szW_bag h0 hp
  (conv => whnf); refine recA (fun h3 => ?_) (fun h3 => ?_)
  · simp at h3
    conv => whnf
    rw [if_pos h3]
    exact pub2 (.closed _ rfl) (.closed _ rfl)
  simp at h3
  rw [if_neg (by omega)]
  rw [hsz] at h3
  have cnts := bag_cnt h0 hp
  have hrow := fun e he => (bag_rowOk h0 e he).1
  have cl0 : ∀ (f : Bool) (z : Nat) (y : List (List AVal)) (H1 : List AObj), pureEs y = true → Pub H1 0 [0] (.list f z y) (.list f z y) := fun f z y H1 hy => .closed _ (by simpa [AVal.closed, AVal.isPure, pureEs] using hy)
  conv => whnf
  refine ⟨fun m ρ H1 => ∃ k : Nat, k + m = b.length ∧ H1 = [.arr 1 (rwC (expL (b.take k)))] ∧ Sv 47 [(0, .list ex 2 (eC b)), (6, .sl 0 (expL (b.take k)).length 0 (expL (b.take k)).length), (7, .int .i64 k)] ρ, b.length, [(6, 1)], ?_, ?_⟩
  · exact ⟨0, by omega, rfl, Sv.intro rfl ⟨rfl, rfl, rfl, trivial⟩⟩
  rintro m ρ H1 ⟨k, hk, rfl, d, rfl⟩
  (conv => whnf); refine recA (fun hlt => ?_) (fun hlt => ?_)
  · simp [eC_length] at hlt
    obtain ⟨x, hx, _, hxm⟩ := get_drop hlt
    obtain ⟨x1, x2⟩ := cnts x hxm
    have x3 := hrow x hxm
    have hspl := congrArg List.length (expL_split hx)
    rw [List.length_append, List.length_append, List.length_replicate] at hspl
    conv => whnf
    refine ⟨fun m1 ρ1 H2 => ∃ j : Nat, j + m1 = x.cnt.toNat ∧ H2 = [.arr 1 (rwC (expL (b.take k) ++ List.replicate j x.row))] ∧
      Sv 47 [(0, .list ex 2 (eC b)), (6, .sl 0 (expL (b.take k) ++ List.replicate j x.row).length 0 (expL (b.take k) ++ List.replicate j x.row).length), (7, .int .i64 k), (8, .int .i64 j)] ρ1, x.cnt.toNat, [], ?_, ?_⟩
    · refine ⟨0, by omega, ?_, Sv.intro rfl ⟨rfl, ?_, rfl, rfl, trivial⟩⟩
      · rw [List.replicate_zero, List.append_nil]
      · rw [List.replicate_zero, List.append_nil]; rfl
    rintro m1 ρ1 H2 ⟨j, hj, rfl, d1, rfl⟩
    have hRl : (expL (b.take k) ++ List.replicate j x.row).length = (expL (b.take k)).length + j := by rw [List.length_append, List.length_replicate]
    (conv => whnf); refine And.intro (by omega) ?_
    (conv => whnf); refine recO (eC_at hx) ?_
    (conv => whnf); refine recA (fun hjl => ?_) (fun hjl => ?_)
    · simp at hjl
      (conv => whnf); refine And.intro (by omega) ?_
      (conv => whnf); refine recO (eC_at hx) ?_
      (conv => whnf); refine And.intro (⟨roomMul (by rw [vC_length]; omega) (by omega), roomB_le (by rw [vC_length]; omega)⟩) ?_
      (conv => whnf); refine recT (by rw [rwC_length]; exact Nat.beq_refl _) ?_
      (conv => whnf); refine And.intro (⟨roomMul (by simp; omega) (by omega), roomB_le (by simp; omega), rfl, by rw [rwC_length]⟩) ?_
      conv => whnf
      have hN : rwC (expL (b.take k) ++ List.replicate (j + 1) x.row) = rwC (expL (b.take k) ++ List.replicate j x.row) ++ [[.list false 3 (vC x.row)]] := by rw [← expL_snoc, rwC_append]; rfl
      have hl : (rwC (expL (b.take k) ++ List.replicate j x.row) ++ [[AVal.sl 1 (vC x.row).length 0 (vC x.row).length]]).length = (expL (b.take k) ++ List.replicate (j + 1) x.row).length := by simp [rwC_length]; omega
      refine ⟨m1 - 1, by omega, Gp.some (H1 := [.arr 1 (rwC (expL (b.take k) ++ List.replicate (j + 1) x.row))]) [0] (by simp) ?_ rfl ?_ fun ρ1 h => ⟨j + 1, by omega, rfl, h⟩⟩
      · refine ⟨⟨_, rfl, ?_⟩, trivial⟩
        rw [← expL_snoc]
        exact obRow rfl (vC_length _)
      · exact ⟨cl0 _ _ _ _ (pureEs_eC _), pubSl (k := 0) rfl rfl hl hl, .closed _ rfl, pub_int (wrapI _ (by omega) (by omega)), trivial⟩
    · simp at hjl
      have hjx : j = x.cnt.toNat := by omega
      have hT := expL_take hx
      rw [← hjx] at hT
      conv => whnf
      refine ⟨m - 1, by omega, Gp.one 0 1 (rwC (expL (b.take (k + 1)))) (by rw [hT]; rfl) (pureEs_rwC _) rfl ?_ fun ρ2 h => ⟨k + 1, by omega, rfl, h⟩⟩
      exact ⟨cl0 _ _ _ _ (pureEs_eC _), by rw [hT]; exact pubSl (k := 0) rfl rfl rfl rfl, pub_int (wrapI _ (by omega) (by omega)), trivial⟩
  · simp [eC_length] at hlt
    rw [List.take_of_length_le hlt]
    conv => whnf
    exact pub2 (pubF rfl (rwC_length _).symm (rwC_length _).symm (pureEs_rwC _)) (.closed _ rfl)

theorem bag_Expand_w {P : Program} (F : F_bag_Expand P) (ex : Bool) (b : List Ent) (H : List AObj) :
    ACalls P F.id [.list ex 2 (eC b)] H (fun r H' => r = rW (expP b) ∧ H' = H) :=
  ACalls.weakRD (bag_Expand_raw F ex b H) (by rintro r H' ⟨rfl, rfl⟩; exact ⟨_, tW_wk (expP_nil b), rfl, rfl⟩)

theorem ref6_Expand_w {P : Program} (F : F_warehouseref6_Expand P) (ex : Bool) (b : List Ent) (H : List AObj) :
    ACalls P F.id [.list ex 2 (eC b)] H (fun r H' => r = rW (expP b) ∧ H' = H) :=
  ACalls.weakRD (ref6_Expand_raw F ex b H) (by rintro r H' ⟨rfl, rfl⟩; exact ⟨_, tW_wk (expP_nil b), rfl, rfl⟩)

end Go.AW

namespace Go.AW
variable [Draws]
attribute [local irreducible] ACalls
theorem pick_valid {r : List V} (h : r.all validB = true) (is : List Int) : (pickL zV r is).all validB = true := List.all_eq_true.2 fun v hv => by
  obtain ⟨i, _, rfl⟩ := List.mem_map.1 hv
  split
  · rename_i hi
    rw [List.getD_eq_getElem?_getD, List.getElem?_eq_getElem (by omega)]
    exact List.all_eq_true.1 h _ (List.getElem_mem _)
  · rfl

end Go.AW

namespace Go.AW
variable [Draws]
attribute [local irreducible] ACalls
def entT (e : Ent) : List AVal := [.list true 3 (vC e.row), .int .i64 e.cnt]

def eT (l : List Ent) : List (List AVal) := l.map entT

theorem eT_length (l : List Ent) : (eT l).length = l.length := List.length_map ..

theorem eT_wk (x : Bool) (l : List Ent) : WkD (.list x 2 (eT l)) (.list false 2 (eC l)) := by
  refine .list x false 2 _ _ (by simp) (by rw [eT_length, eC_length]) (fun i e f he hf => ?_) (fun i j f c hf hc => ?_) (fun i j e f d c he hf hd hc => ?_)
  · rw [eT, List.getElem?_map] at he
    rw [eC, List.getElem?_map] at hf
    obtain ⟨a, ha, rfl⟩ := Option.map_eq_some_iff.1 he
    obtain ⟨b, hb, rfl⟩ := Option.map_eq_some_iff.1 hf
    rfl
  · rw [eC, List.getElem?_map] at hf
    obtain ⟨b, hb, rfl⟩ := Option.map_eq_some_iff.1 hf
    rcases j with _ | _ | j
    · cases hc; rfl
    · cases hc; rfl
    · simp [entC] at hc
  · rw [eT, List.getElem?_map] at he
    rw [eC, List.getElem?_map] at hf
    obtain ⟨a, ha, rfl⟩ := Option.map_eq_some_iff.1 he
    obtain ⟨b, hb, rfl⟩ := Option.map_eq_some_iff.1 hf
    rw [ha] at hb; cases hb
    rcases j with _ | _ | j
    · cases hd; cases hc
      exact .list true false 3 _ _ (by simp) rfl (fun i e f he hf => by rw [he] at hf; cases hf; rfl) (fun i j f c hf hc => by
        rw [vC, List.getElem?_map] at hf
        obtain ⟨v, _, rfl⟩ := Option.map_eq_some_iff.1 hf
        rcases j with _ | _ | _ | j
        · cases hc; rfl
        · cases hc; rfl
        · cases hc; rfl
        · simp [valC] at hc) (fun i j e f d c he hf hd hc => by rw [he] at hf; cases hf; rw [hd] at hc; cases hc; exact .refl _)
    · cases hd; cases hc; exact .refl _
    · simp [entT] at hd

end Go.AW

namespace Go.AW
variable [Draws]
attribute [local irreducible] ACalls
theorem clL {H1 : List AObj} {n : Nat} {ids : List Nat} (f : Bool) (z : Nat) (y : List (List AVal)) : Pub H1 n ids (.list f z y) (.list f z y) := .closed _ rfl

def celV (r : List V) (i : Int) : V := if 0 ≤ i ∧ i < (r.length : Int) then r.getD i.toNat zV else zV

theorem pick1 (r : List V) (i : Int) : pickL zV r [i] = [celV r i] := rfl

theorem window_cell_spec {P : Program} (F : F_window_cell P) (e1 : Bool) (r : List V) (i : Int) (hr : r.length ≤ 1000000) (H : List AObj) :
    ACalls P F.id [.list e1 3 (vC r), .int .i64 i] H (fun q H' => q = .agg (valC (celV r i)) ∧ H' = H) := by
  refine ACalls.pure (by simp [AVal.closed, AVal.isPure]) (acalls_of_body F.has ?_)
  (conv => whnf); refine ACalls.use (schema_Pick_spec F.schema_Pick e1 true r [i] hr (by simp) _) ?_
  conv => whnf
  refine And.intro (by decide) ?_
  conv => whnf
  exact .closed _ rfl

theorem ref17_argument_spec {P : Program} (F : F_warehouseref17_argument P) (e1 : Bool) (r : List V) (i : Int) (hr : r.length ≤ 1000000) (H : List AObj) :
    ACalls P F.id [.list e1 3 (vC r), .int .i64 i] H (fun q H' => q = .agg (valC (celV r i)) ∧ H' = H) := by
  refine ACalls.pure (by simp [AVal.closed, AVal.isPure]) (acalls_of_body F.has ?_)
  (conv => whnf); refine ACalls.use (ref5_Pick_spec F.warehouseref5_Pick e1 true r [i] hr (by simp) _) ?_
  conv => whnf
  refine And.intro (by decide) ?_
  conv => whnf
  exact .closed _ rfl

theorem window_integer_spec {P : Program} (F : F_window_integer P) (n : Int) (H : List AObj) :
    ACalls P F.id [.int .i64 n] H (fun r H' => r = .agg (valC (numV n)) ∧ H' = H) := by
  refine ACalls.pure rfl (acalls_of_body F.has ?_)
  (conv => whnf); refine recA (fun h => ?_) (fun h => ?_)
  · simp at h
    conv => whnf
    exact pubEq (by rw [numV, if_pos (by omega)]; rfl) rfl
  simp at h
  (conv => whnf); refine recA (fun h2 => ?_) (fun h2 => ?_)
  · simp at h2
    conv => whnf
    exact pubEq (by rw [numV, if_pos (by omega)]; rfl) rfl
  simp at h2
  conv => whnf
  exact pubEq (by rw [numV, if_neg (by omega)]; rfl) rfl

def winB (f : Int) : Bool := f == 1 || f == 3 || (decide (8 ≤ f) && decide (f ≤ 13))

theorem ref17_windowed_spec {P : Program} (F : F_warehouseref17_windowed P) (f : Int) (H : List AObj) :
    ACalls P F.id [.int .i64 f] H (fun r H' => r = .bool (winB f) ∧ H' = H) := by
  refine ACalls.pure rfl (acalls_of_body F.has ?_)
  (conv => whnf); refine recA (fun h => ?_) (fun h => ?_)
  · simp at h
    conv => whnf
    exact pubB (by simp [winB, h])
  simp at h
  (conv => whnf); refine recA (fun h2 => ?_) (fun h2 => ?_)
  · simp at h2
    conv => whnf
    exact pubB (by simp [winB, h2])
  simp at h2
  (conv => whnf); refine recA (fun h3 => ?_) (fun h3 => ?_)
  · simp at h3
    conv => whnf
    exact pubB (by simp [winB, h, h2, h3])
  simp at h3
  conv => whnf
  exact pubB (by simp [winB, h, h2]; omega)

def cmpK (is : List Int) (a b : List V) : Int := rowsCmp (pickL zV a is) (pickL zV b is)

theorem ref17_compare_spec {P : Program} (F : F_warehouseref17_compare P) (e1 e2 e3 : Bool) (a b : List V) (is : List Int) (ha : a.length ≤ 1000000) (hb : b.length ≤ 1000000) (hi : is.length ≤ 1000000) (H : List AObj) :
    ACalls P F.id [.list e1 3 (vC a), .list e2 3 (vC b), .list e3 1 (iC is)] H (fun r H' => r = .int .i64 (cmpK is a b) ∧ H' = H) := by
  refine ACalls.pure (by simp [AVal.closed, AVal.isPure]) (acalls_of_body F.has ?_)
  (conv => whnf); refine ACalls.use (ref5_Pick_spec F.warehouseref5_Pick e1 e3 a is ha hi _) ?_
  (conv => whnf); refine ACalls.use (ref5_Pick_spec F.warehouseref5_Pick e2 e3 b is hb hi _) ?_
  (conv => whnf); refine ACalls.use (ref1_CompareRows_spec F.warehouseref1_CompareRows false false (pickL zV a is) (pickL zV b is) (by rw [pickL_length]; exact hi) _) ?_
  conv => whnf
  exact .closed _ rfl

def cmpO (is : List Int) (a b : List V) : Int := if cmpK is a b ≠ 0 then cmpK is a b else rowsCmp a b

theorem partitions_1_spec {P : Program} (F : F_window_partitions_1 P) (e1 e2 e3 : Bool) (a b : List V) (is : List Int) (ha : a.length ≤ 1000000) (hb : b.length ≤ 1000000) (hi : is.length ≤ 1000000) (H : List AObj) :
    ACalls P F.id [.list e1 3 (vC a), .list e2 3 (vC b), .cptr [.list e3 1 (iC is)] 0] H (fun r H' => r = .int .i64 (cmpO is a b) ∧ H' = H) := by
  refine ACalls.pure (by simp [AVal.closed, AVal.isPure]) (acalls_of_body F.has ?_)
  (conv => whnf); refine ⟨_, schema_Pick_spec F.schema_Pick e1 e3 a is ha hi _, ?_⟩
  (conv => whnf); refine ⟨_, schema_Pick_spec F.schema_Pick e2 e3 b is hb hi _, ?_⟩
  (conv => whnf); refine ⟨_, value_CompareRows_spec F.value_CompareRows false false (pickL zV a is) (pickL zV b is) (by rw [pickL_length]; exact hi) _, ?_⟩
  (conv => whnf); refine recA (fun h => ?_) (fun h => ?_)
  · replace h : (!(cmpK is a b == 0)) = true := h
    simp at h
    conv => whnf
    exact pubI (by rw [cmpO, if_pos h]; rfl)
  · replace h : (!(cmpK is a b == 0)) = false := h
    simp at h
    (conv => whnf); refine ACalls.use (value_CompareRows_spec F.value_CompareRows e1 e2 a b ha _) ?_
    conv => whnf
    exact pubI (by rw [cmpO, if_neg (by simp [h])])

def fpL (r : List V) : List Int := r.flatMap fun v => encB [v]

theorem fpL_len (r : List V) (h : r.all validB = true) : (fpL r).length ≤ 67 * r.length := by
  induction r with
  | nil => simp [fpL]
  | cons v l ih =>
    simp only [List.all_cons, Bool.and_eq_true] at h
    have h1 := encV_len v h.1
    have h2 := ih h.2
    have e : fpL (v :: l) = encB [v] ++ fpL l := by simp [fpL]
    have e2 : (encB [v]).length = 1 + (encV v).length := by simp [encB]; omega
    rw [e, List.length_append, e2, List.length_cons]; omega

def strB (l : List Int) : ByteArray := ⟨(l.map fun n => UInt8.ofNat n.toNat).toArray⟩

set_option maxRecDepth 20000 in
theorem fingerprint_spec {P : Program} (F : F_window_fingerprint P) (ex : Bool) (r : List V) (hv : r.all validB = true) (hr : r.length ≤ 10000) (H : List AObj) :
    ACalls P F.id [.list ex 3 (vC r)] H (fun q H' => q = .str (strB (fpL r)) ∧ H' = H) := by
  refine ACalls.pure (by simp [AVal.closed, AVal.isPure]) (acalls_of_body F.has ?_)
  conv => whnf
  refine ⟨fun m ρ H1 => ∃ k : Nat, k + m = r.length ∧ H1 = [.arr 1 (bC (fpL (r.take k)))] ∧ Sv 26 [(3, .sl 0 (fpL (r.take k)).length 0 (fpL (r.take k)).length), (8, .list ex 3 (vC r)), (9, .int .i64 r.length), (10, .int .i64 k)] ρ, r.length, [(3, 1)], ?_, ?_⟩
  · exact ⟨0, by omega, rfl, Sv.intro rfl ⟨rfl, rfl, intEq (by rw [vC_length]), rfl, trivial⟩⟩
  rintro m ρ H1 ⟨k, hk, rfl, d, rfl⟩
  (conv => whnf); refine recA (fun hlt => ?_) (fun hlt => ?_)
  · simp at hlt
    obtain ⟨x, hx, _, hxm⟩ := get_drop hlt
    have hvx : [x].all validB = true := by simpa using List.all_eq_true.1 hv x hxm
    have hT : fpL (r.take (k + 1)) = fpL (r.take k) ++ encB [x] := by
      rw [List.take_add_one, hx]; simp [fpL]
    have hl1 : (fpL (r.take k)).length ≤ 67 * (r.take k).length := fpL_len _ (List.all_eq_true.2 fun v hv1 => List.all_eq_true.1 hv v (List.mem_of_mem_take hv1))
    have hl2 : (encB [x]).length ≤ 67 := by have := fpL_len [x] hvx; simpa [fpL] using this
    rw [List.length_take] at hl1
    (conv => whnf); refine And.intro (by omega) ?_
    (conv => whnf); refine recO (vC_at hx) ?_
    have henc := encode_list F.value_Encode true [x]
    rw [encR, if_neg (by simp), if_pos hvx] at henc
    (conv => whnf); refine ACalls.use (henc _) ?_
    (conv => whnf); refine recT (by rw [bC_length]; exact Nat.beq_refl _) ?_
    (conv => whnf); refine And.intro (⟨roomMul (by rw [bC_length]; omega) (by omega), roomB_le (by rw [bC_length]; omega), rfl, by rw [bC_length]⟩) ?_
    conv => whnf
    have hL : (bC (fpL (r.take k)) ++ bC (encB [x])).length = (fpL (r.take (k + 1))).length := by rw [hT, List.length_append, List.length_append, bC_length, bC_length]
    refine ⟨m - 1, by omega, Gp.one 0 1 (bC (fpL (r.take (k + 1)))) (by rw [hT, bC_append]; rfl) (pureEs_bC _) rfl ?_ fun ρ1 h => ⟨k + 1, by omega, rfl, h⟩⟩
    exact ⟨pubSl (k := 0) rfl rfl hL hL, clL .., .closed _ rfl, pub_int (wrapI _ (by omega) (by omega)), trivial⟩
  · simp [vC_length] at hlt
    rw [List.take_of_length_le (by omega)]
    (conv => whnf); refine recT (by rw [bC_length]; exact Nat.beq_refl _) ?_
    have hE : ((bC (fpL r)).drop 0).take (fpL r).length = bC (fpL r) := by rw [List.drop_zero]; exact List.take_of_length_le (by rw [bC_length]; omega)
    conv => whnf
    refine ⟨_, by rw [hE]; exact bytesOf_bC _, ?_⟩
    conv => whnf
    exact pubEq (by rw [strB]) rfl

end Go.AW

namespace Go.AW
variable [Draws]
theorem isCmp_O (is : List Int) : IsCmp (cmpO is) where
  vals a b := by
    unfold cmpO cmpK
    split
    · exact rowsCmp_vals _ _
    · exact rowsCmp_vals _ _
  anti a b := by
    have h1 := rowsCmp_anti (pickL zV a is) (pickL zV b is)
    have h2 := rowsCmp_anti a b
    unfold cmpO cmpK
    rw [h1, h2]
    by_cases h : rowsCmp (pickL zV a is) (pickL zV b is) = 0
    · rw [if_neg (by simp [h]), if_neg (by simp [h])]
    · rw [if_pos h, if_pos (by omega)]
  zero a b := by
    unfold cmpO cmpK
    by_cases h : rowsCmp (pickL zV a is) (pickL zV b is) = 0
    · rw [if_neg (by simp [h])]; exact rowsCmp_zero a b
    · rw [if_pos h]
      refine ⟨fun h2 => absurd h2 h, fun e => ?_⟩
      rw [e] at h
      exact absurd ((rowsCmp_zero _ _).2 rfl) h
  trans a b d h1 h2 := by
    unfold cmpO cmpK at *
    by_cases e1 : rowsCmp (pickL zV a is) (pickL zV b is) = 0
    · rw [if_neg (by simp [e1])] at h1
      rw [(rowsCmp_zero _ _).1 e1]
      by_cases e2 : rowsCmp (pickL zV b is) (pickL zV d is) = 0
      · rw [if_neg (by simp [e2])] at h2 ⊢; exact rowsCmp_trans _ _ _ h1 h2
      · rw [if_pos e2] at h2 ⊢; exact h2
    · rw [if_pos e1] at h1
      by_cases e2 : rowsCmp (pickL zV b is) (pickL zV d is) = 0
      · rw [← (rowsCmp_zero _ _).1 e2, if_pos e1]; exact h1
      · rw [if_pos e2] at h2
        have := rowsCmp_trans _ _ _ h1 h2
        rw [if_pos (by omega)]; exact this

section
variable {α : Type} {c : α → α → Int}
theorem IsCmp.le_trans (h : IsCmp c) {x y z : α} (h1 : c x y ≤ 0) (h2 : c y z ≤ 0) : c x z ≤ 0 := by
  by_cases e1 : c x y = 0
  · rw [(h.zero x y).1 e1]; exact h2
  · by_cases e2 : c y z = 0
    · rw [← (h.zero y z).1 e2]; exact h1
    · have := h.trans x y z (by omega) (by omega); omega

def SrtC (c : α → α → Int) (l : List α) : Prop := l.Pairwise fun x y => c x y ≤ 0

theorem SrtC.uniq (h : IsCmp c) {a b : List α} (ha : SrtC c a) (hb : SrtC c b) (hp : a.Perm b) : a = b :=
  hp.eq_of_pairwise (fun x y _ _ h1 h2 => by
    have := h.anti x y
    exact (h.zero x y).1 (by omega)) ha hb

def insC (c : α → α → Int) (x : α) : List α → List α
  | [] => [x]
  | y :: l => if c x y ≤ 0 then x :: y :: l else y :: insC c x l

def srtC (c : α → α → Int) : List α → List α
  | [] => []
  | x :: l => insC c x (srtC c l)

theorem insC_perm (x : α) : ∀ l : List α, (insC c x l).Perm (x :: l)
  | [] => .refl _
  | y :: l => by
    rw [insC]
    split
    · exact .refl _
    · exact ((insC_perm x l).cons y).trans (.swap x y l)

theorem srtC_perm : ∀ l : List α, (srtC c l).Perm l
  | [] => .refl _
  | x :: l => (insC_perm x _).trans ((srtC_perm l).cons x)

theorem insC_srt (h : IsCmp c) (x : α) : ∀ l : List α, SrtC c l → SrtC c (insC c x l)
  | [], _ => by simp [insC, SrtC]
  | y :: l, hs => by
    have h1 := List.pairwise_cons.1 hs
    rw [insC]
    split
    · rename_i hx
      refine List.pairwise_cons.2 ⟨fun z hz => ?_, hs⟩
      rcases List.mem_cons.1 hz with rfl | hz
      · exact hx
      · exact h.le_trans hx (h1.1 z hz)
    · rename_i hx
      refine List.pairwise_cons.2 ⟨fun z hz => ?_, insC_srt h x l h1.2⟩
      rcases List.mem_cons.1 ((insC_perm x l).mem_iff.1 hz) with rfl | hz
      · have := h.anti z y; omega
      · exact h1.1 z hz

theorem srtC_srt (h : IsCmp c) : ∀ l : List α, SrtC c (srtC c l)
  | [] => List.Pairwise.nil
  | x :: l => insC_srt h x _ (srtC_srt h l)

theorem srtC_eq (h : IsCmp c) {a b : List α} (ha : SrtC c a) (hp : a.Perm b) : a = srtC c b :=
  SrtC.uniq h ha (srtC_srt h b) (hp.trans (srtC_perm b).symm)

theorem srtC_length (l : List α) : (srtC c l).length = l.length := (srtC_perm l).length_eq

theorem srtC_mem {l : List α} {x : α} : x ∈ srtC c l ↔ x ∈ l := (srtC_perm l).mem_iff

end
def srtO (is : List Int) (l : List (List V)) : List (List V) := srtC (cmpO is) l

def SortR (P : Program) (f g : FuncId) : Prop :=
  ∀ (e3 : Bool) (is : List Int) (l : List (List V)), is.length ≤ 1000000 → l ≠ [] → l.length ≤ 1000000 → (∀ r ∈ l, r.length ≤ 1000) → ∀ (H : List AObj) (i0 : Nat), H[i0]? = some (.arr 1 (rwC l)) →
    ACalls P f [.sl i0 l.length 0 l.length, .fn g [.cptr [.list e3 1 (iC is)] 0]] H (fun r H' => r = .tuple [] ∧ H' = H.set i0 (.arr 1 (rwC (srtO is l))))

end Go.AW

namespace Go.AW
variable [Draws]
attribute [local irreducible] ACalls
instance lawfulBytes : LawfulBEq ByteArray where
  rfl {a} := by rw [beq_bytes]; simp
  eq_of_beq {a b} h := by
    rw [beq_bytes] at h
    obtain ⟨⟨a⟩⟩ := a
    obtain ⟨⟨b⟩⟩ := b
    simp at h
    subst h; rfl

def keyB (is : List Int) (r : List V) : ByteArray := strB (fpL (pickL zV r is))

def mpK (b : Nat) : List ByteArray → List (AVal × AVal)
  | [] => []
  | k :: ks => (.str k, .int .i64 b) :: mpK (b + 1) ks

def hdC (b : Nat) : List (List (List V)) → List (List AVal)
  | [] => []
  | g :: gs => [.sl b g.length 0 g.length] :: hdC (b + 1) gs

def pOb (gs : List (List (List V))) : List AObj := gs.map fun g => .arr 1 (rwC g)

def grpsK (is : List Int) (R : List (List V)) (ks : List ByteArray) : List (List (List V)) := ks.map fun k => R.filter fun r => keyB is r == k

theorem hdC_length : ∀ (b : Nat) (gs : List (List (List V))), (hdC b gs).length = gs.length
  | _, [] => rfl
  | b, g :: gs => by rw [hdC, List.length_cons, List.length_cons, hdC_length]

theorem hdC_at : ∀ {b : Nat} {gs : List (List (List V))} {i : Nat} {g : List (List V)}, gs[i]? = some g → (hdC b gs)[i]? = some [.sl (b + i) g.length 0 g.length]
  | _, [], _, _, h => by simp at h
  | b, x :: gs, 0, g, h => by simp at h; subst h; rfl
  | b, x :: gs, i + 1, g, h => by
    rw [hdC, List.getElem?_cons_succ, hdC_at (by simpa using h)]
    rw [show b + 1 + i = b + (i + 1) from by omega]

theorem hdC_append : ∀ (b : Nat) (gs hs : List (List (List V))), hdC b (gs ++ hs) = hdC b gs ++ hdC (b + gs.length) hs
  | _, [], _ => rfl
  | b, g :: gs, hs => by rw [List.cons_append, hdC, hdC, hdC_append, List.cons_append, List.length_cons, show b + 1 + gs.length = b + (gs.length + 1) from by omega]

theorem hdC_set : ∀ (b : Nat) (gs : List (List (List V))) (i : Nat) (g : List (List V)), hdC b (gs.set i g) = (hdC b gs).set i [.sl (b + i) g.length 0 g.length]
  | _, [], _, _ => rfl
  | b, x :: gs, 0, g => rfl
  | b, x :: gs, i + 1, g => by rw [List.set_cons_succ, hdC, hdC, List.set_cons_succ, hdC_set, show b + 1 + i = b + (i + 1) from by omega]

theorem pOb_at {gs : List (List (List V))} {i : Nat} {g : List (List V)} (h : gs[i]? = some g) : (pOb gs)[i]? = some (.arr 1 (rwC g)) := by rw [pOb, List.getElem?_map, h]; rfl

theorem pOb_length (gs : List (List (List V))) : (pOb gs).length = gs.length := List.length_map ..

theorem mpK_find : ∀ (ks : List ByteArray) (b : Nat) (k : ByteArray), (k ∉ ks ∧ mfind 2 (.str k) (mpK b ks) = none) ∨ ∃ i, ks[i]? = some k ∧ mfind 2 (.str k) (mpK b ks) = some (.int .i64 ((b + i : Nat) : Int))
  | [], b, k => .inl ⟨by simp, rfl⟩
  | x :: ks, b, k => by
    have hx : eqCell 2 (.str k) (.str x) = some (k == x) := by rw [beq_bytes]; rfl
    by_cases e : k = x
    · subst e
      exact .inr ⟨0, rfl, by rw [mpK, mfind, hx]; simp⟩
    · have hf : (k == x) = false := by simpa using e
      rw [mpK]
      simp only [mfind, hx, hf]
      rcases mpK_find ks (b + 1) k with ⟨h1, h2⟩ | ⟨i, h1, h2⟩
      · exact .inl ⟨by simp [e, h1], h2⟩
      · exact .inr ⟨i + 1, h1, by rw [h2, show b + 1 + i = b + (i + 1) from by omega]⟩

theorem mpK_put : ∀ (ks : List ByteArray) (b : Nat) (k : ByteArray), k ∉ ks → mput 2 (.str k) (.int .i64 ((b + ks.length : Nat) : Int)) (mpK b ks) = mpK b (ks ++ [k])
  | [], b, k, _ => rfl
  | x :: ks, b, k, h => by
    have hx : eqCell 2 (.str k) (.str x) = some (k == x) := by rw [beq_bytes]; rfl
    have hf : (k == x) = false := by simp at h ⊢; exact h.1
    rw [List.cons_append, mpK, mpK]
    simp only [mput, hx, hf]
    rw [List.length_cons, show b + (ks.length + 1) = b + 1 + ks.length from by omega, mpK_put ks (b + 1) k (by simp at h; exact h.2)]

theorem mpK_ok (k : ByteArray) : ∀ (ks : List ByteArray) (b : Nat), keyOk 2 (.str k) (mpK b ks) = true := fun ks => by
  have h : ∀ (ks : List ByteArray) (b : Nat), (mpK b ks).all (fun kv => (eqCell 2 (.str k) kv.1).isSome) = true := by
    intro ks
    induction ks with
    | nil => intro b; rfl
    | cons x ks ih => intro b; rw [mpK, List.all_cons, ih]; rfl
  intro b
  rw [keyOk, h]; rfl

theorem nodup_inj {α : Type} {l : List α} (h : l.Nodup) {i j : Nat} (hi : i < l.length) (hj : j < l.length) (e : l[i] = l[j]) : i = j := by
  have hp := List.pairwise_iff_getElem.1 h
  rcases Nat.lt_trichotomy i j with h1 | h1 | h1
  · exact absurd e (hp i j hi hj h1)
  · exact h1
  · exact absurd e.symm (hp j i hj hi h1)

theorem grpsK_new {is : List Int} {R : List (List V)} {n : Nat} {r : List V} {ks : List ByteArray} (hr : R[n]? = some r) (hk : ∀ x ∈ R.take n, keyB is x ∈ ks) (hn : keyB is r ∉ ks) :
    grpsK is (R.take (n + 1)) (ks ++ [keyB is r]) = grpsK is (R.take n) ks ++ [[r]] := by
  have e : R.take (n + 1) = R.take n ++ [r] := by rw [List.take_add_one, hr]; rfl
  rw [grpsK, List.map_append, e]
  congr 1
  · refine List.map_congr_left fun k hk2 => ?_
    rw [List.filter_append]
    have : (keyB is r == k) = false := by
      refine beq_eq_false_iff_ne.2 fun h => hn (h ▸ hk2)
    simp [this]
  · simp only [List.map_cons, List.map_nil, List.filter_append]
    have : (R.take n).filter (fun x => keyB is x == keyB is r) = [] := List.filter_eq_nil_iff.2 fun x hx h => hn (by
      have := hk x hx
      rwa [show keyB is x = keyB is r from by simpa using h] at this)
    simp [this]

theorem grpsK_old {is : List Int} {R : List (List V)} {n i : Nat} {r : List V} {ks : List ByteArray} (hnd : ks.Nodup) (hr : R[n]? = some r) (hi : ks[i]? = some (keyB is r)) :
    grpsK is (R.take (n + 1)) ks = (grpsK is (R.take n) ks).set i ((R.take n).filter (fun x => keyB is x == keyB is r) ++ [r]) := by
  have e : R.take (n + 1) = R.take n ++ [r] := by rw [List.take_add_one, hr]; rfl
  refine List.ext_getElem? fun j => ?_
  rw [List.getElem?_set, grpsK, grpsK, List.getElem?_map, List.getElem?_map, List.length_map, e]
  have hil := (List.getElem?_eq_some_iff.1 hi).1
  by_cases hj : i = j
  · subst hj
    rw [if_pos rfl, if_pos hil, hi]
    simp
  · rw [if_neg hj]
    cases hkj : ks[j]? with
    | none => rfl
    | some k =>
      have hne : (keyB is r == k) = false := by
        refine beq_eq_false_iff_ne.2 fun h => hj ?_
        have hjl := (List.getElem?_eq_some_iff.1 hkj).1
        exact nodup_inj hnd hil hjl (by
          rw [(List.getElem?_eq_some_iff.1 hi).2, (List.getElem?_eq_some_iff.1 hkj).2]; exact h)
      simp [hne]

end Go.AW

namespace Go.AW
variable [Draws]
attribute [local irreducible] ACalls
def kyS (is : List Int) (R : List (List V)) : List ByteArray := R.foldl (fun ks r => if keyB is r ∈ ks then ks else ks ++ [keyB is r]) []

theorem kyS_snoc (is : List Int) (R : List (List V)) (r : List V) : kyS is (R ++ [r]) = if keyB is r ∈ kyS is R then kyS is R else kyS is R ++ [keyB is r] := by
  rw [kyS, List.foldl_append]; rfl

theorem kyS_facts (is : List Int) (R : List (List V)) : ∀ n, (kyS is (R.take n)).Nodup ∧ (∀ r ∈ R.take n, keyB is r ∈ kyS is (R.take n)) ∧ (∀ k ∈ kyS is (R.take n), ∃ r ∈ R.take n, keyB is r = k)
  | 0 => by simp [kyS]
  | n + 1 => by
    obtain ⟨h1, h2, h3⟩ := kyS_facts is R n
    cases hr : R[n]? with
    | none =>
      have hle : R.length ≤ n := by simpa using hr
      rw [List.take_of_length_le (by omega)]
      rw [List.take_of_length_le hle] at h1 h2 h3
      exact ⟨h1, h2, h3⟩
    | some r =>
      have e : R.take (n + 1) = R.take n ++ [r] := by rw [List.take_add_one, hr]; rfl
      rw [e, kyS_snoc]
      by_cases hk : keyB is r ∈ kyS is (R.take n)
      · rw [if_pos hk]
        refine ⟨h1, fun x hx => ?_, fun k hk2 => ?_⟩
        · rcases List.mem_append.1 hx with hx | hx
          · exact h2 x hx
          · rw [List.mem_singleton.1 hx]; exact hk
        · obtain ⟨x, hx, hxe⟩ := h3 k hk2
          exact ⟨x, List.mem_append_left _ hx, hxe⟩
      · rw [if_neg hk]
        refine ⟨List.nodup_append.2 ⟨h1, by simp, fun a ha b hb => ?_⟩, fun x hx => ?_, fun k hk2 => ?_⟩
        · rw [List.mem_singleton.1 hb]; rintro rfl; exact hk ha
        · rcases List.mem_append.1 hx with hx | hx
          · exact List.mem_append_left _ (h2 x hx)
          · rw [List.mem_singleton.1 hx]; exact List.mem_append_right _ (by simp)
        · rcases List.mem_append.1 hk2 with hk2 | hk2
          · obtain ⟨x, hx, hxe⟩ := h3 k hk2
            exact ⟨x, List.mem_append_left _ hx, hxe⟩
          · exact ⟨r, List.mem_append_right _ (by simp), (List.mem_singleton.1 hk2).symm⟩

def parL (is ord : List Int) (R : List (List V)) : List (List (List V)) := (grpsK is R (kyS is R)).map (srtO ord)

def ppC (G : List (List (List V))) : List (List AVal) := G.map fun g => [.list false 1 (rwC g)]

theorem ppC_length (G : List (List (List V))) : (ppC G).length = G.length := List.length_map ..

theorem ppC_at {G : List (List (List V))} {k : Nat} {g : List (List V)} (h : G[k]? = some g) : (ppC G)[k]? = some [.list false 1 (rwC g)] := by rw [ppC, List.getElem?_map, h]; rfl

theorem pureEs_ppC (G : List (List (List V))) : pureEs (ppC G) = true := by simp [pureEs, ppC, AVal.isPure]

theorem kyS_len (is : List Int) (R : List (List V)) : (kyS is R).length ≤ R.length := by
  have h : ∀ (R : List (List V)) (ks : List ByteArray), (R.foldl (fun ks r => if keyB is r ∈ ks then ks else ks ++ [keyB is r]) ks).length ≤ ks.length + R.length := by
    intro R
    induction R with
    | nil => intro ks; simp
    | cons r R ih =>
      intro ks
      rw [List.foldl_cons, List.length_cons]
      have := ih (if keyB is r ∈ ks then ks else ks ++ [keyB is r])
      split at this
      · rename_i h1; rw [if_pos h1]; omega
      · rename_i h1; rw [if_neg h1]; simp at this; omega
  have := h R []
  simpa [kyS] using this

theorem pOb_set (gs : List (List (List V))) (i : Nat) (g : List (List V)) : pOb (gs.set i g) = (pOb gs).set i (.arr 1 (rwC g)) := by rw [pOb, pOb, List.map_set]

theorem setO_to {H : List AObj} {n : Nat} {o : AObj} {k : List AObj → Prop} {H' : List AObj} (h : H.set n o = H') (hk : k H') : setO H n o k := by rw [setO_eq, h]; exact hk

theorem hdC_srt (ord : List Int) : ∀ (b : Nat) (G : List (List (List V))), hdC b (G.map (srtO ord)) = hdC b G
  | _, [] => rfl
  | b, g :: G => by rw [List.map_cons, hdC, hdC, hdC_srt, srtO, srtC_length]

theorem obPar (m : List (AVal × AVal)) (G : List (List (List V))) : ObP (.map m :: .arr 1 (hdC 2 G) :: pOb G) [1] (.arr 1 (hdC 2 G)) (.arr 1 (ppC G)) := by
  refine .map 1 _ _ (by rw [ppC_length, hdC_length]) (fun i e e1 h1 h2 => ?_) (fun i j e e1 d d1 h1 h2 h3 h4 => ?_)
  all_goals
    have hi : i < G.length := by have := (List.getElem?_eq_some_iff.1 h2).1; rwa [ppC_length] at this
    have hg : G[i]? = some G[i] := List.getElem?_eq_getElem hi
    rw [hdC_at hg] at h1
    rw [ppC_at hg] at h2
    cases h1
    cases h2
  · rfl
  · rcases j with _ | j
    · cases h3
      cases h4
      refine ⟨?_, rfl⟩
      have h := Pub.frz (H1 := .map m :: .arr 1 (hdC 2 G) :: pOb G) (n := 0) (ids := [1]) (2 + i) (rwC G[i]).length 0 (rwC G[i]).length 1 (rwC G[i]) (by rw [Nat.add_comm]; exact pOb_at hg) rfl (pureEs_rwC _) (by simp; omega)
      rw [List.drop_zero, List.take_length, rwC_length] at h
      exact h
    · simp at h3

set_option maxRecDepth 20000 in
theorem partitions_spec {P : Program} (F : F_window_partitions P) (hS : SortR P F.slices_SortFunc_LLValue_LValue.id F.window_partitions_1.id) (e1 e2 e3 : Bool) (R : List (List V)) (is ord : List Int)
    (hR : R.length ≤ 4096) (hr : ∀ r ∈ R, r.length ≤ 1000 ∧ r.all validB = true) (hi : is.length ≤ 10000) (ho : ord.length ≤ 1000000) (H : List AObj) :
    ACalls P F.id [.list e1 1 (rwC R), .list e2 1 (iC is), .list e3 1 (iC ord)] H (fun r H' => r = .list false 1 (ppC (parL is ord R)) ∧ H' = H) := by
  refine ACalls.pure (by simp [AVal.closed, AVal.isPure]) (acalls_of_body F.has ?_)
  conv => whnf
  refine Ghost.none (n := 65) (live := [(0, .list e1 1 (rwC R)), (1, .list e2 1 (iC is)), (5, .cptr [.list e3 1 (iC ord)] 0), (6, .nil)]) rfl ⟨clL .., clL .., .frzP 0 1 0 0 1 [[.list e3 1 (iC ord)]] _ rfl rfl rfl rfl (by simp), .closed _ rfl, trivial⟩ ?_
  rintro ρ ⟨d, rfl⟩
  conv => whnf
  refine ⟨fun m ρ H1 => ∃ k : Nat, k + m = R.length ∧ H1 = .map (mpK 0 (kyS is (R.take k))) :: .arr 1 (hdC 2 (grpsK is (R.take k) (kyS is (R.take k)))) :: pOb (grpsK is (R.take k) (kyS is (R.take k))) ∧
    Sv 65 [(1, .list e2 1 (iC is)), (5, .cptr [.list e3 1 (iC ord)] 0), (7, .mp 0), (8, .sl 1 (kyS is (R.take k)).length 0 (kyS is (R.take k)).length), (17, .list e1 1 (rwC R)), (18, .int .i64 R.length), (19, .int .i64 k)] ρ, R.length, [(8, 1)], ?_, ?_⟩
  · exact ⟨0, by omega, rfl, Sv.intro rfl ⟨rfl, rfl, rfl, rfl, rfl, intEq (by rw [rwC_length]), rfl, trivial⟩⟩
  rintro m ρ H1 ⟨k, hk, rfl, d, rfl⟩
  (conv => whnf); refine recA (fun hlt => ?_) (fun hlt => ?_)
  · simp at hlt
    obtain ⟨r, hx, _, hxm⟩ := get_drop hlt
    obtain ⟨hrl, hrv⟩ := hr r hxm
    obtain ⟨hnd, hin, hex⟩ := kyS_facts is R k
    have hksl := kyS_len is (R.take k)
    rw [List.length_take] at hksl
    have eT : R.take (k + 1) = R.take k ++ [r] := by rw [List.take_add_one, hx]; rfl
    have hky := kyS_snoc is (R.take k) r
    rw [← eT] at hky
    generalize hks : kyS is (R.take k) = ks at *
    have hgl : (grpsK is (R.take k) ks).length = ks.length := by rw [grpsK, List.length_map]
    (conv => whnf); refine And.intro (by omega) ?_
    (conv => whnf); refine recO (rwC_at hx) ?_
    (conv => whnf); refine ACalls.use (schema_Pick_spec F.schema_Pick false e2 r is (by omega) (by omega) _) ?_
    (conv => whnf); refine ACalls.use (fingerprint_spec F.window_fingerprint false (pickL zV r is) (pick_valid hrv is) (by rw [pickL_length]; omega) _) ?_
    (conv => whnf); refine recT (mpK_ok (keyB is r) ks 0) ?_
    rcases mpK_find ks 0 (keyB is r) with ⟨hno, hf⟩ | ⟨i, hi1, hf⟩
    · conv => whnf
      refine recN hf ?_
      rw [if_neg hno] at hky
      (conv => whnf); refine recT (by rw [hdC_length, hgl]; exact Nat.beq_refl _) ?_
      (conv => whnf); refine recT (mpK_ok (keyB is r) ks 0) ?_
      (conv => whnf); refine recT (by rw [hdC_length, hgl]; exact Nat.beq_refl _) ?_
      (conv => whnf); refine And.intro (⟨by show _ ≤ 1099511627776; simp; omega, roomB_le (by simp; omega), rfl, by rw [hdC_length, hgl]⟩) ?_
      have hlen2 : (hdC 2 (grpsK is (R.take k) ks) ++ [[AVal.nil]]).length = ks.length + 1 := by rw [List.length_append, hdC_length, hgl]; rfl
      (conv => whnf); refine recT (Nat.beq_refl _) ?_
      (conv => whnf); refine And.intro (by simp [hdC_length, hgl]; omega) ?_
      (conv => whnf); refine recT (Nat.beq_refl _) ?_
      have hidx : (hdC 2 (grpsK is (R.take k) ks) ++ [AVal.nil] :: List.replicate 0 [AVal.nil])[0 + (ks.length : Int).toNat]? = some [AVal.nil] := by
        rw [Nat.zero_add, Int.toNat_natCast, List.getElem?_append_right (by rw [hdC_length, hgl]; exact Nat.le_refl _), hdC_length, hgl, Nat.sub_self]; rfl
      (conv => whnf); refine recO (hidx) ?_
      (conv => whnf); refine And.intro (⟨by show _ ≤ 1099511627776; simp, by show _ ≤ 1099511627776; simp⟩) ?_
      rw [snocK_eq]
      (conv => whnf); refine recT (Nat.beq_refl _) ?_
      (conv => whnf); refine And.intro (by simp [hdC_length, hgl]; omega) ?_
      (conv => whnf); refine recT (Nat.beq_refl _) ?_
      (conv => whnf); refine recO (hidx) ?_
      conv => whnf
      have hG := grpsK_new (is := is) hx hin hno
      refine ⟨m - 1, by omega, Gp.keep rfl ?_ fun ρ1 h => ⟨k + 1, by omega, ?_, h⟩⟩
      · refine ⟨rfl, rfl, rfl, slEq ?_ ?_, rfl, rfl, intEq (wrapI _ (by omega) (by omega)), trivial⟩
        · rw [hky]; simp [hdC_length, hgl]
        · rw [hky]; simp [hdC_length, hgl]
      · have hmp := mpK_put ks 0 (keyB is r) hno
        rw [Nat.zero_add] at hmp
        rw [hky, hG, ← hmp]
        show AObj.map (mput 2 (.str (keyB is r)) (.int .i64 ks.length) (mpK 0 ks)) :: AObj.arr 1 (setEs (hdC 2 (grpsK is (R.take k) ks) ++ [[AVal.nil]]) (0 + (ks.length : Int).toNat) [AVal.sl (0 + (AObj.map (mput 2 (.str (keyB is r)) (.int .i64 ks.length) (mpK 0 ks)) :: AObj.arr 1 (hdC 2 (grpsK is (R.take k) ks) ++ [[AVal.nil]]) :: pOb (grpsK is (R.take k) ks)).length) 1 0 1]) :: (pOb (grpsK is (R.take k) ks) ++ [AObj.arr 1 [[.list false 3 (vC r)]]]) = _
        rw [setEs_eq, hdC_append, Nat.zero_add, Int.toNat_natCast, List.set_append_right _ _ (by rw [hdC_length, hgl]; exact Nat.le_refl _), hdC_length, hgl, Nat.sub_self]
        have e5 : 0 + (AObj.map (mput 2 (.str (keyB is r)) (.int .i64 ks.length) (mpK 0 ks)) :: AObj.arr 1 (hdC 2 (grpsK is (R.take k) ks) ++ [[AVal.nil]]) :: pOb (grpsK is (R.take k) ks)).length = 2 + ks.length := by
          rw [List.length_cons, List.length_cons, pOb_length, hgl]; omega
        rw [e5, pOb, pOb, List.map_append]
        rfl
    · conv => whnf
      refine recO hf ?_
      have hin2 : keyB is r ∈ ks := List.mem_of_getElem? hi1
      rw [if_pos hin2] at hky
      have hil := (List.getElem?_eq_some_iff.1 hi1).1
      have hgi : (grpsK is (R.take k) ks)[i]? = some ((R.take k).filter fun x => keyB is x == keyB is r) := by rw [grpsK, List.getElem?_map, hi1]; rfl
      have hgil : ((R.take k).filter fun x => keyB is x == keyB is r).length ≤ 4096 := by
        have := List.length_filter_le (fun x => keyB is x == keyB is r) (R.take k)
        rw [List.length_take] at this; omega
      have hG := grpsK_old hnd hx hi1
      generalize hg : ((R.take k).filter fun x => keyB is x == keyB is r) = g at *
      rw [Nat.zero_add]
      (conv => whnf); refine recT (by rw [hdC_length, hgl]; exact Nat.beq_refl _) ?_
      (conv => whnf); refine And.intro (by omega) ?_
      (conv => whnf); refine recT (by rw [hdC_length, hgl]; exact Nat.beq_refl _) ?_
      have hidx : (hdC 2 (grpsK is (R.take k) ks))[0 + ((i : Nat) : Int).toNat]? = some [AVal.sl (2 + i) g.length 0 g.length] := by
        rw [Nat.zero_add, Int.toNat_natCast]; exact hdC_at hgi
      (conv => whnf); refine recO (hidx) ?_
      have hob : (AObj.map (mpK 0 ks) :: AObj.arr 1 (hdC 2 (grpsK is (R.take k) ks)) :: pOb (grpsK is (R.take k) ks))[2 + i]? = some (.arr 1 (rwC g)) := by
        rw [Nat.add_comm]; exact pOb_at hgi
      (conv => whnf); refine recO (hob) ?_
      (conv => whnf); refine recT (by rw [rwC_length]; exact Nat.beq_refl _) ?_
      (conv => whnf); refine And.intro (⟨by show _ ≤ 1099511627776; simp; omega, roomB_le (by simp; omega), rfl, by rw [rwC_length]⟩) ?_
      have hset : (AObj.map (mpK 0 ks) :: AObj.arr 1 (hdC 2 (grpsK is (R.take k) ks)) :: pOb (grpsK is (R.take k) ks)).set (2 + i) (.arr 1 (rwC g ++ [[.list false 3 (vC r)]])) = AObj.map (mpK 0 ks) :: AObj.arr 1 (hdC 2 (grpsK is (R.take k) ks)) :: pOb ((grpsK is (R.take k) ks).set i (g ++ [r])) := by
        rw [pOb_set, rwC_append, Nat.add_comm]; rfl
      refine setO_to hset ?_
      (conv => whnf); refine recT (by rw [hdC_length, hgl]; exact Nat.beq_refl _) ?_
      (conv => whnf); refine And.intro (by omega) ?_
      (conv => whnf); refine recT (by rw [hdC_length, hgl]; exact Nat.beq_refl _) ?_
      (conv => whnf); refine recO (hidx) ?_
      conv => whnf
      refine ⟨m - 1, by omega, Gp.keep rfl ?_ fun ρ1 h => ⟨k + 1, by omega, ?_, h⟩⟩
      · exact ⟨rfl, rfl, rfl, by rw [hky]; rfl, rfl, rfl, intEq (wrapI _ (by omega) (by omega)), trivial⟩
      · rw [hky, hG, setEs_eq, hdC_set, Nat.zero_add, Int.toNat_natCast]
        show AObj.map _ :: AObj.arr 1 ((hdC 2 (grpsK is (R.take k) ks)).set i [AVal.sl (2 + i) (rwC g ++ [[AVal.list false 3 (vC r)]]).length 0 (rwC g ++ [[AVal.list false 3 (vC r)]]).length]) :: _ = _
        have e7 : (rwC g ++ [[AVal.list false 3 (vC r)]]).length = (g ++ [r]).length := by rw [List.length_append, rwC_length, List.length_append]; rfl
        rw [e7]
  · simp [rwC_length] at hlt
    obtain ⟨hnd, hin, hex⟩ := kyS_facts is R k
    rw [List.take_of_length_le hlt] at hnd hin hex ⊢
    have hksl := kyS_len is R
    have hgl : (grpsK is R (kyS is R)).length = (kyS is R).length := by rw [grpsK, List.length_map]
    have hgm : ∀ (i : Nat) (g : List (List V)), (grpsK is R (kyS is R))[i]? = some g → g ≠ [] ∧ g.length ≤ 4096 ∧ ∀ r ∈ g, r.length ≤ 1000 := by
      intro i g hg
      rw [grpsK, List.getElem?_map] at hg
      obtain ⟨key, hkey, rfl⟩ := Option.map_eq_some_iff.1 hg
      obtain ⟨x, hx1, hx2⟩ := hex key (List.mem_of_getElem? hkey)
      have := List.length_filter_le (fun x => keyB is x == key) R
      exact ⟨fun h => by have := List.filter_eq_nil_iff.1 h x hx1; simp [hx2] at this, by omega, fun r hr1 => (hr r (List.mem_filter.1 hr1).1).1⟩
    (conv => whnf); refine recT (by rw [hdC_length, hgl]; exact Nat.beq_refl _) ?_
    conv => whnf
    generalize hks : kyS is R = ks at *
    refine ⟨fun m ρ H1 => ∃ j : Nat, j + m = ks.length ∧ H1 = .map (mpK 0 ks) :: .arr 1 (hdC 2 (grpsK is R ks)) :: pOb (((grpsK is R ks).take j).map (srtO ord) ++ (grpsK is R ks).drop j) ∧
      Sv 65 [(5, .cptr [.list e3 1 (iC ord)] 0), (8, .sl 1 ks.length 0 ks.length), (54, .sl 1 ks.length 0 ks.length), (55, .int .i64 ks.length), (56, .int .i64 j)] ρ, ks.length, [], ?_, ?_⟩
    · exact ⟨0, by omega, by rw [List.take_zero, List.drop_zero]; rfl, Sv.intro rfl ⟨rfl, rfl, rfl, rfl, rfl, trivial⟩⟩
    rintro m' ρ H1 ⟨j, hj, rfl, d, rfl⟩
    (conv => whnf); refine recA (fun hlt2 => ?_) (fun hlt2 => ?_)
    · simp at hlt2
      obtain ⟨g, hg, hgd, _⟩ := get_drop (show j < (grpsK is R ks).length by omega)
      obtain ⟨hg0, hg1, hg2⟩ := hgm j g hg
      (conv => whnf); refine recT (by rw [hdC_length, hgl]; exact Nat.beq_refl _) ?_
      (conv => whnf); refine And.intro (by omega) ?_
      (conv => whnf); refine recT (by rw [hdC_length, hgl]; exact Nat.beq_refl _) ?_
      have hidx : (hdC 2 (grpsK is R ks))[0 + ((j : Nat) : Int).toNat]? = some [AVal.sl (2 + j) g.length 0 g.length] := by
        rw [Nat.zero_add, Int.toNat_natCast]; exact hdC_at hg
      (conv => whnf); refine recO (hidx) ?_
      have htl : (((grpsK is R ks).take j).map (srtO ord)).length = j := by rw [List.length_map, List.length_take]; omega
      have hgj : (((grpsK is R ks).take j).map (srtO ord) ++ (grpsK is R ks).drop j)[j]? = some g := by
        rw [List.getElem?_append_right (by omega), htl, Nat.sub_self, List.getElem?_drop, Nat.add_zero]; exact hg
      conv => whnf
      refine ACalls.retH (hS e3 ord g ho hg0 (by omega) hg2 _ (2 + j) ?_) ?_
      · rw [Nat.add_comm]; exact pOb_at hgj
      have hset : (AObj.map (mpK 0 ks) :: AObj.arr 1 (hdC 2 (grpsK is R ks)) :: pOb (((grpsK is R ks).take j).map (srtO ord) ++ (grpsK is R ks).drop j)).set (2 + j) (.arr 1 (rwC (srtO ord g))) =
          AObj.map (mpK 0 ks) :: AObj.arr 1 (hdC 2 (grpsK is R ks)) :: pOb (((grpsK is R ks).take (j + 1)).map (srtO ord) ++ (grpsK is R ks).drop (j + 1)) := by
        have e : ((grpsK is R ks).take (j + 1)).map (srtO ord) ++ (grpsK is R ks).drop (j + 1) = (((grpsK is R ks).take j).map (srtO ord) ++ (grpsK is R ks).drop j).set j (srtO ord g) := by
          rw [List.set_append_right _ _ (by omega), htl, Nat.sub_self, hgd, List.set_cons_zero, List.take_add_one, hg, List.map_append, List.append_assoc]; rfl
        rw [e, pOb_set, Nat.add_comm]; rfl
      rw [hset]
      conv => whnf
      refine ⟨m' - 1, by omega, Gp.keep rfl ?_ fun ρ1 h => ⟨j + 1, by omega, rfl, h⟩⟩
      exact ⟨rfl, rfl, rfl, rfl, intEq (wrapI _ (by omega) (by omega)), trivial⟩
    · simp at hlt2
      rw [List.take_of_length_le (by omega), List.drop_eq_nil_of_le (by omega), List.append_nil]
      have hpar : parL is ord R = (grpsK is R ks).map (srtO ord) := by rw [parL, hks]
      rw [← hpar]
      have hpl : (parL is ord R).length = ks.length := by rw [hpar, List.length_map, hgl]
      have hhd : hdC 2 (grpsK is R ks) = hdC 2 (parL is ord R) := by rw [hpar, hdC_srt]
      rw [hhd]
      conv => whnf
      refine Ghost.some (n := 65) (H1 := [.arr 1 (ppC (parL is ord R))]) (live := [(8, .sl 0 ks.length 0 ks.length)]) [1] (by simp) ⟨⟨_, rfl, obPar _ _⟩, trivial⟩ rfl ⟨.keep 1 _ _ _ 0 rfl, trivial⟩ ?_
      rintro ρ ⟨d, rfl⟩
      conv => whnf
      have hpf := pubF (H1 := [.arr 1 (ppC (parL is ord R))]) (n := 0) (id := 0) (ep := ks.length) (len := ks.length) rfl (by rw [ppC_length, hpl]) (by rw [ppC_length, hpl]) (pureEs_ppC _)
      exact hpf

end Go.AW

namespace Go.AW
variable [Draws]
attribute [local irreducible] ACalls
structure Itm where
  nm : ByteArray
  f : Int
  cl : ByteArray
  n : Int
  ex : Bool
  z : Nat
  es : List (List AVal)

def itmC (x : Itm) : List AVal := [.str x.nm, .int .i64 x.f, .str x.cl, .int .i64 x.n, .list x.ex x.z x.es]

def imC (l : List Itm) : List (List AVal) := l.map itmC

theorem imC_length (l : List Itm) : (imC l).length = l.length := by simp [imC]

theorem imC_at {l : List Itm} {k : Nat} {x : Itm} (h : l[k]? = some x) : (imC l)[k]? = some (itmC x) := by simp [imC, h]

theorem itmC_cell (x : Itm) : ((itmC x).all AVal.isCell) = true := rfl

def bdB (k : Int) (r : List V) : Bool := !((celV r k).kind == 0) && !((celV r k).kind == 2)

def itemE (x : Itm) (k : Int) (R : List (List V)) : Int :=
  if winB x.f = false then 8 else if (x.f = 10 ∨ x.f = 11) ∧ (x.n < 1 ∨ 4096 < x.n) then 1 else if x.f = 3 ∧ R.any (bdB k) = true then 7 else 0

def itemsE (R : List (List V)) : List Itm → List Int → Int
  | x :: xs, k :: ks => if itemE x k R ≠ 0 then itemE x k R else itemsE R xs ks
  | _, _ => 0

def chkE (its : List Itm) (asv : List Int) (R : List (List V)) : Int := if its.length ≠ asv.length then 8 else itemsE R its asv

theorem winB_iff (f : Int) : winB f = true ↔ f = 1 ∨ f = 3 ∨ (8 ≤ f ∧ f ≤ 13) := by simp [winB, or_assoc]

theorem any_take {α : Type} {p : α → Bool} {R : List α} {j : Nat} {r : α} (h : R[j]? = some r) (h1 : (R.take j).any p = false) (h2 : p r = false) : (R.take (j + 1)).any p = false := by
  rw [List.take_add_one, h, List.any_append, h1]; simp [h2]

set_option maxRecDepth 20000 in
theorem ref17_item_spec {P : Program} (F : F_warehouseref17_item P) (ex : Bool) (x : Itm) (k : Int) (R : List (List V)) (hR : R.length ≤ 1000000) (hr : ∀ r ∈ R, r.length ≤ 1000000) (H : List AObj) :
    ACalls P F.id [.agg (itmC x), .int .i64 k, .list ex 1 (rwC R)] H (fun r H' => r = .int .i64 (itemE x k R) ∧ H' = H) := by
  refine ACalls.pure rfl (acalls_of_body F.has ?_)
  (conv => whnf); refine ACalls.use (ref17_windowed_spec F.warehouseref17_windowed x.f _) ?_
  (conv => whnf); refine recA (fun hw => ?_) (fun hw => ?_)
  · simp at hw
    conv => whnf
    exact pubI (by rw [itemE, if_pos hw])
  have hw2 : winB x.f = true := by simpa using hw
  rw [winB_iff] at hw2
  by_cases h2 : (x.f = 10 ∨ x.f = 11) ∧ (x.n < 1 ∨ 4096 < x.n)
  · have fin : itemE x k R = 1 := by rw [itemE, if_neg (by simpa using hw), if_pos h2]
    rcases h2 with ⟨h3 | h3, h4 | h4⟩
    all_goals
      repeat ((conv => whnf); first | refine And.intro (by omega) ?_ | refine recT (by first | rfl | (simp; done) | (simp; omega)) ?_ | refine recF (by first | rfl | (simp; done) | (simp; omega)) ?_)
      (try (conv => whnf))
      exact pubI fin.symm
  have hz : itemE x k R = if x.f = 3 ∧ R.any (bdB k) = true then 7 else 0 := by rw [itemE, if_neg (by simpa using hw), if_neg h2]
  have hw3 : x.f = 3 ∨ (x.f ≠ 3 ∧ x.f ≠ 10 ∧ x.f ≠ 11) ∨ (x.f = 10 ∧ 1 ≤ x.n ∧ x.n ≤ 4096) ∨ (x.f = 11 ∧ 1 ≤ x.n ∧ x.n ≤ 4096) := by omega
  clear hw2 h2
  rcases hw3 with h3 | h3 | h3 | h3
  · repeat ((conv => whnf); first | refine And.intro (by omega) ?_ | refine recT (by first | rfl | (simp; done) | (simp; omega)) ?_ | refine recF (by first | rfl | (simp; done) | (simp; omega)) ?_)
    (conv => whnf)
    refine ⟨fun m ρ H1 => ∃ j : Nat, j + m = R.length ∧ (R.take j).any (bdB k) = false ∧ H1 = [.arr 5 [itmC x]] ∧ Sv 56 [(1, .int .i64 k), (2, .list ex 1 (rwC R)), (3, .ptr 0 1 0 0), (7, .int .i64 j)] ρ, R.length, [], ?_, ?_⟩
    · exact ⟨0, by omega, rfl, rfl, Sv.intro rfl ⟨rfl, rfl, rfl, rfl, trivial⟩⟩
    rintro m ρ H1 ⟨j, hj, ha, rfl, d, rfl⟩
    (conv => whnf); refine recA (fun hlt => ?_) (fun hlt => ?_)
    · simp [rwC_length] at hlt
      obtain ⟨r, hr1, _, hrm⟩ := get_drop hlt
      (conv => whnf); refine recT (by simp [h3]) ?_
      (conv => whnf); refine And.intro (by omega) ?_
      (conv => whnf); refine recO (rwC_at hr1) ?_
      (conv => whnf); refine ACalls.use (ref17_argument_spec F.warehouseref17_argument false r k (hr r hrm) _) ?_
      (conv => whnf); refine recA (fun h0 => ?_) (fun h0 => ?_)
      · replace h0 : (!((celV r k).kind == 0)) = true := h0
        (conv => whnf); refine recA (fun h1 => ?_) (fun h1 => ?_)
        · replace h1 : (!((celV r k).kind == 2)) = true := h1
          (conv => whnf)
          exact pubI (by rw [hz, if_pos ⟨h3, List.any_eq_true.2 ⟨r, hrm, by rw [bdB, h0, h1]; rfl⟩⟩])
        · replace h1 : (!((celV r k).kind == 2)) = false := h1
          (conv => whnf)
          refine ⟨m - 1, by omega, Gp.one 0 5 [itmC x] rfl rfl rfl ?_ fun ρ1 h => ⟨j + 1, by omega, any_take hr1 ha (by rw [bdB, h0, h1]; rfl), rfl, h⟩⟩
          exact ⟨.closed _ rfl, clL .., .keepP 0 1 0 0 0 rfl, pub_int (wrapI _ (by omega) (by omega)), trivial⟩
      · replace h0 : (!((celV r k).kind == 0)) = false := h0
        (conv => whnf)
        refine ⟨m - 1, by omega, Gp.one 0 5 [itmC x] rfl rfl rfl ?_ fun ρ1 h => ⟨j + 1, by omega, any_take hr1 ha (by rw [bdB, h0]; rfl), rfl, h⟩⟩
        exact ⟨.closed _ rfl, clL .., .keepP 0 1 0 0 0 rfl, pub_int (wrapI _ (by omega) (by omega)), trivial⟩
    · simp [rwC_length] at hlt
      rw [List.take_of_length_le hlt] at ha
      (conv => whnf)
      exact pubI (by rw [hz, if_neg (by simp [ha])])
  · repeat ((conv => whnf); first | refine And.intro (by omega) ?_ | refine recT (by first | rfl | (simp; done) | (simp; omega)) ?_ | refine recF (by first | rfl | (simp; done) | (simp; omega)) ?_)
    (conv => whnf)
    refine ⟨fun m ρ H1 => ∃ j : Nat, j + m = R.length ∧ (R.take j).any (bdB k) = false ∧ H1 = [.arr 5 [itmC x]] ∧ Sv 56 [(1, .int .i64 k), (2, .list ex 1 (rwC R)), (3, .ptr 0 1 0 0), (7, .int .i64 j)] ρ, R.length, [], ?_, ?_⟩
    · exact ⟨0, by omega, rfl, rfl, Sv.intro rfl ⟨rfl, rfl, rfl, rfl, trivial⟩⟩
    rintro m ρ H1 ⟨j, hj, ha, rfl, d, rfl⟩
    (conv => whnf); refine recA (fun hlt => ?_) (fun hlt => ?_)
    · simp [rwC_length] at hlt
      have hn3 : x.f ≠ 3 := by omega
      repeat ((conv => whnf); first | refine And.intro (by omega) ?_ | refine recT (by first | rfl | (simp; done) | (simp; omega)) ?_ | refine recF (by first | rfl | (simp; done) | (simp; omega)) ?_)
      (conv => whnf)
      exact pubI (by rw [hz, if_neg (by simp [hn3])])
    · simp [rwC_length] at hlt
      rw [List.take_of_length_le hlt] at ha
      (conv => whnf)
      exact pubI (by rw [hz, if_neg (by simp [ha])])
  · repeat ((conv => whnf); first | refine And.intro (by omega) ?_ | refine recT (by first | rfl | (simp; done) | (simp; omega)) ?_ | refine recF (by first | rfl | (simp; done) | (simp; omega)) ?_)
    (conv => whnf)
    refine ⟨fun m ρ H1 => ∃ j : Nat, j + m = R.length ∧ (R.take j).any (bdB k) = false ∧ H1 = [.arr 5 [itmC x]] ∧ Sv 56 [(1, .int .i64 k), (2, .list ex 1 (rwC R)), (3, .ptr 0 1 0 0), (7, .int .i64 j)] ρ, R.length, [], ?_, ?_⟩
    · exact ⟨0, by omega, rfl, rfl, Sv.intro rfl ⟨rfl, rfl, rfl, rfl, trivial⟩⟩
    rintro m ρ H1 ⟨j, hj, ha, rfl, d, rfl⟩
    (conv => whnf); refine recA (fun hlt => ?_) (fun hlt => ?_)
    · simp [rwC_length] at hlt
      have hn3 : x.f ≠ 3 := by omega
      repeat ((conv => whnf); first | refine And.intro (by omega) ?_ | refine recT (by first | rfl | (simp; done) | (simp; omega)) ?_ | refine recF (by first | rfl | (simp; done) | (simp; omega)) ?_)
      (conv => whnf)
      exact pubI (by rw [hz, if_neg (by simp [hn3])])
    · simp [rwC_length] at hlt
      rw [List.take_of_length_le hlt] at ha
      (conv => whnf)
      exact pubI (by rw [hz, if_neg (by simp [ha])])
  · repeat ((conv => whnf); first | refine And.intro (by omega) ?_ | refine recT (by first | rfl | (simp; done) | (simp; omega)) ?_ | refine recF (by first | rfl | (simp; done) | (simp; omega)) ?_)
    (conv => whnf)
    refine ⟨fun m ρ H1 => ∃ j : Nat, j + m = R.length ∧ (R.take j).any (bdB k) = false ∧ H1 = [.arr 5 [itmC x]] ∧ Sv 56 [(1, .int .i64 k), (2, .list ex 1 (rwC R)), (3, .ptr 0 1 0 0), (7, .int .i64 j)] ρ, R.length, [], ?_, ?_⟩
    · exact ⟨0, by omega, rfl, rfl, Sv.intro rfl ⟨rfl, rfl, rfl, rfl, trivial⟩⟩
    rintro m ρ H1 ⟨j, hj, ha, rfl, d, rfl⟩
    (conv => whnf); refine recA (fun hlt => ?_) (fun hlt => ?_)
    · simp [rwC_length] at hlt
      have hn3 : x.f ≠ 3 := by omega
      repeat ((conv => whnf); first | refine And.intro (by omega) ?_ | refine recT (by first | rfl | (simp; done) | (simp; omega)) ?_ | refine recF (by first | rfl | (simp; done) | (simp; omega)) ?_)
      (conv => whnf)
      exact pubI (by rw [hz, if_neg (by simp [hn3])])
    · simp [rwC_length] at hlt
      rw [List.take_of_length_le hlt] at ha
      (conv => whnf)
      exact pubI (by rw [hz, if_neg (by simp [ha])])

end Go.AW

namespace Go.AW
variable [Draws]
attribute [local irreducible] ACalls
theorem itemsE_drop {R : List (List V)} {its : List Itm} {asv : List Int} {k : Nat} {x : Itm} {a : Int} (h1 : its.drop k = x :: its.drop (k + 1)) (h2 : asv.drop k = a :: asv.drop (k + 1)) :
    itemsE R (its.drop k) (asv.drop k) = if itemE x a R ≠ 0 then itemE x a R else itemsE R (its.drop (k + 1)) (asv.drop (k + 1)) := by rw [h1, h2, itemsE]

set_option maxRecDepth 20000 in
theorem window_check_spec {P : Program} (F : F_window_check P) (e1 e2 e3 : Bool) (its : List Itm) (asv : List Int) (R : List (List V)) (hI : its.length ≤ 1000000) (hA : asv.length ≤ 1000000) (hR : R.length ≤ 1000000) (hr : ∀ r ∈ R, r.length ≤ 1000000) (H : List AObj) :
    ACalls P F.id [.list e1 5 (imC its), .list e2 1 (iC asv), .list e3 1 (rwC R)] H (fun r H' => r = .int .i64 (chkE its asv R) ∧ H' = H) := by
  refine ACalls.pure (by simp [AVal.closed, AVal.isPure]) (acalls_of_body F.has ?_)
  (conv => whnf); refine recA (fun hn => ?_) (fun hn => ?_)
  · simp [imC_length, iC_length] at hn
    conv => whnf
    exact pubI (by rw [chkE, if_pos (by omega)])
  simp [imC_length, iC_length] at hn
  have hlen : its.length = asv.length := by omega
  conv => whnf
  refine ⟨fun m ρ H1 => ∃ k : Nat, k + m = its.length ∧ chkE its asv R = itemsE R (its.drop k) (asv.drop k) ∧ H1 = [] ∧ Sv 86 [(1, .list e2 1 (iC asv)), (2, .list e3 1 (rwC R)), (17, .list e1 5 (imC its)), (18, .int .i64 its.length), (19, .int .i64 k)] ρ, its.length, [], ?_, ?_⟩
  · exact ⟨0, by omega, by rw [chkE, if_neg (by omega)]; rfl, rfl, Sv.intro rfl ⟨rfl, rfl, rfl, intEq (by rw [imC_length]), rfl, trivial⟩⟩
  rintro m ρ H1 ⟨k, hk, hg, rfl, d, rfl⟩
  (conv => whnf); refine recA (fun hlt => ?_) (fun hlt => ?_)
  · simp at hlt
    obtain ⟨x, hx, hxd, hxm⟩ := get_drop hlt
    obtain ⟨a, ha, had, _⟩ := get_drop (show k < asv.length by omega)
    have hgo := itemsE_drop (R := R) hxd had
    rw [← hg] at hgo
    (conv => whnf); refine And.intro (by omega) ?_
    (conv => whnf); refine recO (imC_at hx) ?_
    by_cases hw : winB x.f = false
    · have hE : chkE its asv R = 8 := by rw [hgo, if_pos (by rw [itemE, if_pos hw]; decide), itemE, if_pos hw]
      have hw2 : ¬ (x.f = 1 ∨ x.f = 3 ∨ (8 ≤ x.f ∧ x.f ≤ 13)) := fun h => by rw [(winB_iff _).2 h] at hw; cases hw
      by_cases h8 : x.f < 8
      · repeat ((conv => whnf); first | refine And.intro (by omega) ?_ | refine recT (by first | rfl | (simp; done) | (simp; omega)) ?_ | refine recF (by first | rfl | (simp; done) | (simp; omega)) ?_)
        conv => whnf
        exact pubI hE.symm
      · repeat ((conv => whnf); first | refine And.intro (by omega) ?_ | refine recT (by first | rfl | (simp; done) | (simp; omega)) ?_ | refine recF (by first | rfl | (simp; done) | (simp; omega)) ?_)
        conv => whnf
        exact pubI hE.symm
    have hw2 := (winB_iff _).1 (by simpa using hw)
    by_cases h2 : (x.f = 10 ∨ x.f = 11) ∧ (x.n < 1 ∨ 4096 < x.n)
    · have hE : chkE its asv R = 1 := by rw [hgo, itemE, if_neg hw, if_pos h2]; rfl
      rcases h2 with ⟨h3 | h3, h4 | h4⟩
      all_goals
        repeat ((conv => whnf); first | refine And.intro (by omega) ?_ | refine recT (by first | rfl | (simp; done) | (simp; omega)) ?_ | refine recF (by first | rfl | (simp; done) | (simp; omega)) ?_)
        (conv => whnf)
        exact pubI hE.symm
    have hz : itemE x a R = if x.f = 3 ∧ R.any (bdB a) = true then 7 else 0 := by rw [itemE, if_neg hw, if_neg h2]
    have hw3 : x.f = 3 ∨ (x.f ≠ 3 ∧ x.f ≠ 10 ∧ x.f ≠ 11) ∨ (x.f = 10 ∧ 1 ≤ x.n ∧ x.n ≤ 4096) ∨ (x.f = 11 ∧ 1 ≤ x.n ∧ x.n ≤ 4096) := by omega
    by_cases hn3 : x.f ≠ 3
    · have hE0 : itemE x a R = 0 := by rw [hz, if_neg (by simp [hn3])]
      replace hgo : itemsE R (its.drop (k + 1)) (asv.drop (k + 1)) = chkE its asv R := by rw [hgo, if_neg (by simp [hE0])]
      rcases hw3 with h3 | h3 | h3 | h3
      · exact absurd h3 hn3
      · by_cases h1 : x.f = 1
        · repeat ((conv => whnf); first | refine And.intro (by omega) ?_ | refine recT (by first | rfl | (simp; done) | (simp; omega)) ?_ | refine recF (by first | rfl | (simp; done) | (simp; omega)) ?_)
          conv => whnf
          refine ⟨m - 1, by omega, Gp.none rfl ?_ fun ρ1 h => ⟨k + 1, by omega, by rw [← hgo], rfl, h⟩⟩
          exact ⟨clL .., clL .., clL .., .closed _ rfl, pub_int (wrapI _ (by omega) (by omega)), trivial⟩
        · repeat ((conv => whnf); first | refine And.intro (by omega) ?_ | refine recT (by first | rfl | (simp; done) | (simp; omega)) ?_ | refine recF (by first | rfl | (simp; done) | (simp; omega)) ?_)
          conv => whnf
          refine ⟨m - 1, by omega, Gp.none rfl ?_ fun ρ1 h => ⟨k + 1, by omega, by rw [← hgo], rfl, h⟩⟩
          exact ⟨clL .., clL .., clL .., .closed _ rfl, pub_int (wrapI _ (by omega) (by omega)), trivial⟩
      all_goals
        repeat ((conv => whnf); first | refine And.intro (by omega) ?_ | refine recT (by first | rfl | (simp; done) | (simp; omega)) ?_ | refine recF (by first | rfl | (simp; done) | (simp; omega)) ?_)
        (conv => whnf)
        refine ⟨m - 1, by omega, Gp.none rfl ?_ fun ρ1 h => ⟨k + 1, by omega, by rw [← hgo], rfl, h⟩⟩
        exact ⟨clL .., clL .., clL .., .closed _ rfl, pub_int (wrapI _ (by omega) (by omega)), trivial⟩
    · have h3 : x.f = 3 := by omega
      clear hw hw2 hw3 hn3 h2
      repeat ((conv => whnf); first | refine And.intro (by omega) ?_ | refine recT (by first | rfl | (simp; done) | (simp; omega)) ?_ | refine recF (by first | rfl | (simp; done) | (simp; omega)) ?_)
      conv => whnf
      refine ⟨fun m ρ H1 => ∃ j : Nat, j + m = R.length ∧ (R.take j).any (bdB a) = false ∧ Sv 86 [(1, .list e2 1 (iC asv)), (2, .list e3 1 (rwC R)), (7, .int .i64 k), (17, .list e1 5 (imC its)), (18, .int .i64 its.length), (19, .int .i64 k), (65, .list e3 1 (rwC R)), (66, .int .i64 R.length), (67, .int .i64 j)] ρ, R.length, [], ?_, ?_⟩
      · exact ⟨0, by omega, rfl, Sv.intro rfl ⟨rfl, rfl, rfl, rfl, rfl, rfl, rfl, intEq (by rw [rwC_length]), rfl, trivial⟩⟩
      rintro m' ρ H1 ⟨j, hj, hany, d, rfl⟩
      (conv => whnf); refine recA (fun hlt2 => ?_) (fun hlt2 => ?_)
      · simp at hlt2
        obtain ⟨r, hr1, _, hrm⟩ := get_drop hlt2
        (conv => whnf); refine And.intro (by omega) ?_
        (conv => whnf); refine recO (rwC_at hr1) ?_
        (conv => whnf); refine And.intro (by omega) ?_
        (conv => whnf); refine recO (iC_at ha) ?_
        (conv => whnf); refine ACalls.use (window_cell_spec F.window_cell false r a (hr r hrm) _) ?_
        (conv => whnf); refine recA (fun h0 => ?_) (fun h0 => ?_)
        · replace h0 : (!((celV r a).kind == 0)) = true := h0
          (conv => whnf); refine recA (fun h1 => ?_) (fun h1 => ?_)
          · replace h1 : (!((celV r a).kind == 2)) = true := h1
            conv => whnf
            have hE : itemE x a R = 7 := by rw [hz, if_pos ⟨h3, List.any_eq_true.2 ⟨r, hrm, by rw [bdB, h0, h1]; rfl⟩⟩]
            exact pubI (by rw [hgo, hE]; rfl)
          · replace h1 : (!((celV r a).kind == 2)) = false := h1
            conv => whnf
            refine ⟨m' - 1, by omega, Gp.keep rfl ?_ fun ρ1 h => ⟨j + 1, by omega, any_take hr1 hany (by rw [bdB, h0, h1]; rfl), h⟩⟩
            exact ⟨rfl, rfl, rfl, rfl, rfl, rfl, rfl, rfl, intEq (wrapI _ (by omega) (by omega)), trivial⟩
        · replace h0 : (!((celV r a).kind == 0)) = false := h0
          conv => whnf
          refine ⟨m' - 1, by omega, Gp.keep rfl ?_ fun ρ1 h => ⟨j + 1, by omega, any_take hr1 hany (by rw [bdB, h0]; rfl), h⟩⟩
          exact ⟨rfl, rfl, rfl, rfl, rfl, rfl, rfl, rfl, intEq (wrapI _ (by omega) (by omega)), trivial⟩
      · simp at hlt2
        rw [List.take_of_length_le hlt2] at hany
        have hE0 : itemE x a R = 0 := by rw [hz, if_neg (by simp [hany])]
        replace hgo : itemsE R (its.drop (k + 1)) (asv.drop (k + 1)) = chkE its asv R := by rw [hgo, if_neg (by simp [hE0])]
        conv => whnf
        refine ⟨m - 1, by omega, Gp.none rfl ?_ fun ρ1 h => ⟨k + 1, by omega, by rw [← hgo], rfl, h⟩⟩
        exact ⟨clL .., clL .., clL .., .closed _ rfl, pub_int (wrapI _ (by omega) (by omega)), trivial⟩
  · simp at hlt
    conv => whnf
    rw [List.drop_eq_nil_of_le hlt] at hg
    exact pubI (by rw [hg]; rfl)

end Go.AW

