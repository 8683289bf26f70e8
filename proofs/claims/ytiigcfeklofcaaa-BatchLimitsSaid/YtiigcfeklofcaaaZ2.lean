/-
  An abstract machine over the model, the code of functions on it, and their contracts: what the claim needs.
  No condition: definitions, plain laws, contracts over any program that has this code.
-/
import Derived.Test.YtiigcfeklofcaaaZ1
set_option linter.all false
namespace Go.AW
section
variable {P : Program} {C C' : Nat → Nat} {τ τ' : Nat → Option Loc} {H H' : List AObj} {w w' : World}
theorem ACalls.lift {f : FuncId} {args : List AVal} {Q0 Q : AVal → List AObj → Prop} (ha : args.all AVal.closed = true) (h : ACalls P f args [] Q0)
    (hq : ∀ r H1, Q0 r H1 → ∃ ids r' Hn, Pub H1 H.length ids r r' ∧ ids.Nodup ∧ ids.length = Hn.length ∧ (∀ (k id : Nat), ids[k]? = some id → Hn[k]? = H1[id]? ∧ ∃ esz es, H1[id]? = some (.arr esz es) ∧ pureEs es = true) ∧ Q r' (H ++ Hn)) :
    ACalls P f args H Q := by
  intro C τ w vs hw hl hr
  have hw0 : WF C τ [] w := ⟨fun id o h => by simp at h, fun id o h => by simp at h, fun id o l h => by simp at h, fun id l h => by simp at h, fun i j li lj h => by simp at h, hw.lt⟩
  have hr0 : ∀ (i : Nat) (a : AVal) (v : Value), args[i]? = some a → vs[i]? = some v → Rel C w τ [] a v := fun i a v h1 h2 =>
    (hr i a v h1 h2).closed (List.all_eq_true.1 ha a (List.mem_of_getElem? h1)) (fun _ => Nat.le_refl _) (fun _ _ _ => rfl)
  have hc := h C τ w vs hw0 hl hr0
  have fin : ∀ (e : Ending) (w' : World), (∃ v r C' τ' H', e = .returned v ∧ Q0 r H' ∧ Rel C' w' τ' H' r v ∧ St w (PrCall τ [] w) C' τ' H' w' ∧ Step C τ [] w C' τ' H' w') →
      ∃ v r C' τ' H', e = .returned v ∧ Q r H' ∧ Rel C' w' τ' H' r v ∧ St w (PrCall τ H w) C' τ' H' w' ∧ Step C τ H w C' τ' H' w' := by
    rintro e w' ⟨v, r, C1, τ1, H1, he, hq0, hrel, hst, hstep⟩
    obtain ⟨ids, r', Hn, hpub, hnd, hlen, hkeep, hQ⟩ := hq r H1 hq0
    have prall : ∀ b, b < w.heap.size → PrCall τ [] w b := fun b hb => ⟨hb, by rintro ⟨id, l, h, _⟩; simp at h⟩
    have hheap : ∀ b, b < w.heap.size → w'.heap[b]? = w.heap[b]? := fun b hb => hst.fr.prot b (prall b hb)
    have hnew : ∀ id l, id < H1.length → τ1 id = some l → w.heap.size ≤ l.b := fun id l h1 h2 => by
      rcases Nat.lt_or_ge l.b w.heap.size with h3 | h3
      · exact absurd (prall _ h3) (hst.own _ ⟨id, l, h1, h2, rfl⟩)
      · exact h3
    let τ2 : Nat → Option Loc := fun i => if i < H.length then τ i else match ids[i - H.length]? with
      | some id => τ1 id
      | none => none
    have hτ : ∀ i, i < H.length → τ2 i = τ i := fun i hi => by simp only [τ2, if_pos hi]
    have hτn : ∀ k id, ids[k]? = some id → τ2 (H.length + k) = τ1 id := fun k id hk => by
      simp only [τ2, if_neg (by omega : ¬ H.length + k < H.length), Nat.add_sub_cancel_left, hk]
    have hidlt : ∀ k id, ids[k]? = some id → id < H1.length := fun k id hk => by
      obtain ⟨_, esz, es, h1, _⟩ := hkeep k id hk
      exact (List.getElem?_eq_some_iff.1 h1).1
    have getn : ∀ k, (H ++ Hn)[H.length + k]? = Hn[k]? := fun k => by rw [List.getElem?_append_right (by omega), Nat.add_sub_cancel_left]
    have hC2 : ∀ b, b < w.heap.size → commit C1 τ1 H1 ids b = C b := fun b hb => by
      rw [commit_other fun id l h1 _ h2 h3 => by have := hnew id l h1 h2; omega]
      exact hstep.old b hb
    have step : Step C τ H w (commit C1 τ1 H1 ids) τ2 (H ++ Hn) w' := by
      refine ⟨fun b => Nat.le_trans (hstep.le b) (commit_le hst.wf b), fun b i hi => hstep.cell b i hi, fun id o ho => ?_, hstep.grow, hC2⟩
      have hi := (List.getElem?_eq_some_iff.1 ho).1
      exact ⟨o, by rw [List.getElem?_append_left hi]; exact ho, by rw [hτ id hi]; exact o.after_refl _⟩
    
    have split : ∀ i, i < (H ++ Hn).length → i < H.length ∨ ∃ k id, i = H.length + k ∧ ids[k]? = some id := fun i hi => by
      rcases Nat.lt_or_ge i H.length with h1 | h1
      · exact .inl h1
      · have hk : i - H.length < ids.length := by rw [List.length_append] at hi; omega
        exact .inr ⟨i - H.length, ids[i - H.length], by omega, List.getElem?_eq_getElem hk⟩
    refine ⟨v, r', commit C1 τ1 H1 ids, τ2, H ++ Hn, he, hQ, pub_rel hst.wf (fun k id hk => ⟨fun esz es he => ⟨es, by rw [getn, (hkeep k id hk).1]; exact he, rfl⟩, hτn k id hk⟩) hpub hrel, ⟨⟨?_, ?_, ?_, ?_, ?_, ?_⟩, ?_, ?_, ?_⟩, step⟩
    · intro i o ho
      rcases split i (List.getElem?_eq_some_iff.1 ho).1 with h1 | ⟨k, id, rfl, hk⟩
      · rw [List.getElem?_append_left h1] at ho; exact hw.ok i o ho
      · rw [getn, (hkeep k id hk).1] at ho; exact hst.wf.ok id o ho
    · intro i o ho ht
      rcases split i (List.getElem?_eq_some_iff.1 ho).1 with h1 | ⟨k, id, rfl, hk⟩
      · rw [List.getElem?_append_left h1] at ho; rw [hτ i h1] at ht; exact hw.virt i o ho ht
      · rw [getn, (hkeep k id hk).1] at ho; rw [hτn k id hk] at ht; exact hst.wf.virt id o ho ht
    · intro i o l ho ht
      rcases split i (List.getElem?_eq_some_iff.1 ho).1 with h1 | ⟨k, id, rfl, hk⟩
      · rw [List.getElem?_append_left h1] at ho; rw [hτ i h1] at ht
        exact (hw.objs i o l ho ht).mono step (hheap _ (hw.locLt h1 ht))
      · obtain ⟨g1, esz, es, g2, g3⟩ := hkeep k id hk
        rw [getn, g1, g2] at ho; cases ho
        rw [hτn k id hk] at ht
        obtain ⟨a1, cells, elem, fz, a2, a3, a4, a5⟩ := hst.wf.objs id _ l g2 ht
        refine ⟨a1, cells, elem, fz, a2, a3, a4, fun i j e d hi hd => ?_⟩
        obtain ⟨x, hx1, hx2⟩ := a5 i j e d hi hd
        exact ⟨x, hx1, .rd ((hx2.pure (pureEs_get g3 hi hd)).mono (commit_le hst.wf) (fun _ _ _ => rfl))⟩
    · intro i l hi ht
      rcases split i hi with h1 | ⟨k, id, rfl, hk⟩
      · rw [hτ i h1] at ht
        rw [hC2 _ (hw.locLt h1 ht)]; exact hw.comm i l h1 ht
      · rw [hτn k id hk] at ht
        have hlt := hidlt k id hk
        rw [commit_other fun id' l' h1 h2 h3 h4 => h2 (by
          have := hst.wf.inj id' id l' l h1 hlt h3 ht h4
          subst this; exact List.mem_of_getElem? hk)]
        exact hst.wf.comm id l hlt ht
    · intro i j li lj hi hj hti htj hb
      rcases split i hi with h1 | ⟨k, id, rfl, hk⟩ <;> rcases split j hj with h2 | ⟨k', id', rfl, hk'⟩
      · rw [hτ i h1] at hti; rw [hτ j h2] at htj; exact hw.inj i j li lj h1 h2 hti htj hb
      · rw [hτ i h1] at hti; rw [hτn k' id' hk'] at htj
        have := hw.locLt h1 hti; have := hnew id' lj (hidlt k' id' hk') htj; omega
      · rw [hτn k id hk] at hti; rw [hτ j h2] at htj
        have := hw.locLt h2 htj; have := hnew id li (hidlt k id hk) hti; omega
      · rw [hτn k id hk] at hti; rw [hτn k' id' hk'] at htj
        have e := hst.wf.inj id id' li lj (hidlt k id hk) (hidlt k' id' hk') hti htj hb
        subst e
        have hki := (List.getElem?_eq_some_iff.1 hk)
        have hki' := (List.getElem?_eq_some_iff.1 hk')
        have hne := List.pairwise_iff_getElem.1 hnd
        rcases Nat.lt_trichotomy k k' with h3 | h3 | h3
        · exact absurd (hki.2.trans hki'.2.symm) (hne k k' hki.1 hki'.1 h3)
        · omega
        · exact absurd (hki'.2.trans hki.2.symm) (hne k' k hki'.1 hki.1 h3)
    · intro b hb
      by_cases h1 : ∃ id l, id < H1.length ∧ τ1 id = some l ∧ l.b = b
      · obtain ⟨id, l, h1, h2, rfl⟩ := h1
        exact hst.wf.locLt h1 h2
      · rw [commit_other fun id l g1 _ g2 g3 => h1 ⟨id, l, g1, g2, g3⟩] at hb
        exact hst.wf.lt b hb
    · exact ⟨hst.fr.os, hst.fr.tape, hst.fr.output, hst.fr.size, fun b hb => hheap b hb.1⟩
    · rintro b ⟨i, l, hi, ht, rfl⟩ hp
      rcases split i hi with h1 | ⟨k, id, rfl, hk⟩
      · rw [hτ i h1] at ht; exact hp.2 ⟨i, l, h1, ht, rfl⟩
      · rw [hτn k id hk] at ht
        have := hnew id l (hidlt k id hk) ht; have := hp.1; omega
    · exact fun b hb => hb.1
  unfold CallsX at hc ⊢
  split at hc
  · exact Calls.mono hc fun e w' hh => fin e w' hh
  · exact fin _ _ hc
  · exact hc

theorem Pub.any {H1 : List AObj} {n m : Nat} {v r : AVal} (h : Pub H1 n [] v r) : Pub H1 m [] v r := by
  induction h with
  | closed v h => exact .closed v h
  | frz id ep off len esz es ho hep hp hid => exact .frz id ep off len esz es ho hep hp hid
  | keep id ep off len k hk => simp at hk
  | dead v => exact .dead v
  | keepP id ep idx fld k hk => simp at hk
  | tuple vs rs hl h ih => exact .tuple vs rs hl ih
  | agg vs rs hl h ih => exact .agg vs rs hl ih

theorem ACalls.lift0 {f : FuncId} {args : List AVal} {R : AVal → Prop} (ha : args.all AVal.closed = true) (h : ACalls P f args [] (fun r H1 => ∃ r', Pub H1 0 [] r r' ∧ R r')) :
    ACalls P f args H (fun r H' => R r ∧ H' = H) :=
  h.lift ha fun r H1 ⟨r', hp, hR⟩ => ⟨[], r', [], hp.any, List.nodup_nil, rfl, fun k id h => by simp at h, hR, by simp⟩

theorem ACalls.pure {f : FuncId} {args : List AVal} {R : AVal} (ha : args.all AVal.closed = true) (h : ACalls P f args [] (fun r H1 => Pub H1 0 [] r R)) :
    ACalls P f args H (fun r H' => r = R ∧ H' = H) :=
  ACalls.lift0 (R := fun r => r = R) ha (h.mono fun _ _ hp => ⟨R, hp, rfl⟩)

theorem pubB {H1 : List AObj} {n : Nat} {ids : List Nat} {b c : Bool} (h : b = c) : Pub H1 n ids (.bool b) (.bool c) := by subst h; exact .closed _ rfl

theorem pubI {H1 : List AObj} {n : Nat} {ids : List Nat} {k : IntKind} {b c : Int} (h : b = c) : Pub H1 n ids (.int k b) (.int k c) := by subst h; exact .closed _ rfl

theorem ACalls.use {f : FuncId} {args : List AVal} {R : AVal} {Q : AVal → List AObj → Prop} (h : ACalls P f args H (fun r H' => r = R ∧ H' = H)) (hq : Q R H) : ACalls P f args H Q := h.ret hq

end
def bs (l : List Nat) : ByteArray := ⟨(l.map UInt8.ofNat).toArray⟩

theorem bs_nil : (bs []).data.toList = [] := rfl

theorem wrapI (n : Int) (h1 : -9223372036854775808 ≤ n) (h2 : n ≤ 9223372036854775807) : IntKind.i64.wrap n = n := wrap_i64_id h1 h2

def mkSl (N : Nat) : Nat → List (Nat × AVal) → (Nat → AVal) → List AVal
  | 0, _, _ => []
  | n + 1, [], d => d n :: mkSl N n [] d
  | n + 1, (j, v) :: r, d => match Nat.beq (j + (n + 1)) N with
    | true => v :: mkSl N n r d
    | false => d n :: mkSl N n ((j, v) :: r) d

def Sv (n : Nat) (live : List (Nat × AVal)) (ρ : List AVal) : Prop := ∃ d, ρ = mkSl n n live d

def SvAll (ρ : List AVal) : List (Nat × AVal) → Prop
  | [] => True
  | (j, v) :: r => getT ρ j = v ∧ SvAll ρ r

theorem mkSl_eq (N : Nat) : ∀ (n : Nat) (live : List (Nat × AVal)) (l ρ : List AVal), n ≤ N → (∀ k, getT l k = getT ρ (N - n + k)) → l.length = n → SvAll ρ live → l = mkSl N n live fun m => getT ρ (N - (m + 1))
  | 0, live, l, ρ, _, _, hl, _ => by
    cases l with
    | nil => cases live <;> rfl
    | cons x l => simp at hl
  | n + 1, live, [], ρ, _, _, hl, _ => by simp at hl
  | n + 1, [], x :: l, ρ, hn, h, hl, hs => by
    have h0 := h 0
    simp only [getT, Nat.add_zero] at h0
    subst h0
    rw [mkSl, ← mkSl_eq N n [] l ρ (by omega) (fun k => by have := h (k + 1); simp only [getT] at this; rw [this]; congr 1; omega) (by simpa using hl) hs]
  | n + 1, (j, v) :: r, x :: l, ρ, hn, h, hl, hs => by
    have h0 := h 0
    simp only [getT, Nat.add_zero] at h0
    subst h0
    have ht : ∀ k, getT l k = getT ρ (N - n + k) := fun k => by have := h (k + 1); simp only [getT] at this; rw [this]; congr 1; omega
    rw [mkSl]
    split
    · rename_i hb
      have hj : N - (n + 1) = j := by have := Nat.eq_of_beq_eq_true hb; omega
      rw [← mkSl_eq N n r l ρ (by omega) ht (by simpa using hl) hs.2, hj, hs.1]
    · rw [← mkSl_eq N n ((j, v) :: r) l ρ (by omega) ht (by simpa using hl) hs]

theorem Sv.intro {n : Nat} {live : List (Nat × AVal)} {ρ : List AVal} (hl : ρ.length = n) (h : SvAll ρ live) : Sv n live ρ := ⟨_, mkSl_eq n n live ρ ρ (Nat.le_refl _) (fun k => by rw [Nat.sub_self, Nat.zero_add]) hl h⟩

def SvPub (H : List AObj) (ids : List Nat) (ρ : List AVal) : List (Nat × AVal) → Prop
  | [] => True
  | (j, v) :: r => Pub H 0 ids (getT ρ j) v ∧ SvPub H ids ρ r

theorem mkSl_pub {H : List AObj} {ids : List Nat} (N : Nat) : ∀ (n : Nat) (live : List (Nat × AVal)) (l ρ : List AVal), n ≤ N → (∀ k, getT l k = getT ρ (N - n + k)) → l.length = n → SvPub H ids ρ live → gpS H ids l (mkSl N n live fun _ => .undef)
  | 0, live, l, ρ, _, _, hl, _ => by
    cases l with
    | nil => cases live <;> trivial
    | cons x l => simp at hl
  | n + 1, live, [], ρ, _, _, hl, _ => by simp at hl
  | n + 1, [], x :: l, ρ, hn, h, hl, hs => by
    rw [mkSl]
    exact ⟨.dead _, mkSl_pub N n [] l ρ (by omega) (fun k => by have := h (k + 1); simp only [getT] at this; rw [this]; congr 1; omega) (by simpa using hl) hs⟩
  | n + 1, (j, v) :: r, x :: l, ρ, hn, h, hl, hs => by
    have h0 := h 0
    simp only [getT, Nat.add_zero] at h0
    have ht : ∀ k, getT l k = getT ρ (N - n + k) := fun k => by have := h (k + 1); simp only [getT] at this; rw [this]; congr 1; omega
    rw [mkSl]
    split
    · rename_i hb
      have hj : N - (n + 1) = j := by have := Nat.eq_of_beq_eq_true hb; omega
      exact ⟨by rw [h0, hj]; exact hs.1, mkSl_pub N n r l ρ (by omega) ht (by simpa using hl) hs.2⟩
    · exact ⟨.dead _, mkSl_pub N n ((j, v) :: r) l ρ (by omega) ht (by simpa using hl) hs⟩

theorem Gp.keep {n0 : List Nat} {n : Nat} {live : List (Nat × AVal)} {ρ : List AVal} {H : List AObj} {I : List AVal → List AObj → Prop} (hl : ρ.length = n) (h : SvAll ρ live) (hI : ∀ ρ1, Sv n live ρ1 → I ρ1 H) : Gp n0 ρ H I :=
  .inl (hI ρ (Sv.intro hl h))

theorem Gp.some {n : Nat} {live : List (Nat × AVal)} {ρ : List AVal} {H H1 : List AObj} {I : List AVal → List AObj → Prop} (ids : List Nat) (hnd : ids.Nodup) (ho : gpO H ids ids H1) (hl : ρ.length = n) (h : SvPub H ids ρ live) (hI : ∀ ρ1, Sv n live ρ1 → I ρ1 H1) : Gp [] ρ H I :=
  .inr ⟨ids, mkSl n n live fun _ => .undef, H1, hnd, fun _ _ h => by simp at h, ho, mkSl_pub n n live ρ ρ (Nat.le_refl _) (fun k => by rw [Nat.sub_self, Nat.zero_add]) hl h, hI _ ⟨_, rfl⟩⟩

theorem Gp.one {n : Nat} {live : List (Nat × AVal)} {ρ : List AVal} {H : List AObj} {I : List AVal → List AObj → Prop} (id : Nat) (sz : Nat) (es : List (List AVal)) (ho : H[id]? = .some (.arr sz es)) (hp : pureEs es = true) (hl : ρ.length = n) (h : SvPub H [id] ρ live) (hI : ∀ ρ1, Sv n live ρ1 → I ρ1 [.arr sz es]) : Gp [] ρ H I :=
  Gp.some (H1 := [.arr sz es]) [id] (by simp) (by exact ⟨⟨_, ho, .same _ _ hp⟩, trivial⟩) hl h hI

theorem pubEq {H1 : List AObj} {n : Nat} {ids : List Nat} {v r : AVal} (h : v = r) (hr : r.closed = true) : Pub H1 n ids v r := by subst h; exact .closed _ hr

theorem pubSl {H1 : List AObj} {n : Nat} {ids : List Nat} {id ep ep' off len len' m k : Nat} (hk : ids[k]? = some id) (hm : m = n + k) (e1 : ep = ep') (e2 : len = len') : Pub H1 n ids (.sl id ep off len) (.sl m ep' off len') := by
  subst hm e1 e2; exact .keep _ _ _ _ _ hk

theorem slEq {id ep ep' off len len' : Nat} (h1 : ep = ep') (h2 : len = len') : AVal.sl id ep off len = .sl id ep' off len' := by subst h1 h2; rfl

theorem intEq {k : IntKind} {a b : Int} (h : a = b) : AVal.int k a = .int k b := by subst h; rfl

theorem Ghost.some {n : Nat} {live : List (Nat × AVal)} {ρ : List AVal} {H H1 : List AObj} {I : List AVal → List AObj → Prop} (ids : List Nat) (hnd : ids.Nodup) (ho : gpO H ids ids H1) (hl : ρ.length = n) (h : SvPub H ids ρ live) (hI : ∀ ρ1, Sv n live ρ1 → I ρ1 H1) : Ghost [] ρ H I := ⟨Gp.some ids hnd ho hl h hI⟩

end Go.AW

namespace Go.AW
section
variable {P : Program} {C C' : Nat → Nat} {τ τ' : Nat → Option Loc} {H H' : List AObj} {w w' : World}
inductive Wk : AVal → AVal → Prop where
  | refl (a : AVal) : Wk a a
  | nil (x : Bool) (sz : Nat) : Wk .nil (.list x sz [])
  | list (x y : Bool) (sz : Nat) (es : List (List AVal)) (h : y = true → x = true) : Wk (.list x sz es) (.list y sz es)
  | agg (as bs : List AVal) (hl : as.length = bs.length) (h : ∀ (i : Nat) (a b : AVal), as[i]? = some a → bs[i]? = some b → Wk a b) : Wk (.agg as) (.agg bs)

theorem Rd.weak {a b : AVal} {v : Value} (h : Rd C w a v) (hw : Wk a b) : Rd C w b v := by
  cases hw with
  | refl => exact h
  | nil x sz => cases h; exact .list0 x sz none 0 (fun _ => rfl)
  | list x y sz es hxy =>
    cases h with
    | list0 _ _ a cap hx => exact .list0 y sz a cap fun hy => hx (hxy hy)
    | list _ _ _ b off cap vs hx hcap hsz hC hcell hp hrd => exact .list y sz es b off cap vs (fun hy => hx (hxy hy)) hcap hsz hC hcell hp hrd
  | agg => cases h

theorem Rel.weak {a b : AVal} {v : Value} (h : Rel C w τ H a v) (hw : Wk a b) : Rel C w τ H b v := by
  induction hw generalizing v with
  | refl => exact h
  | nil x sz =>
    cases h with
    | rd h => exact .rd (h.weak (.nil x sz))
  | list x y sz es hxy =>
    cases h with
    | rd h => exact .rd (h.weak (.list x y sz es hxy))
  | agg as bs hl h2 ih =>
    cases h with
    | rd h => cases h
    | agg _ vs hlv hv =>
      refine .agg bs vs (by omega) fun i c u hc hu => ?_
      have hi : i < as.length := by have := (List.getElem?_eq_some_iff.1 hc).1; omega
      exact ih i as[i] c (List.getElem?_eq_getElem hi) hc (hv i as[i] u (List.getElem?_eq_getElem hi) hu)

def Wks (as bs : List AVal) : Prop := as.length = bs.length ∧ ∀ (i : Nat) (a b : AVal), as[i]? = some a → bs[i]? = some b → Wk a b

theorem Wks.nil : Wks [] [] := ⟨rfl, fun i a b h => by simp at h⟩

theorem Wks.cons {a b : AVal} {as bs : List AVal} (h : Wk a b) (hs : Wks as bs) : Wks (a :: as) (b :: bs) := by
  refine ⟨by simp [hs.1], fun i x y hx hy => ?_⟩
  cases i with
  | zero => simp at hx hy; subst hx hy; exact h
  | succ i => exact hs.2 i x y (by simpa using hx) (by simpa using hy)

theorem ACalls.weak {f : FuncId} {args bs : List AVal} {Q : AVal → List AObj → Prop} (h : ACalls P f bs H Q) (hw : Wks args bs) : ACalls P f args H Q := by
  intro C τ w vs hwf hl hr
  refine h C τ w vs hwf (by rw [← hw.1]; exact hl) fun i b v hb hv => ?_
  have hi : i < args.length := by have := (List.getElem?_eq_some_iff.1 hb).1; have := hw.1; omega
  exact (hr i args[i] v (List.getElem?_eq_getElem hi) hv).weak (hw.2 i args[i] b (List.getElem?_eq_getElem hi) hb)

def AVal.scalar : AVal → Bool
  | .bool _ | .int _ _ | .str _ | .nil => true
  | .tuple vs => vs.all fun v => match v with
    | .bool _ | .int _ _ | .str _ | .nil => true
    | .agg cs => cs.all fun c => match c with
      | .bool _ | .int _ _ | .str _ | .nil => true
      | _ => false
    | _ => false
  | .agg cs => cs.all fun c => match c with
    | .bool _ | .int _ _ | .str _ | .nil => true
    | _ => false
  | _ => false

theorem Rel.flat {c : AVal} {v : Value} (hc : (match c with
    | .bool _ | .int _ _ | .str _ | .nil => true
    | _ => false) = true) (h : Rel C w τ H c v) : Rel C' w' τ' H' c v := by
  cases c <;> simp only [] at hc <;> try (cases hc; done)
  all_goals
    cases h with
    | rd h => cases h; first | exact .rd (.bool _) | exact .rd (.int _ _) | exact .rd (.str _) | exact .rd .nil

theorem Rel.flatAgg {cs : List AVal} {v : Value} (hc : (cs.all fun c => match c with
    | .bool _ | .int _ _ | .str _ | .nil => true
    | _ => false) = true) (h : Rel C w τ H (.agg cs) v) : Rel C' w' τ' H' (.agg cs) v := by
  cases h with
  | rd h => cases h
  | agg _ vs hl h => exact .agg cs vs hl fun i c u h1 h2 => (h i c u h1 h2).flat (List.all_eq_true.1 hc c (List.mem_of_getElem? h1))

theorem Rel.scalar {a : AVal} {v : Value} (ha : a.scalar = true) (h : Rel C w τ H a v) : Rel C' w' τ' H' a v := by
  cases a <;> simp only [AVal.scalar] at ha <;> try (cases ha; done)
  case bool => exact h.flat rfl
  case int => exact h.flat rfl
  case str => exact h.flat rfl
  case nil => exact h.flat rfl
  case agg => exact h.flatAgg ha
  case tuple cs =>
    cases h with
    | rd h => cases h
    | tuple _ vs hl h =>
      refine .tuple cs vs hl fun i c u h1 h2 => ?_
      have hc := List.all_eq_true.1 ha c (List.mem_of_getElem? h1)
      have := h i c u h1 h2
      cases c <;> simp only [] at hc <;> try (cases hc; done)
      case bool => exact this.flat rfl
      case int => exact this.flat rfl
      case str => exact this.flat rfl
      case nil => exact this.flat rfl
      case agg => exact this.flatAgg hc

inductive Lent (H : List AObj) : AVal → AVal → Prop where
  | same (a : AVal) (h : a.closed = true) : Lent H a a
  | sl (id ep off len sz : Nat) (es : List (List AVal)) (ho : H[id]? = some (.arr sz es)) (hep : ep = es.length) (hp : pureEs es = true) :
      Lent H (.sl id ep off len) (.list false sz ((es.drop off).take len))
  | agg (as bs : List AVal) (hl : as.length = bs.length) (h : ∀ (i : Nat) (a b : AVal), as[i]? = some a → bs[i]? = some b → Lent H a b) : Lent H (.agg as) (.agg bs)

def Lents (H : List AObj) (as bs : List AVal) : Prop := as.length = bs.length ∧ ∀ (i : Nat) (a b : AVal), as[i]? = some a → bs[i]? = some b → Lent H a b

theorem Lents.nil : Lents H [] [] := ⟨rfl, fun i a b h => by simp at h⟩

theorem Lents.cons {a b : AVal} {as bs : List AVal} (h : Lent H a b) (hs : Lents H as bs) : Lents H (a :: as) (b :: bs) := by
  refine ⟨by simp [hs.1], fun i x y hx hy => ?_⟩
  cases i with
  | zero => simp at hx hy; subst hx hy; exact h
  | succ i => exact hs.2 i x y (by simpa using hx) (by simpa using hy)

theorem Lent.rel {a b : AVal} {v : Value} (h : Lent H a b) (hw : WF C τ H w) (hr : Rel C w τ H a v) : Rel (commit C τ H []) w τ [] b v := by
  induction h generalizing v with
  | same a h => exact hr.closed h (commit_le hw) (fun _ _ _ => rfl)
  | sl id ep off len sz es ho hep hp =>
    exact pub_rel (n := 0) (ids := []) (τ2 := τ) (H2 := []) hw (fun k id h => by simp at h) (.frz id ep off len sz es ho hep hp (by simp)) hr
  | agg as bs hl h ih =>
    cases hr with
    | rd h => cases h
    | agg _ vs hlv hv =>
      refine .agg bs vs (by omega) fun i c u hc hu => ?_
      have hi : i < as.length := by have := (List.getElem?_eq_some_iff.1 hc).1; omega
      exact ih i as[i] c (List.getElem?_eq_getElem hi) hc (hv i as[i] u (List.getElem?_eq_getElem hi) hu)

theorem ACalls.bor {f : FuncId} {args bs : List AVal} {R : AVal} (hR : R.scalar = true) (h : ACalls P f bs [] (fun r _ => r = R)) (hl : Lents H args bs) : ACalls P f args H (fun r H' => r = R ∧ H' = H) := by
  intro C τ w vs hw hlen hr
  have hw0 : WF (commit C τ H []) τ [] w := by
    refine ⟨fun id o h => by simp at h, fun id o h => by simp at h, fun id o l h => by simp at h, fun id l h => by simp at h, fun i j li lj h => by simp at h, fun b hb => ?_⟩
    by_cases hex : ∃ id l, id < H.length ∧ τ id = some l ∧ l.b = b
    · obtain ⟨id, l, h1, h2, rfl⟩ := hex
      exact hw.locLt h1 h2
    · rw [commit_other fun id l h1 _ h2 h3 => hex ⟨id, l, h1, h2, h3⟩] at hb
      exact hw.lt b hb
  have hc := h (commit C τ H []) τ w vs hw0 (by rw [← hl.1]; exact hlen) fun i b v hb hv => by
    have hi : i < args.length := by have := (List.getElem?_eq_some_iff.1 hb).1; have := hl.1; omega
    exact (hl.2 i args[i] b (List.getElem?_eq_getElem hi) hb).rel hw (hr i args[i] v (List.getElem?_eq_getElem hi) hv)
  have fin : ∀ (e : Ending) (w' : World), (∃ v r C' τ' H', e = .returned v ∧ r = R ∧ Rel C' w' τ' H' r v ∧ St w (PrCall τ [] w) C' τ' H' w' ∧ Step (commit C τ H []) τ [] w C' τ' H' w') →
      ∃ v r C' τ' H', e = .returned v ∧ (r = R ∧ H' = H) ∧ Rel C' w' τ' H' r v ∧ St w (PrCall τ H w) C' τ' H' w' ∧ Step C τ H w C' τ' H' w' := by
    rintro e w' ⟨v, r, C1, τ1, H1, rfl, rfl, hrel, hst, hstep⟩
    have hheap : ∀ b, b < w.heap.size → w'.heap[b]? = w.heap[b]? := fun b hb => hst.fr.prot b ⟨hb, by rintro ⟨id, l, h, _⟩; simp at h⟩
    have step : Step C τ H w C τ H w' := ⟨fun _ => Nat.le_refl _, fun b i hi => cell_heap (hheap b (hw.lt b (by omega))), fun _ o h => ⟨o, h, o.after_refl _⟩, hst.fr.size, fun _ _ => rfl⟩
    have hwf : WF C τ H w' := by
      refine ⟨hw.ok, hw.virt, fun id o l h1 h2 => (hw.objs id o l h1 h2).mono step (hheap _ (hw.locLt (List.getElem?_eq_some_iff.1 h1).1 h2)), hw.comm, hw.inj, fun b hb => ?_⟩
      have := hw.lt b hb
      have := hst.fr.size
      omega
    refine ⟨v, r, C, τ, H, rfl, ⟨rfl, rfl⟩, hrel.scalar hR, ⟨hwf, ⟨hst.fr.os, hst.fr.tape, hst.fr.output, hst.fr.size, fun b hb => hheap b hb.1⟩, fun b ho hp => hp.2 ho, fun b hp => hp.1⟩, step⟩
  unfold CallsX at hc ⊢
  split at hc
  · exact Calls.mono hc fun e w' hh => fin e w' hh
  · exact fin _ _ hc
  · exact hc

theorem Rel.narrow {C1 : Nat → Nat} {w1 : World} {τ1 : Nat → Option Loc} {G : List AObj} {d : AVal} {v : Value} (h : Rel C1 w1 τ1 (H ++ G) d v) : (∃ v0, Rel C w τ H d v0) → Rel C1 w1 τ1 H d v := by
  have get : ∀ {id : Nat} {o o' : AObj}, H[id]? = some o → (H ++ G)[id]? = some o' → H[id]? = some o' := by
    intro id o o' h1 h2
    rw [List.getElem?_append_left (List.getElem?_eq_some_iff.1 h1).1] at h2
    exact h2
  induction h with
  | rd h => exact fun _ => .rd h
  | undef v => exact fun _ => .undef v
  | sl id ep off len a cap esz es ho hep h =>
    rintro ⟨v0, h0⟩
    cases h0 with
    | rd h0 => cases h0
    | sl _ _ _ _ a0 cap0 esz0 es0 ho0 hep0 h0 => exact .sl id ep off len a cap esz es (get ho0 ho) hep h
  | ptr id ep idx fld a esz es ho hep h =>
    rintro ⟨v0, h0⟩
    cases h0 with
    | rd h0 => cases h0
    | ptr _ _ _ _ a0 esz0 es0 ho0 hep0 h0 => exact .ptr id ep idx fld a esz es (get ho0 ho) hep h
  | it id s pos l ho ht =>
    rintro ⟨v0, h0⟩
    cases h0 with
    | rd h0 => cases h0
    | it _ s0 p0 l0 ho0 ht0 => exact .it id s pos l (get ho0 ho) ht
  | agg cs vs hl h ih =>
    rintro ⟨v0, h0⟩
    cases h0 with
    | rd h0 => cases h0
    | agg _ vs0 hl0 h0 => exact .agg cs vs hl fun i c u hc hu => ih i c u hc hu ⟨_, h0 i c vs0[i]! hc (by have := (List.getElem?_eq_some_iff.1 hc).1; rw [getElem!_pos vs0 i (by omega)]; exact Array.getElem?_eq_getElem (by omega))⟩
  | tuple cs vs hl h ih =>
    rintro ⟨v0, h0⟩
    cases h0 with
    | rd h0 => cases h0
    | tuple _ vs0 hl0 h0 => exact .tuple cs vs hl fun i c u hc hu => ih i c u hc hu ⟨_, h0 i c vs0[i]! hc (by have := (List.getElem?_eq_some_iff.1 hc).1; rw [getElem!_pos vs0 i (by omega)]; exact Array.getElem?_eq_getElem (by omega))⟩
  | fn f cs vs hl h ih =>
    rintro ⟨v0, h0⟩
    cases h0 with
    | rd h0 =>
      cases h0
      exact .fn f [] vs hl fun i c u hc => by simp at hc
    | fn _ _ vs0 hl0 h0 => exact .fn f cs vs hl fun i c u hc hu => ih i c u hc hu ⟨_, h0 i c vs0[i]! hc (by have := (List.getElem?_eq_some_iff.1 hc).1; rw [getElem!_pos vs0 i (by omega)]; exact Array.getElem?_eq_getElem (by omega))⟩

theorem ACalls.drop {f : FuncId} {args : List AVal} {R : AVal} (hR : R.scalar = true) (h : ACalls P f args H (fun r H' => r = R ∧ ∃ G, H' = H ++ G)) : ACalls P f args H (fun r H' => r = R ∧ H' = H) := by
  intro C τ w vs hw hlen hr
  have hc := h C τ w vs hw hlen hr
  have fin : ∀ (e : Ending) (w' : World), (∃ v r C' τ' H', e = .returned v ∧ (r = R ∧ ∃ G, H' = H ++ G) ∧ Rel C' w' τ' H' r v ∧ St w (PrCall τ H w) C' τ' H' w' ∧ Step C τ H w C' τ' H' w') →
      ∃ v r C' τ' H', e = .returned v ∧ (r = R ∧ H' = H) ∧ Rel C' w' τ' H' r v ∧ St w (PrCall τ H w) C' τ' H' w' ∧ Step C τ H w C' τ' H' w' := by
    rintro e w' ⟨v, r, C1, τ1, H1, rfl, ⟨rfl, G, rfl⟩, hrel, hst, hstep⟩
    have hmem : ∀ {id : Nat} {o : AObj}, H[id]? = some o → (H ++ G)[id]? = some o := fun h => by rw [List.getElem?_append_left (List.getElem?_eq_some_iff.1 h).1]; exact h
    have hlt : ∀ {id : Nat}, id < H.length → id < (H ++ G).length := fun h => by rw [List.length_append]; omega
    have hτ : ∀ {id : Nat} {o : AObj}, H[id]? = some o → τ1 id = τ id := by
      intro id o ho
      obtain ⟨o', h1, h2⟩ := hstep.obj id o ho
      rw [hmem ho] at h1
      cases h1
      cases o with
      | arr esz es => exact h2.2.2 rfl
      | iter s p => exact h2
    refine ⟨v, r, C1, τ1, H, rfl, ⟨rfl, rfl⟩, hrel.scalar hR, ⟨⟨fun id o h => hst.wf.ok id o (hmem h), fun id o h => hst.wf.virt id o (hmem h), fun id o l h1 h2 => ?_, fun id l h1 => hst.wf.comm id l (hlt h1), fun i j li lj h1 h2 => hst.wf.inj i j li lj (hlt h1) (hlt h2), hst.wf.lt⟩,
      hst.fr, fun b ⟨id, l, h1, h2, h3⟩ => hst.own b ⟨id, l, hlt h1, h2, h3⟩, hst.plt⟩, ⟨hstep.le, hstep.cell, fun id o ho => ?_, hstep.grow, hstep.old⟩⟩
    · have hob := hst.wf.objs id o l (hmem h1) h2
      have hob0 := hw.objs id o l h1 (by rw [← hτ h1]; exact h2)
      cases o with
      | iter s p => exact hob
      | arr esz es =>
        obtain ⟨g1, cells, elem, fz, g2, g3, g4, g5⟩ := hob
        obtain ⟨_, _, _, _, _, _, _, k5⟩ := hob0
        refine ⟨g1, cells, elem, fz, g2, g3, g4, fun i j e d he hd => ?_⟩
        obtain ⟨u, hu, hru⟩ := g5 i j e d he hd
        obtain ⟨u0, _, hru0⟩ := k5 i j e d he hd
        exact ⟨u, hu, hru.narrow ⟨u0, hru0⟩⟩
    · obtain ⟨o', h1, h2⟩ := hstep.obj id o ho
      rw [hmem ho] at h1
      cases h1
      exact ⟨o, ho, h2⟩
  unfold CallsX at hc ⊢
  split at hc
  · exact Calls.mono hc fun e w' hh => fin e w' hh
  · exact fin _ _ hc
  · exact hc

end
end Go.AW

namespace Go.AW
def HasX (P : Program) (f : FuncId) (e : Array Value → Sem Value) : Prop :=
  ∃ fn, P.funcs[f]? = some fn ∧ (fn.name == "runtime.NumGoroutine") = false ∧ fn.body = none ∧ Extern.findNext fn = none ∧ Extern.find fn = some e

theorem acalls_ext {P : Program} {f : FuncId} {e : Array Value → Sem Value} {args : List AVal} {H : List AObj} {R : AVal} (hf : HasX P f e)
    (h : ∀ (C : Nat → Nat) (τ : Nat → Option Loc) (w : World) (vs : Array Value), args.length = vs.size → (∀ (i : Nat) (a : AVal) (v : Value), args[i]? = some a → vs[i]? = some v → Rel C w τ H a v) →
      ∃ v, (e vs).run P w = .ok v w ∧ Rel C w τ H R v) : ACalls P f args H (fun r H' => r = R ∧ H' = H) := by
  obtain ⟨fn, hfn, hname, hbody, hnext, hfind⟩ := hf
  intro C τ w vs hw hl hr
  obtain ⟨v, hrun, hrel⟩ := h C τ w vs hl hr
  have hcall : (callFunc f vs).run P w = .ok (.value v) w := by
    simp only [callFunc, Sem.run_bind, run_program, Result.andThen_ok, hfn, hname, Bool.false_eq_true, if_false, hbody, Option.isNone_none, if_true, run_mark, hnext, hfind, hrun, Sem.run_pure]
  unfold CallsX
  rw [hcall]
  exact ⟨v, R, C, τ, H, rfl, ⟨rfl, rfl⟩, hrel, St.start hw, Step.refl⟩

theorem rel_str {C : Nat → Nat} {w : World} {τ : Nat → Option Loc} {H : List AObj} {s : ByteArray} {v : Value} (h : Rel C w τ H (.str s) v) : v = .string s := by
  cases h with
  | rd h => cases h; rfl

theorem rel_int {C : Nat → Nat} {w : World} {τ : Nat → Option Loc} {H : List AObj} {k : IntKind} {n : Int} {v : Value} (h : Rel C w τ H (.int k n) v) : v = .int k n := by
  cases h with
  | rd h => cases h; rfl

theorem indexByteString_spec {P : Program} {f : FuncId} (hf : HasX P f Extern.BytealgIndexByte.indexByte) (s : ByteArray) (c : Int) (H : List AObj) :
    ACalls P f [.str s, .int .u8 c] H (fun r H' => r = .int .i64 (Lib.indexByte s.data.toList c.toNat.toUInt8) ∧ H' = H) := by
  refine acalls_ext hf fun C τ w vs hl hr => ?_
  obtain ⟨l⟩ := vs
  match l, hl with
  | [a, b], _ =>
    cases rel_str (hr 0 _ a rfl rfl)
    cases rel_int (hr 1 _ b rfl rfl)
    exact ⟨_, Lib.run_indexByteString s c w, .rd (.int _ _)⟩

end Go.AW

namespace Go.AW
def c_value_Valid : AFunc := ⟨66, [.tmp 2],
  (.seq
  (.region [
    ⟨(some 1), .box (.t 0), none⟩,
    ⟨(some 2), .move (.c (.bool false)), none⟩])
  (.seq
  (.seq
  (.region [
    ⟨(some 3), .fieldAddr 0 (.t 1), none⟩,
    ⟨(some 4), .load false 1 (.t 3), none⟩])
  (.block 0
    (.seq
    (.region [
      ⟨(some 6), .bin .eql (.t 4) (.c (.int .i64 0)), none⟩,
      ⟨(some 5), .move (.t 6), none⟩])
    (.cond (.t 5)
      (.seq
      (.region [
        ⟨(some 7), .load true 3 (.t 1), none⟩,
        ⟨(some 8), .build [(.int .i64 0), (.int .i64 0), (.str (bs []))] [], none⟩,
        ⟨(some 9), .eqs false [1, 1, 2] (.t 7) (.t 8), none⟩,
        ⟨(some 2), .move (.t 9), none⟩])
      .ret)
      (.seq
      (.region [
        ⟨(some 11), .bin .eql (.t 4) (.c (.int .i64 1)), none⟩,
        ⟨(some 10), .move (.t 11), none⟩])
      (.cond (.t 10)
        (.seq
        (.region [
          ⟨(some 12), .fieldAddr 2 (.t 1), none⟩,
          ⟨(some 13), .load false 1 (.t 12), none⟩,
          ⟨(some 14), .bin .eql (.t 13) (.c (.str (bs []))), none⟩,
          ⟨(some 15), .move (.t 14), none⟩,
          ⟨(some 16), .fieldAddr 1 (.t 1), some (some 15, true)⟩,
          ⟨(some 17), .load false 1 (.t 16), some (some 15, true)⟩,
          ⟨(some 18), .bin .eql (.t 17) (.c (.int .i64 0)), some (some 15, true)⟩,
          ⟨(some 19), .move (.t 18), some (some 15, true)⟩,
          ⟨(some 20), .fieldAddr 1 (.t 1), some (some 19, false)⟩,
          ⟨(some 21), .load false 1 (.t 20), some (some 19, false)⟩,
          ⟨(some 22), .bin .eql (.t 21) (.c (.int .i64 1)), some (some 19, false)⟩,
          ⟨(some 23), .pick (.t 19) (.c (.bool true)) (.t 22), some (some 15, true)⟩,
          ⟨(some 24), .pick (.t 15) (.t 23) (.c (.bool false)), none⟩,
          ⟨(some 2), .move (.t 24), none⟩])
        .ret)
        (.seq
        (.region [
          ⟨(some 26), .bin .eql (.t 4) (.c (.int .i64 2)), none⟩,
          ⟨(some 25), .move (.t 26), none⟩])
        (.cond (.t 25)
          (.seq
          (.region [
            ⟨(some 27), .fieldAddr 2 (.t 1), none⟩,
            ⟨(some 28), .load false 1 (.t 27), none⟩,
            ⟨(some 29), .bin .eql (.t 28) (.c (.str (bs []))), none⟩,
            ⟨(some 30), .move (.t 29), none⟩,
            ⟨(some 31), .fieldAddr 1 (.t 1), some (some 30, true)⟩,
            ⟨(some 32), .load false 1 (.t 31), some (some 30, true)⟩,
            ⟨(some 33), .bin .geq (.t 32) (.c (.int .i64 (-1073741824))), some (some 30, true)⟩,
            ⟨(some 34), .pick (.t 30) (.t 33) (.c (.bool false)), none⟩,
            ⟨(some 35), .move (.t 34), none⟩,
            ⟨(some 36), .fieldAddr 1 (.t 1), some (some 35, true)⟩,
            ⟨(some 37), .load false 1 (.t 36), some (some 35, true)⟩,
            ⟨(some 38), .bin .leq (.t 37) (.c (.int .i64 1073741824)), some (some 35, true)⟩,
            ⟨(some 39), .pick (.t 35) (.t 38) (.c (.bool false)), none⟩,
            ⟨(some 2), .move (.t 39), none⟩])
          .ret)
          (.seq
          (.region [
            ⟨(some 41), .bin .eql (.t 4) (.c (.int .i64 3)), none⟩,
            ⟨(some 40), .move (.t 41), none⟩])
          (.cond (.t 40)
            (.seq
            (.region [
              ⟨(some 42), .fieldAddr 1 (.t 1), none⟩,
              ⟨(some 43), .load false 1 (.t 42), none⟩,
              ⟨(some 44), .bin .eql (.t 43) (.c (.int .i64 0)), none⟩,
              ⟨(some 45), .move (.t 44), none⟩,
              ⟨(some 46), .fieldAddr 2 (.t 1), some (some 45, true)⟩,
              ⟨(some 47), .load false 1 (.t 46), some (some 45, true)⟩,
              ⟨(some 48), .lenS (.t 47), some (some 45, true)⟩,
              ⟨(some 49), .bin .leq (.t 48) (.c (.int .i64 64)), some (some 45, true)⟩,
              ⟨(some 50), .pick (.t 45) (.t 49) (.c (.bool false)), none⟩,
              ⟨(some 2), .move (.t 50), none⟩])
            .ret)
            (.seq
            (.region [
              ⟨(some 52), .bin .eql (.t 4) (.c (.int .i64 4)), none⟩,
              ⟨(some 51), .move (.t 52), none⟩])
            (.cond (.t 51)
              (.seq
              (.region [
                ⟨(some 53), .fieldAddr 2 (.t 1), none⟩,
                ⟨(some 54), .load false 1 (.t 53), none⟩,
                ⟨(some 55), .bin .eql (.t 54) (.c (.str (bs []))), none⟩,
                ⟨(some 56), .move (.t 55), none⟩,
                ⟨(some 57), .fieldAddr 1 (.t 1), some (some 56, true)⟩,
                ⟨(some 58), .load false 1 (.t 57), some (some 56, true)⟩,
                ⟨(some 59), .bin .geq (.t 58) (.c (.int .i64 0)), some (some 56, true)⟩,
                ⟨(some 60), .pick (.t 56) (.t 59) (.c (.bool false)), none⟩,
                ⟨(some 61), .move (.t 60), none⟩,
                ⟨(some 62), .fieldAddr 1 (.t 1), some (some 61, true)⟩,
                ⟨(some 63), .load false 1 (.t 62), some (some 61, true)⟩,
                ⟨(some 64), .bin .leq (.t 63) (.c (.int .i64 575999999)), some (some 61, true)⟩,
                ⟨(some 65), .pick (.t 61) (.t 64) (.c (.bool false)), none⟩,
                ⟨(some 2), .move (.t 65), none⟩])
              .ret)
              .skip))))))))))))
  (.seq
  (.region [
    ⟨(some 2), .move (.c (.bool false)), none⟩])
  .ret)))⟩

structure F_value_Valid (P : Program) where
  id : FuncId
  has : Has P id [] c_value_Valid

def c_warehouseref1_Valid : AFunc := ⟨71, [.tmp 2],
  (.seq
  (.region [
    ⟨(some 1), .box (.t 0), none⟩,
    ⟨(some 2), .move (.c (.bool false)), none⟩])
  (.seq
  (.seq
  (.region [
    ⟨(some 3), .fieldAddr 0 (.t 1), none⟩,
    ⟨(some 4), .load false 1 (.t 3), none⟩])
  (.block 0
    (.seq
    (.region [
      ⟨(some 6), .bin .eql (.t 4) (.c (.int .i64 0)), none⟩,
      ⟨(some 5), .move (.t 6), none⟩])
    (.cond (.t 5)
      (.seq
      (.region [
        ⟨(some 7), .fieldAddr 1 (.t 1), none⟩,
        ⟨(some 8), .load false 1 (.t 7), none⟩,
        ⟨(some 9), .bin .eql (.t 8) (.c (.int .i64 0)), none⟩,
        ⟨(some 10), .move (.t 9), none⟩,
        ⟨(some 11), .fieldAddr 2 (.t 1), some (some 10, true)⟩,
        ⟨(some 12), .load false 1 (.t 11), some (some 10, true)⟩,
        ⟨(some 13), .bin .eql (.t 12) (.c (.str (bs []))), some (some 10, true)⟩,
        ⟨(some 14), .pick (.t 10) (.t 13) (.c (.bool false)), none⟩,
        ⟨(some 2), .move (.t 14), none⟩])
      .ret)
      (.seq
      (.region [
        ⟨(some 16), .bin .eql (.t 4) (.c (.int .i64 1)), none⟩,
        ⟨(some 15), .move (.t 16), none⟩])
      (.cond (.t 15)
        (.seq
        (.region [
          ⟨(some 17), .fieldAddr 1 (.t 1), none⟩,
          ⟨(some 18), .load false 1 (.t 17), none⟩,
          ⟨(some 19), .bin .eql (.t 18) (.c (.int .i64 0)), none⟩,
          ⟨(some 20), .move (.t 19), none⟩,
          ⟨(some 21), .fieldAddr 1 (.t 1), some (some 20, false)⟩,
          ⟨(some 22), .load false 1 (.t 21), some (some 20, false)⟩,
          ⟨(some 23), .bin .eql (.t 22) (.c (.int .i64 1)), some (some 20, false)⟩,
          ⟨(some 24), .pick (.t 20) (.c (.bool true)) (.t 23), none⟩,
          ⟨(some 25), .move (.t 24), none⟩,
          ⟨(some 26), .fieldAddr 2 (.t 1), some (some 25, true)⟩,
          ⟨(some 27), .load false 1 (.t 26), some (some 25, true)⟩,
          ⟨(some 28), .bin .eql (.t 27) (.c (.str (bs []))), some (some 25, true)⟩,
          ⟨(some 29), .pick (.t 25) (.t 28) (.c (.bool false)), none⟩,
          ⟨(some 2), .move (.t 29), none⟩])
        .ret)
        (.seq
        (.region [
          ⟨(some 31), .bin .eql (.t 4) (.c (.int .i64 2)), none⟩,
          ⟨(some 30), .move (.t 31), none⟩])
        (.cond (.t 30)
          (.seq
          (.region [
            ⟨(some 32), .fieldAddr 1 (.t 1), none⟩,
            ⟨(some 33), .load false 1 (.t 32), none⟩,
            ⟨(some 34), .bin .geq (.t 33) (.c (.int .i64 (-1073741824))), none⟩,
            ⟨(some 35), .move (.t 34), none⟩,
            ⟨(some 36), .fieldAddr 1 (.t 1), some (some 35, true)⟩,
            ⟨(some 37), .load false 1 (.t 36), some (some 35, true)⟩,
            ⟨(some 38), .bin .leq (.t 37) (.c (.int .i64 1073741824)), some (some 35, true)⟩,
            ⟨(some 39), .pick (.t 35) (.t 38) (.c (.bool false)), none⟩,
            ⟨(some 40), .move (.t 39), none⟩,
            ⟨(some 41), .fieldAddr 2 (.t 1), some (some 40, true)⟩,
            ⟨(some 42), .load false 1 (.t 41), some (some 40, true)⟩,
            ⟨(some 43), .bin .eql (.t 42) (.c (.str (bs []))), some (some 40, true)⟩,
            ⟨(some 44), .pick (.t 40) (.t 43) (.c (.bool false)), none⟩,
            ⟨(some 2), .move (.t 44), none⟩])
          .ret)
          (.seq
          (.region [
            ⟨(some 46), .bin .eql (.t 4) (.c (.int .i64 3)), none⟩,
            ⟨(some 45), .move (.t 46), none⟩])
          (.cond (.t 45)
            (.seq
            (.region [
              ⟨(some 47), .fieldAddr 1 (.t 1), none⟩,
              ⟨(some 48), .load false 1 (.t 47), none⟩,
              ⟨(some 49), .bin .eql (.t 48) (.c (.int .i64 0)), none⟩,
              ⟨(some 50), .move (.t 49), none⟩,
              ⟨(some 51), .fieldAddr 2 (.t 1), some (some 50, true)⟩,
              ⟨(some 52), .load false 1 (.t 51), some (some 50, true)⟩,
              ⟨(some 53), .lenS (.t 52), some (some 50, true)⟩,
              ⟨(some 54), .bin .leq (.t 53) (.c (.int .i64 64)), some (some 50, true)⟩,
              ⟨(some 55), .pick (.t 50) (.t 54) (.c (.bool false)), none⟩,
              ⟨(some 2), .move (.t 55), none⟩])
            .ret)
            (.seq
            (.region [
              ⟨(some 57), .bin .eql (.t 4) (.c (.int .i64 4)), none⟩,
              ⟨(some 56), .move (.t 57), none⟩])
            (.cond (.t 56)
              (.seq
              (.region [
                ⟨(some 58), .fieldAddr 1 (.t 1), none⟩,
                ⟨(some 59), .load false 1 (.t 58), none⟩,
                ⟨(some 60), .bin .geq (.t 59) (.c (.int .i64 0)), none⟩,
                ⟨(some 61), .move (.t 60), none⟩,
                ⟨(some 62), .fieldAddr 1 (.t 1), some (some 61, true)⟩,
                ⟨(some 63), .load false 1 (.t 62), some (some 61, true)⟩,
                ⟨(some 64), .bin .leq (.t 63) (.c (.int .i64 575999999)), some (some 61, true)⟩,
                ⟨(some 65), .pick (.t 61) (.t 64) (.c (.bool false)), none⟩,
                ⟨(some 66), .move (.t 65), none⟩,
                ⟨(some 67), .fieldAddr 2 (.t 1), some (some 66, true)⟩,
                ⟨(some 68), .load false 1 (.t 67), some (some 66, true)⟩,
                ⟨(some 69), .bin .eql (.t 68) (.c (.str (bs []))), some (some 66, true)⟩,
                ⟨(some 70), .pick (.t 66) (.t 69) (.c (.bool false)), none⟩,
                ⟨(some 2), .move (.t 70), none⟩])
              .ret)
              .skip))))))))))))
  (.seq
  (.region [
    ⟨(some 2), .move (.c (.bool false)), none⟩])
  .ret)))⟩

structure F_warehouseref1_Valid (P : Program) where
  id : FuncId
  has : Has P id [] c_warehouseref1_Valid

def c_value_word : AFunc := ⟨19, [.tmp 4],
  (.seq
  (.region [
    ⟨(some 4), .move (.c .nil), none⟩])
  (.seq
  (.region [
    ⟨(some 5), .move (.t 0), none⟩,
    ⟨(some 6), .move (.t 1), none⟩,
    ⟨(some 7), .bin .shr (.t 6) (.c (.int .u64 24)), none⟩,
    ⟨(some 8), .conv .u8 (.t 7), none⟩,
    ⟨(some 9), .move (.t 1), none⟩,
    ⟨(some 10), .bin .shr (.t 9) (.c (.int .u64 16)), none⟩,
    ⟨(some 11), .conv .u8 (.t 10), none⟩,
    ⟨(some 12), .move (.t 1), none⟩,
    ⟨(some 13), .bin .shr (.t 12) (.c (.int .u64 8)), none⟩,
    ⟨(some 14), .conv .u8 (.t 13), none⟩,
    ⟨(some 15), .move (.t 1), none⟩,
    ⟨(some 16), .conv .u8 (.t 15), none⟩,
    ⟨(some 17), .buildSlice 1 4 [(.int .u8 0)] [(0, (.t 8)), (1, (.t 11)), (2, (.t 14)), (3, (.t 16))], none⟩,
    ⟨(some 18), .append 1 1 [(.int .u8 0)] (.t 5) (.t 17), none⟩,
    ⟨(some 4), .move (.t 18), none⟩])
  .ret))⟩

structure F_value_word (P : Program) where
  id : FuncId
  has : Has P id [] c_value_word

def c_value_Encode (f_value_Valid : FuncId) (f_value_word : FuncId) : AFunc := ⟨67, [.tmp 2, .tmp 3],
  (.seq
  (.region [
    ⟨(some 2), .move (.c .nil), none⟩,
    ⟨(some 3), .move (.c (.int .i64 0)), none⟩])
  (.seq
  (.seq
  (.region [
    ⟨(some 7), .move (.t 0), none⟩,
    ⟨(some 8), .len (.t 7), none⟩,
    ⟨(some 9), .bin .gtr (.t 8) (.c (.int .i64 12)), none⟩])
  (.cond (.t 9)
    (.seq
    (.region [
      ⟨(some 2), .move (.c .nil), none⟩,
      ⟨(some 3), .move (.c (.int .i64 2)), none⟩])
    .ret)
    .skip))
  (.seq
  (.region [
    ⟨(some 10), .move (.t 0), none⟩,
    ⟨(some 11), .len (.t 10), none⟩,
    ⟨(some 12), .conv .u8 (.t 11), none⟩,
    ⟨(some 13), .buildSliceO 1 1 [(.int .u8 0)] [(0, (.t 12))], none⟩,
    ⟨(some 4), .move (.t 13), none⟩])
  (.seq
  (.seq
  (.region [
    ⟨(some 14), .move (.t 0), none⟩,
    ⟨(some 15), .len (.t 14), none⟩,
    ⟨(some 16), .move (.c (.int .i64 0)), none⟩])
  (.block 0
    (.loop
      (.seq
      (.region [
        ⟨(some 17), .bin .lss (.t 16) (.t 15), none⟩])
      (.seq
      (.cond (.t 17)
        .skip
        (.exit 0))
      (.seq
      (.block 1
        (.seq
        (.region [
          ⟨(some 18), .indexAddr 3 (.t 14) (.t 16), none⟩,
          ⟨(some 19), .load true 3 (.t 18), none⟩,
          ⟨(some 6), .alloc [(.int .i64 0), (.int .i64 0), (.str (bs []))], none⟩,
          ⟨none, .store 3 (.t 6) (.t 19), none⟩])
        (.seq
        (.seq
        (.region [
          ⟨(some 20), .load true 3 (.t 6), none⟩,
          ⟨(some 21), .call f_value_Valid [(.t 20)], none⟩,
          ⟨(some 22), .un .not (.t 21), none⟩])
        (.cond (.t 22)
          (.seq
          (.region [
            ⟨(some 2), .move (.c .nil), none⟩,
            ⟨(some 3), .move (.c (.int .i64 8)), none⟩])
          .ret)
          .skip))
        (.seq
        (.region [
          ⟨(some 23), .move (.t 4), none⟩,
          ⟨(some 24), .fieldAddr 0 (.t 6), none⟩,
          ⟨(some 25), .load false 1 (.t 24), none⟩,
          ⟨(some 26), .conv .u8 (.t 25), none⟩,
          ⟨(some 27), .buildSlice 1 1 [(.int .u8 0)] [(0, (.t 26))], none⟩,
          ⟨(some 28), .append 1 1 [(.int .u8 0)] (.t 23) (.t 27), none⟩,
          ⟨(some 4), .move (.t 28), none⟩])
        (.seq
        (.region [
          ⟨(some 29), .fieldAddr 0 (.t 6), none⟩,
          ⟨(some 30), .load false 1 (.t 29), none⟩])
        (.block 2
          (.seq
          (.region [
            ⟨(some 32), .bin .eql (.t 30) (.c (.int .i64 1)), none⟩,
            ⟨(some 31), .move (.t 32), none⟩])
          (.cond (.t 31)
            (.region [
              ⟨(some 33), .move (.t 4), none⟩,
              ⟨(some 34), .fieldAddr 1 (.t 6), none⟩,
              ⟨(some 35), .load false 1 (.t 34), none⟩,
              ⟨(some 36), .conv .u8 (.t 35), none⟩,
              ⟨(some 37), .buildSlice 1 1 [(.int .u8 0)] [(0, (.t 36))], none⟩,
              ⟨(some 38), .append 1 1 [(.int .u8 0)] (.t 33) (.t 37), none⟩,
              ⟨(some 4), .move (.t 38), none⟩])
            (.seq
            (.region [
              ⟨(some 40), .bin .eql (.t 30) (.c (.int .i64 2)), none⟩,
              ⟨(some 39), .move (.t 40), none⟩])
            (.cond (.t 39)
              (.region [
                ⟨(some 41), .move (.t 4), none⟩,
                ⟨(some 42), .fieldAddr 1 (.t 6), none⟩,
                ⟨(some 43), .load false 1 (.t 42), none⟩,
                ⟨(some 44), .bin .add (.t 43) (.c (.int .i64 1073741824)), none⟩,
                ⟨(some 45), .call f_value_word [(.t 41), (.t 44)], none⟩,
                ⟨(some 4), .move (.t 45), none⟩])
              (.seq
              (.region [
                ⟨(some 47), .bin .eql (.t 30) (.c (.int .i64 4)), none⟩,
                ⟨(some 46), .move (.t 47), none⟩])
              (.cond (.t 46)
                (.region [
                  ⟨(some 48), .move (.t 4), none⟩,
                  ⟨(some 49), .fieldAddr 1 (.t 6), none⟩,
                  ⟨(some 50), .load false 1 (.t 49), none⟩,
                  ⟨(some 51), .call f_value_word [(.t 48), (.t 50)], none⟩,
                  ⟨(some 4), .move (.t 51), none⟩])
                (.seq
                (.region [
                  ⟨(some 53), .bin .eql (.t 30) (.c (.int .i64 3)), none⟩,
                  ⟨(some 52), .move (.t 53), none⟩])
                (.cond (.t 52)
                  (.seq
                  (.region [
                    ⟨(some 54), .move (.t 4), none⟩,
                    ⟨(some 55), .fieldAddr 2 (.t 6), none⟩,
                    ⟨(some 56), .load false 1 (.t 55), none⟩,
                    ⟨(some 57), .lenS (.t 56), none⟩,
                    ⟨(some 58), .conv .u8 (.t 57), none⟩,
                    ⟨(some 59), .buildSlice 1 1 [(.int .u8 0)] [(0, (.t 58))], none⟩,
                    ⟨(some 60), .append 1 1 [(.int .u8 0)] (.t 54) (.t 59), none⟩,
                    ⟨(some 4), .move (.t 60), none⟩])
                  (.region [
                    ⟨(some 61), .move (.t 4), none⟩,
                    ⟨(some 62), .fieldAddr 2 (.t 6), none⟩,
                    ⟨(some 63), .load false 1 (.t 62), none⟩,
                    ⟨(some 64), .append 1 1 [(.int .u8 0)] (.t 61) (.t 63), none⟩,
                    ⟨(some 4), .move (.t 64), none⟩]))
                  .skip))))))))))))))
      (.region [
        ⟨(some 65), .bin .add (.t 16) (.c (.int .i64 1)), none⟩,
        ⟨(some 16), .move (.t 65), none⟩])))))))
  (.seq
  (.region [
    ⟨(some 66), .move (.t 4), none⟩,
    ⟨(some 2), .move (.t 66), none⟩,
    ⟨(some 3), .move (.c (.int .i64 0)), none⟩])
  .ret)))))⟩

structure F_value_Encode (P : Program) where
  id : FuncId
  value_Valid : F_value_Valid P
  value_word : F_value_word P
  has : Has P id [13] (c_value_Encode value_Valid.id value_word.id)

def c_warehouseref1_four : AFunc := ⟨15, [.tmp 2],
  (.seq
  (.region [
    ⟨(some 2), .move (.c .nil), none⟩])
  (.seq
  (.region [
    ⟨(some 3), .move (.t 0), none⟩,
    ⟨(some 4), .bin .shr (.t 3) (.c (.int .u64 24)), none⟩,
    ⟨(some 5), .conv .u8 (.t 4), none⟩,
    ⟨(some 6), .move (.t 0), none⟩,
    ⟨(some 7), .bin .shr (.t 6) (.c (.int .u64 16)), none⟩,
    ⟨(some 8), .conv .u8 (.t 7), none⟩,
    ⟨(some 9), .move (.t 0), none⟩,
    ⟨(some 10), .bin .shr (.t 9) (.c (.int .u64 8)), none⟩,
    ⟨(some 11), .conv .u8 (.t 10), none⟩,
    ⟨(some 12), .move (.t 0), none⟩,
    ⟨(some 13), .conv .u8 (.t 12), none⟩,
    ⟨(some 14), .buildSlice 1 4 [(.int .u8 0)] [(0, (.t 5)), (1, (.t 8)), (2, (.t 11)), (3, (.t 13))], none⟩,
    ⟨(some 2), .move (.t 14), none⟩])
  .ret))⟩

structure F_warehouseref1_four (P : Program) where
  id : FuncId
  has : Has P id [] c_warehouseref1_four

def c_warehouseref1_Encode (f_warehouseref1_Valid : FuncId) (f_warehouseref1_four : FuncId) : AFunc := ⟨71, [.tmp 2, .tmp 3],
  (.seq
  (.region [
    ⟨(some 2), .move (.c .nil), none⟩,
    ⟨(some 3), .move (.c (.int .i64 0)), none⟩])
  (.seq
  (.seq
  (.region [
    ⟨(some 7), .move (.t 0), none⟩,
    ⟨(some 8), .len (.t 7), none⟩,
    ⟨(some 9), .bin .gtr (.t 8) (.c (.int .i64 12)), none⟩])
  (.cond (.t 9)
    (.seq
    (.region [
      ⟨(some 2), .move (.c .nil), none⟩,
      ⟨(some 3), .move (.c (.int .i64 2)), none⟩])
    .ret)
    .skip))
  (.seq
  (.region [
    ⟨(some 10), .move (.t 0), none⟩,
    ⟨(some 11), .len (.t 10), none⟩,
    ⟨(some 12), .conv .u8 (.t 11), none⟩,
    ⟨(some 13), .buildSliceO 1 1 [(.int .u8 0)] [(0, (.t 12))], none⟩,
    ⟨(some 4), .move (.t 13), none⟩])
  (.seq
  (.seq
  (.region [
    ⟨(some 5), .move (.c (.int .i64 0)), none⟩])
  (.block 0
    (.loop
      (.seq
      (.seq
      (.region [
        ⟨(some 14), .move (.t 5), none⟩,
        ⟨(some 15), .move (.t 0), none⟩,
        ⟨(some 16), .len (.t 15), none⟩,
        ⟨(some 17), .bin .lss (.t 14) (.t 16), none⟩])
      (.cond (.t 17)
        .skip
        (.exit 0)))
      (.seq
      (.block 1
        (.seq
        (.region [
          ⟨(some 20), .move (.t 0), none⟩,
          ⟨(some 21), .move (.t 5), none⟩,
          ⟨(some 22), .indexAddr 3 (.t 20) (.t 21), none⟩,
          ⟨(some 23), .load true 3 (.t 22), none⟩,
          ⟨(some 6), .alloc [(.int .i64 0), (.int .i64 0), (.str (bs []))], none⟩,
          ⟨none, .store 3 (.t 6) (.t 23), none⟩])
        (.seq
        (.seq
        (.region [
          ⟨(some 24), .load true 3 (.t 6), none⟩,
          ⟨(some 25), .call f_warehouseref1_Valid [(.t 24)], none⟩,
          ⟨(some 26), .un .not (.t 25), none⟩])
        (.cond (.t 26)
          (.seq
          (.region [
            ⟨(some 2), .move (.c .nil), none⟩,
            ⟨(some 3), .move (.c (.int .i64 8)), none⟩])
          .ret)
          .skip))
        (.seq
        (.region [
          ⟨(some 27), .move (.t 4), none⟩,
          ⟨(some 28), .fieldAddr 0 (.t 6), none⟩,
          ⟨(some 29), .load false 1 (.t 28), none⟩,
          ⟨(some 30), .conv .u8 (.t 29), none⟩,
          ⟨(some 31), .buildSlice 1 1 [(.int .u8 0)] [(0, (.t 30))], none⟩,
          ⟨(some 32), .append 1 1 [(.int .u8 0)] (.t 27) (.t 31), none⟩,
          ⟨(some 4), .move (.t 32), none⟩])
        (.seq
        (.region [
          ⟨(some 33), .fieldAddr 0 (.t 6), none⟩,
          ⟨(some 34), .load false 1 (.t 33), none⟩])
        (.block 2
          (.seq
          (.region [
            ⟨(some 36), .bin .eql (.t 34) (.c (.int .i64 1)), none⟩,
            ⟨(some 35), .move (.t 36), none⟩])
          (.cond (.t 35)
            (.region [
              ⟨(some 37), .move (.t 4), none⟩,
              ⟨(some 38), .fieldAddr 1 (.t 6), none⟩,
              ⟨(some 39), .load false 1 (.t 38), none⟩,
              ⟨(some 40), .conv .u8 (.t 39), none⟩,
              ⟨(some 41), .buildSlice 1 1 [(.int .u8 0)] [(0, (.t 40))], none⟩,
              ⟨(some 42), .append 1 1 [(.int .u8 0)] (.t 37) (.t 41), none⟩,
              ⟨(some 4), .move (.t 42), none⟩])
            (.seq
            (.region [
              ⟨(some 44), .bin .eql (.t 34) (.c (.int .i64 2)), none⟩,
              ⟨(some 43), .move (.t 44), none⟩])
            (.cond (.t 43)
              (.region [
                ⟨(some 45), .move (.t 4), none⟩,
                ⟨(some 46), .fieldAddr 1 (.t 6), none⟩,
                ⟨(some 47), .load false 1 (.t 46), none⟩,
                ⟨(some 48), .bin .add (.t 47) (.c (.int .i64 1073741824)), none⟩,
                ⟨(some 49), .call f_warehouseref1_four [(.t 48)], none⟩,
                ⟨(some 50), .append 1 1 [(.int .u8 0)] (.t 45) (.t 49), none⟩,
                ⟨(some 4), .move (.t 50), none⟩])
              (.seq
              (.region [
                ⟨(some 52), .bin .eql (.t 34) (.c (.int .i64 3)), none⟩,
                ⟨(some 51), .move (.t 52), none⟩])
              (.cond (.t 51)
                (.draw [
                  (⟨(some 53), .move (.t 4), none⟩, []),
                  (⟨(some 54), .fieldAddr 2 (.t 6), none⟩, []),
                  (⟨(some 55), .load false 1 (.t 54), none⟩, []),
                  (⟨(some 56), .lenS (.t 55), none⟩, []),
                  (⟨(some 57), .conv .u8 (.t 56), none⟩, []),
                  (⟨(some 58), .buildSlice 1 1 [(.int .u8 0)] [(0, (.t 57))], none⟩, []),
                  (⟨(some 59), .append 1 1 [(.int .u8 0)] (.t 53) (.t 58), none⟩, []),
                  (⟨(some 60), .fieldAddr 2 (.t 6), none⟩, []),
                  (⟨(some 61), .load false 1 (.t 60), none⟩, [11]),
                  (⟨(some 62), .append 1 1 [(.int .u8 0)] (.t 59) (.t 61), none⟩, []),
                  (⟨(some 4), .move (.t 62), none⟩, [])])
                (.seq
                (.region [
                  ⟨(some 64), .bin .eql (.t 34) (.c (.int .i64 4)), none⟩,
                  ⟨(some 63), .move (.t 64), none⟩])
                (.cond (.t 63)
                  (.region [
                    ⟨(some 65), .move (.t 4), none⟩,
                    ⟨(some 66), .fieldAddr 1 (.t 6), none⟩,
                    ⟨(some 67), .load false 1 (.t 66), none⟩,
                    ⟨(some 68), .call f_warehouseref1_four [(.t 67)], none⟩,
                    ⟨(some 69), .append 1 1 [(.int .u8 0)] (.t 65) (.t 68), none⟩,
                    ⟨(some 4), .move (.t 69), none⟩])
                  .skip))))))))))))))
      (.region [
        ⟨(some 18), .move (.t 5), none⟩,
        ⟨(some 19), .bin .add (.t 18) (.c (.int .i64 1)), none⟩,
        ⟨(some 5), .move (.t 19), none⟩]))))))
  (.seq
  (.region [
    ⟨(some 70), .move (.t 4), none⟩,
    ⟨(some 2), .move (.t 70), none⟩,
    ⟨(some 3), .move (.c (.int .i64 0)), none⟩])
  .ret)))))⟩

structure F_warehouseref1_Encode (P : Program) where
  id : FuncId
  warehouseref1_Valid : F_warehouseref1_Valid P
  warehouseref1_four : F_warehouseref1_four P
  has : Has P id [13] (c_warehouseref1_Encode warehouseref1_Valid.id warehouseref1_four.id)

def c_value_number : AFunc := ⟨19, [.tmp 2],
  (.seq
  (.region [
    ⟨(some 2), .move (.c (.int .i64 0)), none⟩])
  (.seq
  (.region [
    ⟨(some 3), .move (.c (.int .i64 0)), none⟩])
  (.seq
  (.seq
  (.region [
    ⟨(some 6), .move (.t 0), none⟩,
    ⟨(some 7), .len (.t 6), none⟩,
    ⟨(some 8), .move (.c (.int .i64 0)), none⟩])
  (.block 0
    (.loop
      (.seq
      (.region [
        ⟨(some 9), .bin .lss (.t 8) (.t 7), none⟩])
      (.seq
      (.cond (.t 9)
        .skip
        (.exit 0))
      (.seq
      (.block 1
        (.seq
        (.region [
          ⟨(some 10), .indexAddr 1 (.t 6) (.t 8), none⟩,
          ⟨(some 11), .load false 1 (.t 10), none⟩,
          ⟨(some 5), .move (.t 11), none⟩])
        (.region [
          ⟨(some 12), .move (.t 3), none⟩,
          ⟨(some 13), .bin .shl (.t 12) (.c (.int .u64 8)), none⟩,
          ⟨(some 14), .move (.t 5), none⟩,
          ⟨(some 15), .conv .i64 (.t 14), none⟩,
          ⟨(some 16), .bin .or (.t 13) (.t 15), none⟩,
          ⟨(some 3), .move (.t 16), none⟩])))
      (.region [
        ⟨(some 17), .bin .add (.t 8) (.c (.int .i64 1)), none⟩,
        ⟨(some 8), .move (.t 17), none⟩])))))))
  (.seq
  (.region [
    ⟨(some 18), .move (.t 3), none⟩,
    ⟨(some 2), .move (.t 18), none⟩])
  .ret))))⟩

structure F_value_number (P : Program) where
  id : FuncId
  has : Has P id [] c_value_number

def c_value_decode (f_value_number : FuncId) : AFunc := ⟨98, [.cell true 3 2, .tmp 3],
  (.seq
  (.region [
    ⟨(some 2), .alloc [(.int .i64 0), (.int .i64 0), (.str (bs []))], none⟩,
    ⟨(some 3), .move (.c (.int .i64 0)), none⟩])
  (.seq
  (.seq
  (.region [
    ⟨(some 5), .move (.t 0), none⟩,
    ⟨(some 6), .len (.t 5), none⟩,
    ⟨(some 7), .bin .eql (.t 6) (.c (.int .i64 0)), none⟩])
  (.cond (.t 7)
    (.seq
    (.region [
      ⟨(some 8), .build [(.int .i64 0), (.int .i64 0), (.str (bs []))] [], none⟩,
      ⟨none, .store 3 (.t 2) (.t 8), none⟩,
      ⟨(some 3), .move (.c (.int .i64 0)), none⟩])
    .ret)
    .skip))
  (.seq
  (.region [
    ⟨(some 9), .move (.t 0), none⟩,
    ⟨(some 10), .indexAddr 1 (.t 9) (.c (.int .i64 0)), none⟩,
    ⟨(some 11), .load false 1 (.t 10), none⟩,
    ⟨(some 12), .conv .i64 (.t 11), none⟩,
    ⟨(some 13), .build [(.int .i64 0), (.int .i64 0), (.str (bs []))] [(0, 1, (.t 12))], none⟩,
    ⟨(some 4), .alloc [(.int .i64 0), (.int .i64 0), (.str (bs []))], none⟩,
    ⟨none, .store 3 (.t 4) (.t 13), none⟩])
  (.seq
  (.block 0
    (.seq
    (.region [
      ⟨(some 15), .fieldAddr 0 (.t 4), none⟩,
      ⟨(some 16), .load false 1 (.t 15), none⟩,
      ⟨(some 17), .bin .eql (.t 16) (.c (.int .i64 0)), none⟩,
      ⟨(some 14), .move (.t 17), none⟩])
    (.cond (.t 14)
      (.seq
      (.region [
        ⟨(some 18), .load true 3 (.t 4), none⟩,
        ⟨none, .store 3 (.t 2) (.t 18), none⟩,
        ⟨(some 3), .move (.c (.int .i64 1)), none⟩])
      .ret)
      (.seq
      (.region [
        ⟨(some 20), .fieldAddr 0 (.t 4), none⟩,
        ⟨(some 21), .load false 1 (.t 20), none⟩,
        ⟨(some 22), .bin .eql (.t 21) (.c (.int .i64 1)), none⟩,
        ⟨(some 23), .move (.t 22), none⟩,
        ⟨(some 24), .move (.t 0), some (some 23, true)⟩,
        ⟨(some 25), .len (.t 24), some (some 23, true)⟩,
        ⟨(some 26), .bin .geq (.t 25) (.c (.int .i64 2)), some (some 23, true)⟩,
        ⟨(some 27), .pick (.t 23) (.t 26) (.c (.bool false)), none⟩,
        ⟨(some 19), .move (.t 27), none⟩])
      (.cond (.t 19)
        (.seq
        (.region [
          ⟨(some 28), .move (.t 0), none⟩,
          ⟨(some 29), .indexAddr 1 (.t 28) (.c (.int .i64 1)), none⟩,
          ⟨(some 30), .load false 1 (.t 29), none⟩,
          ⟨(some 31), .conv .i64 (.t 30), none⟩,
          ⟨(some 32), .fieldAddr 1 (.t 4), none⟩,
          ⟨none, .store 1 (.t 32) (.t 31), none⟩])
        (.seq
        (.region [
          ⟨(some 33), .load true 3 (.t 4), none⟩,
          ⟨none, .store 3 (.t 2) (.t 33), none⟩,
          ⟨(some 3), .move (.c (.int .i64 2)), none⟩])
        .ret))
        (.seq
        (.region [
          ⟨(some 35), .fieldAddr 0 (.t 4), none⟩,
          ⟨(some 36), .load false 1 (.t 35), none⟩,
          ⟨(some 37), .bin .eql (.t 36) (.c (.int .i64 2)), none⟩,
          ⟨(some 38), .move (.t 37), none⟩,
          ⟨(some 39), .move (.t 0), some (some 38, true)⟩,
          ⟨(some 40), .len (.t 39), some (some 38, true)⟩,
          ⟨(some 41), .bin .geq (.t 40) (.c (.int .i64 5)), some (some 38, true)⟩,
          ⟨(some 42), .pick (.t 38) (.t 41) (.c (.bool false)), none⟩,
          ⟨(some 34), .move (.t 42), none⟩])
        (.cond (.t 34)
          (.seq
          (.region [
            ⟨(some 43), .move (.t 0), none⟩,
            ⟨(some 44), .slice 1 (.t 43) (some (.c (.int .i64 1))) (some (.c (.int .i64 5))), none⟩,
            ⟨(some 45), .call f_value_number [(.t 44)], none⟩,
            ⟨(some 46), .bin .sub (.t 45) (.c (.int .i64 1073741824)), none⟩,
            ⟨(some 47), .fieldAddr 1 (.t 4), none⟩,
            ⟨none, .store 1 (.t 47) (.t 46), none⟩])
          (.seq
          (.region [
            ⟨(some 48), .load true 3 (.t 4), none⟩,
            ⟨none, .store 3 (.t 2) (.t 48), none⟩,
            ⟨(some 3), .move (.c (.int .i64 5)), none⟩])
          .ret))
          (.seq
          (.region [
            ⟨(some 50), .fieldAddr 0 (.t 4), none⟩,
            ⟨(some 51), .load false 1 (.t 50), none⟩,
            ⟨(some 52), .bin .eql (.t 51) (.c (.int .i64 4)), none⟩,
            ⟨(some 53), .move (.t 52), none⟩,
            ⟨(some 54), .move (.t 0), some (some 53, true)⟩,
            ⟨(some 55), .len (.t 54), some (some 53, true)⟩,
            ⟨(some 56), .bin .geq (.t 55) (.c (.int .i64 5)), some (some 53, true)⟩,
            ⟨(some 57), .pick (.t 53) (.t 56) (.c (.bool false)), none⟩,
            ⟨(some 49), .move (.t 57), none⟩])
          (.cond (.t 49)
            (.seq
            (.region [
              ⟨(some 58), .move (.t 0), none⟩,
              ⟨(some 59), .slice 1 (.t 58) (some (.c (.int .i64 1))) (some (.c (.int .i64 5))), none⟩,
              ⟨(some 60), .call f_value_number [(.t 59)], none⟩,
              ⟨(some 61), .fieldAddr 1 (.t 4), none⟩,
              ⟨none, .store 1 (.t 61) (.t 60), none⟩])
            (.seq
            (.region [
              ⟨(some 62), .load true 3 (.t 4), none⟩,
              ⟨none, .store 3 (.t 2) (.t 62), none⟩,
              ⟨(some 3), .move (.c (.int .i64 5)), none⟩])
            .ret))
            (.seq
            (.region [
              ⟨(some 64), .fieldAddr 0 (.t 4), none⟩,
              ⟨(some 65), .load false 1 (.t 64), none⟩,
              ⟨(some 66), .bin .eql (.t 65) (.c (.int .i64 3)), none⟩,
              ⟨(some 67), .move (.t 66), none⟩,
              ⟨(some 68), .move (.t 0), some (some 67, true)⟩,
              ⟨(some 69), .len (.t 68), some (some 67, true)⟩,
              ⟨(some 70), .bin .geq (.t 69) (.c (.int .i64 2)), some (some 67, true)⟩,
              ⟨(some 71), .pick (.t 67) (.t 70) (.c (.bool false)), none⟩,
              ⟨(some 72), .move (.t 71), none⟩,
              ⟨(some 73), .move (.t 0), some (some 72, true)⟩,
              ⟨(some 74), .len (.t 73), some (some 72, true)⟩,
              ⟨(some 75), .move (.t 0), some (some 72, true)⟩,
              ⟨(some 76), .indexAddr 1 (.t 75) (.c (.int .i64 1)), some (some 72, true)⟩,
              ⟨(some 77), .load false 1 (.t 76), some (some 72, true)⟩,
              ⟨(some 78), .conv .i64 (.t 77), some (some 72, true)⟩,
              ⟨(some 79), .bin .add (.c (.int .i64 2)) (.t 78), some (some 72, true)⟩,
              ⟨(some 80), .bin .geq (.t 74) (.t 79), some (some 72, true)⟩,
              ⟨(some 81), .pick (.t 72) (.t 80) (.c (.bool false)), none⟩,
              ⟨(some 63), .move (.t 81), none⟩])
            (.cond (.t 63)
              (.seq
              (.region [
                ⟨(some 82), .move (.t 0), none⟩,
                ⟨(some 83), .move (.t 0), none⟩,
                ⟨(some 84), .indexAddr 1 (.t 83) (.c (.int .i64 1)), none⟩,
                ⟨(some 85), .load false 1 (.t 84), none⟩,
                ⟨(some 86), .conv .i64 (.t 85), none⟩,
                ⟨(some 87), .bin .add (.c (.int .i64 2)) (.t 86), none⟩,
                ⟨(some 88), .slice 1 (.t 82) (some (.c (.int .i64 2))) (some (.t 87)), none⟩,
                ⟨(some 89), .convBS (.t 88), none⟩,
                ⟨(some 90), .fieldAddr 2 (.t 4), none⟩,
                ⟨none, .store 1 (.t 90) (.t 89), none⟩])
              (.seq
              (.draw [
                (⟨(some 91), .load true 3 (.t 4), none⟩, []),
                (⟨(some 92), .move (.t 0), none⟩, []),
                (⟨(some 93), .indexAddr 1 (.t 92) (.c (.int .i64 1)), none⟩, [1]),
                (⟨(some 94), .load false 1 (.t 93), none⟩, [1]),
                (⟨(some 95), .conv .i64 (.t 94), none⟩, []),
                (⟨(some 96), .bin .add (.c (.int .i64 2)) (.t 95), none⟩, []),
                (⟨none, .store 3 (.t 2) (.t 91), none⟩, []),
                (⟨(some 3), .move (.t 96), none⟩, [])])
              .ret))
              .skip)))))))))))
  (.seq
  (.region [
    ⟨(some 97), .build [(.int .i64 0), (.int .i64 0), (.str (bs []))] [], none⟩,
    ⟨none, .store 3 (.t 2) (.t 97), none⟩,
    ⟨(some 3), .move (.c (.int .i64 0)), none⟩])
  .ret)))))⟩

structure F_value_decode (P : Program) where
  id : FuncId
  value_number : F_value_number P
  has : Has P id [] (c_value_decode value_number.id)

def c_value_Decode (f_value_decode : FuncId) (f_value_Valid : FuncId) : AFunc := ⟨50, [.tmp 2, .tmp 3],
  (.seq
  (.region [
    ⟨(some 2), .move (.c .nil), none⟩,
    ⟨(some 3), .move (.c (.int .i64 0)), none⟩])
  (.seq
  (.seq
  (.region [
    ⟨(some 8), .move (.t 0), none⟩,
    ⟨(some 9), .len (.t 8), none⟩,
    ⟨(some 10), .bin .eql (.t 9) (.c (.int .i64 0)), none⟩,
    ⟨(some 11), .move (.t 10), none⟩,
    ⟨(some 12), .move (.t 0), some (some 11, false)⟩,
    ⟨(some 13), .indexAddr 1 (.t 12) (.c (.int .i64 0)), some (some 11, false)⟩,
    ⟨(some 14), .load false 1 (.t 13), some (some 11, false)⟩,
    ⟨(some 15), .bin .gtr (.t 14) (.c (.int .u8 12)), some (some 11, false)⟩,
    ⟨(some 16), .pick (.t 11) (.c (.bool true)) (.t 15), none⟩])
  (.cond (.t 16)
    (.seq
    (.region [
      ⟨(some 2), .move (.c .nil), none⟩,
      ⟨(some 3), .move (.c (.int .i64 11)), none⟩])
    .ret)
    .skip))
  (.seq
  (.region [
    ⟨(some 17), .move (.t 0), none⟩,
    ⟨(some 18), .indexAddr 1 (.t 17) (.c (.int .i64 0)), none⟩,
    ⟨(some 19), .load false 1 (.t 18), none⟩,
    ⟨(some 20), .conv .i64 (.t 19), none⟩,
    ⟨(some 4), .move (.t 20), none⟩])
  (.seq
  (.region [
    ⟨(some 21), .move (.t 0), none⟩,
    ⟨(some 22), .slice 1 (.t 21) (some (.c (.int .i64 1))) none, none⟩,
    ⟨(some 0), .move (.t 22), none⟩])
  (.seq
  (.region [
    ⟨(some 5), .move (.c .nil), none⟩])
  (.seq
  (.seq
  (.region [
    ⟨(some 23), .move (.t 4), none⟩,
    ⟨(some 24), .move (.c (.int .i64 0)), none⟩])
  (.block 0
    (.loop
      (.seq
      (.region [
        ⟨(some 25), .bin .lss (.t 24) (.t 23), none⟩])
      (.seq
      (.cond (.t 25)
        .skip
        (.exit 0))
      (.seq
      (.block 1
        (.seq
        (.region [
          ⟨(some 27), .move (.t 0), none⟩,
          ⟨(some 28), .call f_value_decode [(.t 27)], none⟩,
          ⟨(some 26), .move (.t 28), none⟩,
          ⟨(some 29), .extract (.t 26) 0, none⟩,
          ⟨(some 30), .extract (.t 26) 1, none⟩,
          ⟨(some 6), .alloc [(.int .i64 0), (.int .i64 0), (.str (bs []))], none⟩,
          ⟨none, .store 3 (.t 6) (.t 29), none⟩,
          ⟨(some 7), .move (.t 30), none⟩])
        (.seq
        (.seq
        (.region [
          ⟨(some 31), .move (.t 7), none⟩,
          ⟨(some 32), .bin .eql (.t 31) (.c (.int .i64 0)), none⟩,
          ⟨(some 33), .move (.t 32), none⟩,
          ⟨(some 34), .load true 3 (.t 6), some (some 33, false)⟩,
          ⟨(some 35), .call f_value_Valid [(.t 34)], some (some 33, false)⟩,
          ⟨(some 36), .un .not (.t 35), some (some 33, false)⟩,
          ⟨(some 37), .pick (.t 33) (.c (.bool true)) (.t 36), none⟩])
        (.cond (.t 37)
          (.seq
          (.region [
            ⟨(some 2), .move (.c .nil), none⟩,
            ⟨(some 3), .move (.c (.int .i64 11)), none⟩])
          .ret)
          .skip))
        (.draw [
          (⟨(some 38), .move (.t 5), none⟩, []),
          (⟨(some 39), .load true 3 (.t 6), none⟩, []),
          (⟨(some 40), .buildSlice 3 1 [(.int .i64 0), (.int .i64 0), (.str (bs []))] [(0, (.t 39))], none⟩, []),
          (⟨(some 41), .append 3 32 [(.int .i64 0), (.int .i64 0), (.str (bs []))] (.t 38) (.t 40), none⟩, []),
          (⟨(some 42), .move (.t 0), none⟩, []),
          (⟨(some 43), .move (.t 7), none⟩, []),
          (⟨(some 44), .slice 1 (.t 42) (some (.t 43)) none, none⟩, [9]),
          (⟨(some 5), .move (.t 41), none⟩, []),
          (⟨(some 0), .move (.t 44), none⟩, [])]))))
      (.region [
        ⟨(some 45), .bin .add (.t 24) (.c (.int .i64 1)), none⟩,
        ⟨(some 24), .move (.t 45), none⟩])))))))
  (.seq
  (.seq
  (.region [
    ⟨(some 46), .move (.t 0), none⟩,
    ⟨(some 47), .len (.t 46), none⟩,
    ⟨(some 48), .bin .gtr (.t 47) (.c (.int .i64 0)), none⟩])
  (.cond (.t 48)
    (.seq
    (.region [
      ⟨(some 2), .move (.c .nil), none⟩,
      ⟨(some 3), .move (.c (.int .i64 11)), none⟩])
    .ret)
    .skip))
  (.seq
  (.region [
    ⟨(some 49), .move (.t 5), none⟩,
    ⟨(some 2), .move (.t 49), none⟩,
    ⟨(some 3), .move (.c (.int .i64 0)), none⟩])
  .ret))))))))⟩

structure F_value_Decode (P : Program) where
  id : FuncId
  value_decode : F_value_decode P
  value_Valid : F_value_Valid P
  has : Has P id [] (c_value_Decode value_decode.id value_Valid.id)

def c_schema_IsName : AFunc := ⟨41, [.tmp 2],
  (.seq
  (.region [
    ⟨(some 2), .move (.c (.bool false)), none⟩])
  (.seq
  (.seq
  (.region [
    ⟨(some 6), .move (.t 0), none⟩,
    ⟨(some 7), .lenS (.t 6), none⟩,
    ⟨(some 8), .bin .gtr (.t 7) (.c (.int .i64 24)), none⟩])
  (.cond (.t 8)
    (.seq
    (.region [
      ⟨(some 2), .move (.c (.bool false)), none⟩])
    .ret)
    .skip))
  (.seq
  (.seq
  (.region [
    ⟨(some 9), .move (.t 0), none⟩,
    ⟨(some 10), .range (.t 9), none⟩])
  (.block 0
    (.loop
      (.seq
      (.region [
        ⟨(some 11), .next (.t 10), none⟩,
        ⟨(some 12), .extract (.t 11) 0, none⟩])
      (.seq
      (.cond (.t 12)
        .skip
        (.exit 0))
      (.block 1
        (.seq
        (.region [
          ⟨(some 13), .extract (.t 11) 1, none⟩,
          ⟨(some 14), .extract (.t 11) 2, none⟩,
          ⟨(some 3), .move (.t 13), none⟩,
          ⟨(some 4), .move (.t 14), none⟩])
        (.seq
        (.region [
          ⟨(some 15), .move (.t 4), none⟩,
          ⟨(some 16), .bin .geq (.t 15) (.c (.int .i32 97)), none⟩,
          ⟨(some 17), .move (.t 16), none⟩,
          ⟨(some 18), .move (.t 4), some (some 17, true)⟩,
          ⟨(some 19), .bin .leq (.t 18) (.c (.int .i32 122)), some (some 17, true)⟩,
          ⟨(some 20), .pick (.t 17) (.t 19) (.c (.bool false)), none⟩,
          ⟨(some 5), .move (.t 20), none⟩])
        (.seq
        (.region [
          ⟨(some 21), .move (.t 5), none⟩,
          ⟨(some 22), .un .not (.t 21), none⟩,
          ⟨(some 23), .move (.t 22), none⟩,
          ⟨(some 24), .move (.t 3), some (some 23, true)⟩,
          ⟨(some 25), .bin .eql (.t 24) (.c (.int .i64 0)), some (some 23, true)⟩,
          ⟨(some 26), .move (.t 25), some (some 23, true)⟩,
          ⟨(some 27), .move (.t 4), some (some 26, false)⟩,
          ⟨(some 28), .bin .neq (.t 27) (.c (.int .i32 95)), some (some 26, false)⟩,
          ⟨(some 29), .move (.t 28), some (some 26, false)⟩,
          ⟨(some 30), .move (.t 4), some (some 29, true)⟩,
          ⟨(some 31), .bin .lss (.t 30) (.c (.int .i32 48)), some (some 29, true)⟩,
          ⟨(some 32), .move (.t 31), some (some 29, true)⟩,
          ⟨(some 33), .move (.t 4), some (some 32, false)⟩,
          ⟨(some 34), .bin .gtr (.t 33) (.c (.int .i32 57)), some (some 32, false)⟩,
          ⟨(some 35), .pick (.t 32) (.c (.bool true)) (.t 34), some (some 29, true)⟩,
          ⟨(some 36), .pick (.t 29) (.t 35) (.c (.bool false)), some (some 26, false)⟩,
          ⟨(some 37), .pick (.t 26) (.c (.bool true)) (.t 36), some (some 23, true)⟩,
          ⟨(some 38), .pick (.t 23) (.t 37) (.c (.bool false)), none⟩])
        (.cond (.t 38)
          (.seq
          (.region [
            ⟨(some 2), .move (.c (.bool false)), none⟩])
          .ret)
          .skip))))))))))
  (.seq
  (.region [
    ⟨(some 39), .move (.t 0), none⟩,
    ⟨(some 40), .bin .neq (.t 39) (.c (.str (bs []))), none⟩,
    ⟨(some 2), .move (.t 40), none⟩])
  .ret))))⟩

structure F_schema_IsName (P : Program) where
  id : FuncId
  has : Has P id [] c_schema_IsName

structure F_bytealg_IndexByteString (P : Program) where
  id : FuncId
  has : HasX P id Extern.BytealgIndexByte.indexByte

def c_stringslite_IndexByte (f_bytealg_IndexByteString : FuncId) : AFunc := ⟨8, [.tmp 4],
  (.seq
  (.region [
    ⟨(some 4), .move (.c (.int .i64 0)), none⟩])
  (.seq
  (.region [
    ⟨(some 5), .move (.t 0), none⟩,
    ⟨(some 6), .move (.t 1), none⟩,
    ⟨(some 7), .call f_bytealg_IndexByteString [(.t 5), (.t 6)], none⟩,
    ⟨(some 4), .move (.t 7), none⟩])
  .ret))⟩

structure F_stringslite_IndexByte (P : Program) where
  id : FuncId
  bytealg_IndexByteString : F_bytealg_IndexByteString P
  has : Has P id [] (c_stringslite_IndexByte bytealg_IndexByteString.id)

def c_bytealg_hashStr_string : AFunc := ⟨39, [.tmp 2, .tmp 3],
  (.seq
  (.region [
    ⟨(some 2), .move (.c (.int .u32 0)), none⟩,
    ⟨(some 3), .move (.c (.int .u32 0)), none⟩])
  (.seq
  (.region [
    ⟨(some 4), .move (.c (.int .u32 0)), none⟩])
  (.seq
  (.seq
  (.region [
    ⟨(some 5), .move (.c (.int .i64 0)), none⟩])
  (.block 0
    (.loop
      (.seq
      (.seq
      (.region [
        ⟨(some 9), .move (.t 5), none⟩,
        ⟨(some 10), .move (.t 0), none⟩,
        ⟨(some 11), .lenS (.t 10), none⟩,
        ⟨(some 12), .bin .lss (.t 9) (.t 11), none⟩])
      (.cond (.t 12)
        .skip
        (.exit 0)))
      (.seq
      (.block 1
        (.region [
          ⟨(some 15), .move (.t 4), none⟩,
          ⟨(some 16), .bin .mul (.t 15) (.c (.int .u32 16777619)), none⟩,
          ⟨(some 17), .move (.t 0), none⟩,
          ⟨(some 18), .move (.t 5), none⟩,
          ⟨(some 19), .indexStr (.t 17) (.t 18), none⟩,
          ⟨(some 20), .conv .u32 (.t 19), none⟩,
          ⟨(some 21), .bin .add (.t 16) (.t 20), none⟩,
          ⟨(some 4), .move (.t 21), none⟩]))
      (.region [
        ⟨(some 13), .move (.t 5), none⟩,
        ⟨(some 14), .bin .add (.t 13) (.c (.int .i64 1)), none⟩,
        ⟨(some 5), .move (.t 14), none⟩]))))))
  (.seq
  (.region [
    ⟨(some 6), .move (.c (.int .u32 1)), none⟩,
    ⟨(some 7), .move (.c (.int .u32 16777619)), none⟩])
  (.seq
  (.seq
  (.region [
    ⟨(some 22), .move (.t 0), none⟩,
    ⟨(some 23), .lenS (.t 22), none⟩,
    ⟨(some 8), .move (.t 23), none⟩])
  (.block 2
    (.loop
      (.seq
      (.seq
      (.region [
        ⟨(some 24), .move (.t 8), none⟩,
        ⟨(some 25), .bin .gtr (.t 24) (.c (.int .i64 0)), none⟩])
      (.cond (.t 25)
        .skip
        (.exit 2)))
      (.seq
      (.block 3
        (.seq
        (.seq
        (.region [
          ⟨(some 28), .move (.t 8), none⟩,
          ⟨(some 29), .bin .and (.t 28) (.c (.int .i64 1)), none⟩,
          ⟨(some 30), .bin .neq (.t 29) (.c (.int .i64 0)), none⟩])
        (.cond (.t 30)
          (.region [
            ⟨(some 31), .move (.t 6), none⟩,
            ⟨(some 32), .move (.t 7), none⟩,
            ⟨(some 33), .bin .mul (.t 31) (.t 32), none⟩,
            ⟨(some 6), .move (.t 33), none⟩])
          .skip))
        (.region [
          ⟨(some 34), .move (.t 7), none⟩,
          ⟨(some 35), .move (.t 7), none⟩,
          ⟨(some 36), .bin .mul (.t 34) (.t 35), none⟩,
          ⟨(some 7), .move (.t 36), none⟩])))
      (.region [
        ⟨(some 26), .move (.t 8), none⟩,
        ⟨(some 27), .bin .shr (.t 26) (.c (.int .u64 1)), none⟩,
        ⟨(some 8), .move (.t 27), none⟩]))))))
  (.seq
  (.region [
    ⟨(some 37), .move (.t 4), none⟩,
    ⟨(some 38), .move (.t 6), none⟩,
    ⟨(some 2), .move (.t 37), none⟩,
    ⟨(some 3), .move (.t 38), none⟩])
  .ret))))))⟩

structure F_bytealg_hashStr_string (P : Program) where
  id : FuncId
  has : Has P id [] c_bytealg_hashStr_string

def c_bytealg_IndexRabinKarp_string (f_bytealg_hashStr_string : FuncId) : AFunc := ⟨81, [.tmp 4],
  (.seq
  (.region [
    ⟨(some 4), .move (.c (.int .i64 0)), none⟩])
  (.seq
  (.region [
    ⟨(some 12), .move (.t 1), none⟩,
    ⟨(some 13), .call f_bytealg_hashStr_string [(.t 12)], none⟩,
    ⟨(some 11), .move (.t 13), none⟩,
    ⟨(some 14), .extract (.t 11) 0, none⟩,
    ⟨(some 15), .extract (.t 11) 1, none⟩,
    ⟨(some 5), .move (.t 14), none⟩,
    ⟨(some 6), .move (.t 15), none⟩])
  (.seq
  (.region [
    ⟨(some 16), .move (.t 1), none⟩,
    ⟨(some 17), .lenS (.t 16), none⟩,
    ⟨(some 7), .move (.t 17), none⟩])
  (.seq
  (.region [
    ⟨(some 8), .move (.c (.int .u32 0)), none⟩])
  (.seq
  (.seq
  (.region [
    ⟨(some 9), .move (.c (.int .i64 0)), none⟩])
  (.block 0
    (.loop
      (.seq
      (.seq
      (.region [
        ⟨(some 18), .move (.t 9), none⟩,
        ⟨(some 19), .move (.t 7), none⟩,
        ⟨(some 20), .bin .lss (.t 18) (.t 19), none⟩])
      (.cond (.t 20)
        .skip
        (.exit 0)))
      (.seq
      (.block 1
        (.region [
          ⟨(some 23), .move (.t 8), none⟩,
          ⟨(some 24), .bin .mul (.t 23) (.c (.int .u32 16777619)), none⟩,
          ⟨(some 25), .move (.t 0), none⟩,
          ⟨(some 26), .move (.t 9), none⟩,
          ⟨(some 27), .indexStr (.t 25) (.t 26), none⟩,
          ⟨(some 28), .conv .u32 (.t 27), none⟩,
          ⟨(some 29), .bin .add (.t 24) (.t 28), none⟩,
          ⟨(some 8), .move (.t 29), none⟩]))
      (.region [
        ⟨(some 21), .move (.t 9), none⟩,
        ⟨(some 22), .bin .add (.t 21) (.c (.int .i64 1)), none⟩,
        ⟨(some 9), .move (.t 22), none⟩]))))))
  (.seq
  (.seq
  (.region [
    ⟨(some 30), .move (.t 8), none⟩,
    ⟨(some 31), .move (.t 5), none⟩,
    ⟨(some 32), .bin .eql (.t 30) (.t 31), none⟩,
    ⟨(some 33), .move (.t 32), none⟩,
    ⟨(some 34), .move (.t 0), some (some 33, true)⟩,
    ⟨(some 35), .move (.t 7), some (some 33, true)⟩,
    ⟨(some 36), .sliceStr (.t 34) none (some (.t 35)), some (some 33, true)⟩,
    ⟨(some 37), .move (.t 1), some (some 33, true)⟩,
    ⟨(some 38), .bin .eql (.t 36) (.t 37), some (some 33, true)⟩,
    ⟨(some 39), .pick (.t 33) (.t 38) (.c (.bool false)), none⟩])
  (.cond (.t 39)
    (.seq
    (.region [
      ⟨(some 4), .move (.c (.int .i64 0)), none⟩])
    .ret)
    .skip))
  (.seq
  (.seq
  (.region [
    ⟨(some 40), .move (.t 7), none⟩,
    ⟨(some 10), .move (.t 40), none⟩])
  (.block 2
    (.loop
      (.seq
      (.seq
      (.region [
        ⟨(some 41), .move (.t 10), none⟩,
        ⟨(some 42), .move (.t 0), none⟩,
        ⟨(some 43), .lenS (.t 42), none⟩,
        ⟨(some 44), .bin .lss (.t 41) (.t 43), none⟩])
      (.cond (.t 44)
        .skip
        (.exit 2)))
      (.block 3
        (.seq
        (.region [
          ⟨(some 45), .move (.t 8), none⟩,
          ⟨(some 46), .bin .mul (.t 45) (.c (.int .u32 16777619)), none⟩,
          ⟨(some 8), .move (.t 46), none⟩])
        (.seq
        (.region [
          ⟨(some 47), .move (.t 8), none⟩,
          ⟨(some 48), .move (.t 0), none⟩,
          ⟨(some 49), .move (.t 10), none⟩,
          ⟨(some 50), .indexStr (.t 48) (.t 49), none⟩,
          ⟨(some 51), .conv .u32 (.t 50), none⟩,
          ⟨(some 52), .bin .add (.t 47) (.t 51), none⟩,
          ⟨(some 8), .move (.t 52), none⟩])
        (.seq
        (.region [
          ⟨(some 53), .move (.t 8), none⟩,
          ⟨(some 54), .move (.t 6), none⟩,
          ⟨(some 55), .move (.t 0), none⟩,
          ⟨(some 56), .move (.t 10), none⟩,
          ⟨(some 57), .move (.t 7), none⟩,
          ⟨(some 58), .bin .sub (.t 56) (.t 57), none⟩,
          ⟨(some 59), .indexStr (.t 55) (.t 58), none⟩,
          ⟨(some 60), .conv .u32 (.t 59), none⟩,
          ⟨(some 61), .bin .mul (.t 54) (.t 60), none⟩,
          ⟨(some 62), .bin .sub (.t 53) (.t 61), none⟩,
          ⟨(some 8), .move (.t 62), none⟩])
        (.seq
        (.region [
          ⟨(some 63), .move (.t 10), none⟩,
          ⟨(some 64), .bin .add (.t 63) (.c (.int .i64 1)), none⟩,
          ⟨(some 10), .move (.t 64), none⟩])
        (.seq
        (.region [
          ⟨(some 65), .move (.t 8), none⟩,
          ⟨(some 66), .move (.t 5), none⟩,
          ⟨(some 67), .bin .eql (.t 65) (.t 66), none⟩,
          ⟨(some 68), .move (.t 67), none⟩,
          ⟨(some 69), .move (.t 0), some (some 68, true)⟩,
          ⟨(some 70), .move (.t 10), some (some 68, true)⟩,
          ⟨(some 71), .move (.t 7), some (some 68, true)⟩,
          ⟨(some 72), .bin .sub (.t 70) (.t 71), some (some 68, true)⟩,
          ⟨(some 73), .move (.t 10), some (some 68, true)⟩,
          ⟨(some 74), .sliceStr (.t 69) (some (.t 72)) (some (.t 73)), some (some 68, true)⟩,
          ⟨(some 75), .move (.t 1), some (some 68, true)⟩,
          ⟨(some 76), .bin .eql (.t 74) (.t 75), some (some 68, true)⟩,
          ⟨(some 77), .pick (.t 68) (.t 76) (.c (.bool false)), none⟩])
        (.cond (.t 77)
          (.seq
          (.region [
            ⟨(some 78), .move (.t 10), none⟩,
            ⟨(some 79), .move (.t 7), none⟩,
            ⟨(some 80), .bin .sub (.t 78) (.t 79), none⟩,
            ⟨(some 4), .move (.t 80), none⟩])
          .ret)
          .skip)))))))))))
  (.seq
  (.region [
    ⟨(some 4), .move (.c (.int .i64 (-1))), none⟩])
  .ret))))))))⟩

structure F_bytealg_IndexRabinKarp_string (P : Program) where
  id : FuncId
  bytealg_hashStr_string : F_bytealg_hashStr_string P
  has : Has P id [] (c_bytealg_IndexRabinKarp_string bytealg_hashStr_string.id)

def c_stringslite_Index (f_stringslite_IndexByte : FuncId) (f_bytealg_IndexString : FuncId) (f_bytealg_IndexRabinKarp_string : FuncId) : AFunc := ⟨143, [.tmp 4],
  (.seq
  (.region [
    ⟨(some 4), .move (.c (.int .i64 0)), none⟩])
  (.seq
  (.region [
    ⟨(some 14), .move (.t 1), none⟩,
    ⟨(some 15), .lenS (.t 14), none⟩,
    ⟨(some 5), .move (.t 15), none⟩])
  (.seq
  (.block 0
    (.seq
    (.region [
      ⟨(some 17), .move (.t 5), none⟩,
      ⟨(some 18), .bin .eql (.t 17) (.c (.int .i64 0)), none⟩,
      ⟨(some 19), .move (.t 18), none⟩,
      ⟨(some 20), .move (.t 1), some (some 19, false)⟩,
      ⟨(some 21), .move (.t 0), some (some 19, false)⟩,
      ⟨(some 22), .bin .eql (.t 20) (.t 21), some (some 19, false)⟩,
      ⟨(some 23), .pick (.t 19) (.c (.bool true)) (.t 22), none⟩,
      ⟨(some 16), .move (.t 23), none⟩])
    (.cond (.t 16)
      (.seq
      (.region [
        ⟨(some 4), .move (.c (.int .i64 0)), none⟩])
      .ret)
      (.seq
      (.region [
        ⟨(some 25), .move (.t 5), none⟩,
        ⟨(some 26), .bin .eql (.t 25) (.c (.int .i64 1)), none⟩,
        ⟨(some 24), .move (.t 26), none⟩])
      (.cond (.t 24)
        (.seq
        (.region [
          ⟨(some 27), .move (.t 0), none⟩,
          ⟨(some 28), .move (.t 1), none⟩,
          ⟨(some 29), .indexStr (.t 28) (.c (.int .i64 0)), none⟩,
          ⟨(some 30), .call f_stringslite_IndexByte [(.t 27), (.t 29)], none⟩,
          ⟨(some 4), .move (.t 30), none⟩])
        .ret)
        (.seq
        (.region [
          ⟨(some 32), .move (.t 5), none⟩,
          ⟨(some 33), .move (.t 0), none⟩,
          ⟨(some 34), .lenS (.t 33), none⟩,
          ⟨(some 35), .bin .geq (.t 32) (.t 34), none⟩,
          ⟨(some 31), .move (.t 35), none⟩])
        (.cond (.t 31)
          (.seq
          (.region [
            ⟨(some 4), .move (.c (.int .i64 (-1))), none⟩])
          .ret)
          (.seq
          .stuck
          (.cond (.t 36)
            (.seq
            (.region [
              ⟨(some 45), .move (.t 0), none⟩,
              ⟨(some 46), .move (.t 1), none⟩,
              ⟨(some 47), .call f_bytealg_IndexString [(.t 45), (.t 46)], none⟩,
              ⟨(some 4), .move (.t 47), none⟩])
            .ret)
            .skip)))))))))
  (.seq
  (.region [
    ⟨(some 48), .move (.t 1), none⟩,
    ⟨(some 49), .indexStr (.t 48) (.c (.int .i64 0)), none⟩,
    ⟨(some 6), .move (.t 49), none⟩])
  (.seq
  (.region [
    ⟨(some 50), .move (.t 1), none⟩,
    ⟨(some 51), .indexStr (.t 50) (.c (.int .i64 1)), none⟩,
    ⟨(some 7), .move (.t 51), none⟩])
  (.seq
  (.region [
    ⟨(some 8), .move (.c (.int .i64 0)), none⟩])
  (.seq
  (.region [
    ⟨(some 52), .move (.t 0), none⟩,
    ⟨(some 53), .lenS (.t 52), none⟩,
    ⟨(some 54), .move (.t 5), none⟩,
    ⟨(some 55), .bin .sub (.t 53) (.t 54), none⟩,
    ⟨(some 56), .bin .add (.t 55) (.c (.int .i64 1)), none⟩,
    ⟨(some 9), .move (.t 56), none⟩])
  (.seq
  (.region [
    ⟨(some 10), .move (.c (.int .i64 0)), none⟩])
  (.seq
  (.block 1
    (.loop
      (.seq
      (.seq
      (.region [
        ⟨(some 57), .move (.t 8), none⟩,
        ⟨(some 58), .move (.t 9), none⟩,
        ⟨(some 59), .bin .lss (.t 57) (.t 58), none⟩])
      (.cond (.t 59)
        .skip
        (.exit 1)))
      (.block 2
        (.seq
        (.seq
        (.region [
          ⟨(some 60), .move (.t 0), none⟩,
          ⟨(some 61), .move (.t 8), none⟩,
          ⟨(some 62), .indexStr (.t 60) (.t 61), none⟩,
          ⟨(some 63), .move (.t 6), none⟩,
          ⟨(some 64), .bin .neq (.t 62) (.t 63), none⟩])
        (.cond (.t 64)
          (.seq
          (.region [
            ⟨(some 65), .move (.t 0), none⟩,
            ⟨(some 66), .move (.t 8), none⟩,
            ⟨(some 67), .bin .add (.t 66) (.c (.int .i64 1)), none⟩,
            ⟨(some 68), .move (.t 9), none⟩,
            ⟨(some 69), .sliceStr (.t 65) (some (.t 67)) (some (.t 68)), none⟩,
            ⟨(some 70), .move (.t 6), none⟩,
            ⟨(some 71), .call f_stringslite_IndexByte [(.t 69), (.t 70)], none⟩,
            ⟨(some 11), .move (.t 71), none⟩])
          (.seq
          (.seq
          (.region [
            ⟨(some 72), .move (.t 11), none⟩,
            ⟨(some 73), .bin .lss (.t 72) (.c (.int .i64 0)), none⟩])
          (.cond (.t 73)
            (.seq
            (.region [
              ⟨(some 4), .move (.c (.int .i64 (-1))), none⟩])
            .ret)
            .skip))
          (.region [
            ⟨(some 74), .move (.t 8), none⟩,
            ⟨(some 75), .move (.t 11), none⟩,
            ⟨(some 76), .bin .add (.t 75) (.c (.int .i64 1)), none⟩,
            ⟨(some 77), .bin .add (.t 74) (.t 76), none⟩,
            ⟨(some 8), .move (.t 77), none⟩])))
          .skip))
        (.seq
        (.seq
        (.region [
          ⟨(some 78), .move (.t 0), none⟩,
          ⟨(some 79), .move (.t 8), none⟩,
          ⟨(some 80), .bin .add (.t 79) (.c (.int .i64 1)), none⟩,
          ⟨(some 81), .indexStr (.t 78) (.t 80), none⟩,
          ⟨(some 82), .move (.t 7), none⟩,
          ⟨(some 83), .bin .eql (.t 81) (.t 82), none⟩,
          ⟨(some 84), .move (.t 83), none⟩,
          ⟨(some 85), .move (.t 0), some (some 84, true)⟩,
          ⟨(some 86), .move (.t 8), some (some 84, true)⟩,
          ⟨(some 87), .move (.t 8), some (some 84, true)⟩,
          ⟨(some 88), .move (.t 5), some (some 84, true)⟩,
          ⟨(some 89), .bin .add (.t 87) (.t 88), some (some 84, true)⟩,
          ⟨(some 90), .sliceStr (.t 85) (some (.t 86)) (some (.t 89)), some (some 84, true)⟩,
          ⟨(some 91), .move (.t 1), some (some 84, true)⟩,
          ⟨(some 92), .bin .eql (.t 90) (.t 91), some (some 84, true)⟩,
          ⟨(some 93), .pick (.t 84) (.t 92) (.c (.bool false)), none⟩])
        (.cond (.t 93)
          (.seq
          (.region [
            ⟨(some 94), .move (.t 8), none⟩,
            ⟨(some 4), .move (.t 94), none⟩])
          .ret)
          .skip))
        (.seq
        (.region [
          ⟨(some 95), .move (.t 8), none⟩,
          ⟨(some 96), .bin .add (.t 95) (.c (.int .i64 1)), none⟩,
          ⟨(some 8), .move (.t 96), none⟩])
        (.seq
        (.region [
          ⟨(some 97), .move (.t 10), none⟩,
          ⟨(some 98), .bin .add (.t 97) (.c (.int .i64 1)), none⟩,
          ⟨(some 10), .move (.t 98), none⟩])
        (.seq
        .stuck
        (.cond (.t 107)
          (.seq
          (.region [
            ⟨(some 108), .move (.t 0), none⟩,
            ⟨(some 109), .move (.t 8), none⟩,
            ⟨(some 110), .sliceStr (.t 108) (some (.t 109)) none, none⟩,
            ⟨(some 111), .move (.t 1), none⟩,
            ⟨(some 112), .call f_bytealg_IndexString [(.t 110), (.t 111)], none⟩,
            ⟨(some 12), .move (.t 112), none⟩])
          (.seq
          (.seq
          (.region [
            ⟨(some 113), .move (.t 12), none⟩,
            ⟨(some 114), .bin .geq (.t 113) (.c (.int .i64 0)), none⟩])
          (.cond (.t 114)
            (.seq
            (.region [
              ⟨(some 115), .move (.t 12), none⟩,
              ⟨(some 116), .move (.t 8), none⟩,
              ⟨(some 117), .bin .add (.t 115) (.t 116), none⟩,
              ⟨(some 4), .move (.t 117), none⟩])
            .ret)
            .skip))
          (.seq
          (.region [
            ⟨(some 4), .move (.c (.int .i64 (-1))), none⟩])
          .ret)))
          (.seq
          .stuck
          (.cond (.t 132)
            (.seq
            (.region [
              ⟨(some 133), .move (.t 0), none⟩,
              ⟨(some 134), .move (.t 8), none⟩,
              ⟨(some 135), .sliceStr (.t 133) (some (.t 134)) none, none⟩,
              ⟨(some 136), .move (.t 1), none⟩,
              ⟨(some 137), .call f_bytealg_IndexRabinKarp_string [(.t 135), (.t 136)], none⟩,
              ⟨(some 13), .move (.t 137), none⟩])
            (.seq
            (.seq
            (.region [
              ⟨(some 138), .move (.t 13), none⟩,
              ⟨(some 139), .bin .lss (.t 138) (.c (.int .i64 0)), none⟩])
            (.cond (.t 139)
              (.seq
              (.region [
                ⟨(some 4), .move (.c (.int .i64 (-1))), none⟩])
              .ret)
              .skip))
            (.seq
            (.region [
              ⟨(some 140), .move (.t 8), none⟩,
              ⟨(some 141), .move (.t 13), none⟩,
              ⟨(some 142), .bin .add (.t 140) (.t 141), none⟩,
              ⟨(some 4), .move (.t 142), none⟩])
            .ret)))
            .skip))))))))))))
  (.seq
  (.region [
    ⟨(some 4), .move (.c (.int .i64 (-1))), none⟩])
  .ret))))))))))⟩

structure F_stringslite_Index (P : Program) where
  id : FuncId
  stringslite_IndexByte : F_stringslite_IndexByte P
  bytealg_IndexString : FuncId
  bytealg_IndexRabinKarp_string : F_bytealg_IndexRabinKarp_string P
  has : Has P id [] (c_stringslite_Index stringslite_IndexByte.id bytealg_IndexString bytealg_IndexRabinKarp_string.id)

def c_stringslite_Cut (f_stringslite_Index : FuncId) : AFunc := ⟨23, [.tmp 4, .tmp 5, .tmp 6],
  (.seq
  (.region [
    ⟨(some 4), .move (.c (.str (bs []))), none⟩,
    ⟨(some 5), .move (.c (.str (bs []))), none⟩,
    ⟨(some 6), .move (.c (.bool false)), none⟩])
  (.seq
  (.seq
  (.region [
    ⟨(some 8), .move (.t 0), none⟩,
    ⟨(some 9), .move (.t 1), none⟩,
    ⟨(some 10), .call f_stringslite_Index [(.t 8), (.t 9)], none⟩,
    ⟨(some 7), .move (.t 10), none⟩])
  (.seq
  (.region [
    ⟨(some 11), .move (.t 7), none⟩,
    ⟨(some 12), .bin .geq (.t 11) (.c (.int .i64 0)), none⟩])
  (.cond (.t 12)
    (.seq
    (.draw [
      (⟨(some 13), .move (.t 0), none⟩, []),
      (⟨(some 14), .move (.t 7), none⟩, []),
      (⟨(some 15), .sliceStr (.t 13) none (some (.t 14)), none⟩, []),
      (⟨(some 16), .move (.t 0), none⟩, []),
      (⟨(some 17), .move (.t 7), none⟩, []),
      (⟨(some 18), .move (.t 1), none⟩, []),
      (⟨(some 19), .lenS (.t 18), none⟩, []),
      (⟨(some 20), .bin .add (.t 17) (.t 19), none⟩, []),
      (⟨(some 21), .sliceStr (.t 16) (some (.t 20)) none, none⟩, []),
      (⟨(some 4), .move (.t 15), none⟩, []),
      (⟨(some 5), .move (.t 21), none⟩, []),
      (⟨(some 6), .move (.c (.bool true)), none⟩, [])])
    .ret)
    .skip)))
  (.seq
  (.region [
    ⟨(some 22), .move (.t 0), none⟩,
    ⟨(some 4), .move (.t 22), none⟩,
    ⟨(some 5), .move (.c (.str (bs []))), none⟩,
    ⟨(some 6), .move (.c (.bool false)), none⟩])
  .ret)))⟩

structure F_stringslite_Cut (P : Program) where
  id : FuncId
  stringslite_Index : F_stringslite_Index P
  has : Has P id [] (c_stringslite_Cut stringslite_Index.id)

def c_strings_Cut (f_stringslite_Cut : FuncId) : AFunc := ⟨13, [.tmp 4, .tmp 5, .tmp 6],
  (.seq
  (.region [
    ⟨(some 4), .move (.c (.str (bs []))), none⟩,
    ⟨(some 5), .move (.c (.str (bs []))), none⟩,
    ⟨(some 6), .move (.c (.bool false)), none⟩])
  (.seq
  (.region [
    ⟨(some 7), .move (.t 0), none⟩,
    ⟨(some 8), .move (.t 1), none⟩,
    ⟨(some 9), .call f_stringslite_Cut [(.t 7), (.t 8)], none⟩,
    ⟨(some 10), .extract (.t 9) 0, none⟩,
    ⟨(some 11), .extract (.t 9) 1, none⟩,
    ⟨(some 12), .extract (.t 9) 2, none⟩,
    ⟨(some 4), .move (.t 10), none⟩,
    ⟨(some 5), .move (.t 11), none⟩,
    ⟨(some 6), .move (.t 12), none⟩])
  .ret))⟩

structure F_strings_Cut (P : Program) where
  id : FuncId
  stringslite_Cut : F_stringslite_Cut P
  has : Has P id [] (c_strings_Cut stringslite_Cut.id)

def c_schema_IsQualified (f_strings_Cut : FuncId) (f_schema_IsName : FuncId) : AFunc := ⟨22, [.tmp 2],
  (.seq
  (.region [
    ⟨(some 2), .move (.c (.bool false)), none⟩])
  (.seq
  (.region [
    ⟨(some 7), .move (.t 0), none⟩,
    ⟨(some 8), .call f_strings_Cut [(.t 7), (.c (.str (bs [46])))], none⟩,
    ⟨(some 6), .move (.t 8), none⟩,
    ⟨(some 9), .extract (.t 6) 0, none⟩,
    ⟨(some 10), .extract (.t 6) 1, none⟩,
    ⟨(some 11), .extract (.t 6) 2, none⟩,
    ⟨(some 3), .move (.t 9), none⟩,
    ⟨(some 4), .move (.t 10), none⟩,
    ⟨(some 5), .move (.t 11), none⟩])
  (.seq
  (.region [
    ⟨(some 12), .move (.t 3), none⟩,
    ⟨(some 13), .call f_schema_IsName [(.t 12)], none⟩,
    ⟨(some 14), .move (.t 13), none⟩,
    ⟨(some 15), .move (.t 5), some (some 14, true)⟩,
    ⟨(some 16), .un .not (.t 15), some (some 14, true)⟩,
    ⟨(some 17), .move (.t 16), some (some 14, true)⟩,
    ⟨(some 18), .move (.t 4), some (some 17, false)⟩,
    ⟨(some 19), .call f_schema_IsName [(.t 18)], some (some 17, false)⟩,
    ⟨(some 20), .pick (.t 17) (.c (.bool true)) (.t 19), some (some 14, true)⟩,
    ⟨(some 21), .pick (.t 14) (.t 20) (.c (.bool false)), none⟩,
    ⟨(some 2), .move (.t 21), none⟩])
  .ret)))⟩

structure F_schema_IsQualified (P : Program) where
  id : FuncId
  strings_Cut : F_strings_Cut P
  schema_IsName : F_schema_IsName P
  has : Has P id [] (c_schema_IsQualified strings_Cut.id schema_IsName.id)

def c_warehouseref5_IsName : AFunc := ⟨58, [.tmp 2],
  (.seq
  (.region [
    ⟨(some 2), .move (.c (.bool false)), none⟩])
  (.seq
  (.seq
  (.region [
    ⟨(some 4), .move (.t 0), none⟩,
    ⟨(some 5), .lenS (.t 4), none⟩,
    ⟨(some 6), .bin .lss (.t 5) (.c (.int .i64 1)), none⟩,
    ⟨(some 7), .move (.t 6), none⟩,
    ⟨(some 8), .move (.t 0), some (some 7, false)⟩,
    ⟨(some 9), .lenS (.t 8), some (some 7, false)⟩,
    ⟨(some 10), .bin .gtr (.t 9) (.c (.int .i64 24)), some (some 7, false)⟩,
    ⟨(some 11), .pick (.t 7) (.c (.bool true)) (.t 10), none⟩,
    ⟨(some 12), .move (.t 11), none⟩,
    ⟨(some 13), .move (.t 0), some (some 12, false)⟩,
    ⟨(some 14), .indexStr (.t 13) (.c (.int .i64 0)), some (some 12, false)⟩,
    ⟨(some 15), .bin .lss (.t 14) (.c (.int .u8 97)), some (some 12, false)⟩,
    ⟨(some 16), .pick (.t 12) (.c (.bool true)) (.t 15), none⟩,
    ⟨(some 17), .move (.t 16), none⟩,
    ⟨(some 18), .move (.t 0), some (some 17, false)⟩,
    ⟨(some 19), .indexStr (.t 18) (.c (.int .i64 0)), some (some 17, false)⟩,
    ⟨(some 20), .bin .gtr (.t 19) (.c (.int .u8 122)), some (some 17, false)⟩,
    ⟨(some 21), .pick (.t 17) (.c (.bool true)) (.t 20), none⟩])
  (.cond (.t 21)
    (.seq
    (.region [
      ⟨(some 2), .move (.c (.bool false)), none⟩])
    .ret)
    .skip))
  (.seq
  (.seq
  (.region [
    ⟨(some 3), .move (.c (.int .i64 0)), none⟩])
  (.block 0
    (.loop
      (.seq
      (.seq
      (.region [
        ⟨(some 22), .move (.t 3), none⟩,
        ⟨(some 23), .move (.t 0), none⟩,
        ⟨(some 24), .lenS (.t 23), none⟩,
        ⟨(some 25), .bin .lss (.t 22) (.t 24), none⟩])
      (.cond (.t 25)
        .skip
        (.exit 0)))
      (.seq
      (.block 1
        (.seq
        (.region [
          ⟨(some 28), .move (.t 0), none⟩,
          ⟨(some 29), .move (.t 3), none⟩,
          ⟨(some 30), .indexStr (.t 28) (.t 29), none⟩,
          ⟨(some 31), .bin .geq (.t 30) (.c (.int .u8 97)), none⟩,
          ⟨(some 32), .move (.t 31), none⟩,
          ⟨(some 33), .move (.t 0), some (some 32, true)⟩,
          ⟨(some 34), .move (.t 3), some (some 32, true)⟩,
          ⟨(some 35), .indexStr (.t 33) (.t 34), some (some 32, true)⟩,
          ⟨(some 36), .bin .leq (.t 35) (.c (.int .u8 122)), some (some 32, true)⟩,
          ⟨(some 37), .pick (.t 32) (.t 36) (.c (.bool false)), none⟩,
          ⟨(some 38), .un .not (.t 37), none⟩,
          ⟨(some 39), .move (.t 38), none⟩,
          ⟨(some 40), .move (.t 0), some (some 39, true)⟩,
          ⟨(some 41), .move (.t 3), some (some 39, true)⟩,
          ⟨(some 42), .indexStr (.t 40) (.t 41), some (some 39, true)⟩,
          ⟨(some 43), .bin .geq (.t 42) (.c (.int .u8 48)), some (some 39, true)⟩,
          ⟨(some 44), .move (.t 43), some (some 39, true)⟩,
          ⟨(some 45), .move (.t 0), some (some 44, true)⟩,
          ⟨(some 46), .move (.t 3), some (some 44, true)⟩,
          ⟨(some 47), .indexStr (.t 45) (.t 46), some (some 44, true)⟩,
          ⟨(some 48), .bin .leq (.t 47) (.c (.int .u8 57)), some (some 44, true)⟩,
          ⟨(some 49), .pick (.t 44) (.t 48) (.c (.bool false)), some (some 39, true)⟩,
          ⟨(some 50), .un .not (.t 49), some (some 39, true)⟩,
          ⟨(some 51), .pick (.t 39) (.t 50) (.c (.bool false)), none⟩,
          ⟨(some 52), .move (.t 51), none⟩,
          ⟨(some 53), .move (.t 0), some (some 52, true)⟩,
          ⟨(some 54), .move (.t 3), some (some 52, true)⟩,
          ⟨(some 55), .indexStr (.t 53) (.t 54), some (some 52, true)⟩,
          ⟨(some 56), .bin .neq (.t 55) (.c (.int .u8 95)), some (some 52, true)⟩,
          ⟨(some 57), .pick (.t 52) (.t 56) (.c (.bool false)), none⟩])
        (.cond (.t 57)
          (.seq
          (.region [
            ⟨(some 2), .move (.c (.bool false)), none⟩])
          .ret)
          .skip)))
      (.region [
        ⟨(some 26), .move (.t 3), none⟩,
        ⟨(some 27), .bin .add (.t 26) (.c (.int .i64 1)), none⟩,
        ⟨(some 3), .move (.t 27), none⟩]))))))
  (.seq
  (.region [
    ⟨(some 2), .move (.c (.bool true)), none⟩])
  .ret))))⟩

structure F_warehouseref5_IsName (P : Program) where
  id : FuncId
  has : Has P id [] c_warehouseref5_IsName

def c_warehouseref5_IsQualified (f_warehouseref5_IsName : FuncId) : AFunc := ⟨27, [.tmp 2],
  (.seq
  (.region [
    ⟨(some 2), .move (.c (.bool false)), none⟩])
  (.seq
  (.seq
  (.region [
    ⟨(some 3), .move (.c (.int .i64 0)), none⟩])
  (.block 0
    (.loop
      (.seq
      (.seq
      (.region [
        ⟨(some 4), .move (.t 3), none⟩,
        ⟨(some 5), .move (.t 0), none⟩,
        ⟨(some 6), .lenS (.t 5), none⟩,
        ⟨(some 7), .bin .lss (.t 4) (.t 6), none⟩])
      (.cond (.t 7)
        .skip
        (.exit 0)))
      (.seq
      (.block 1
        (.seq
        (.region [
          ⟨(some 10), .move (.t 0), none⟩,
          ⟨(some 11), .move (.t 3), none⟩,
          ⟨(some 12), .indexStr (.t 10) (.t 11), none⟩,
          ⟨(some 13), .bin .eql (.t 12) (.c (.int .u8 46)), none⟩])
        (.cond (.t 13)
          (.seq
          (.region [
            ⟨(some 14), .move (.t 0), none⟩,
            ⟨(some 15), .move (.t 3), none⟩,
            ⟨(some 16), .sliceStr (.t 14) none (some (.t 15)), none⟩,
            ⟨(some 17), .call f_warehouseref5_IsName [(.t 16)], none⟩,
            ⟨(some 18), .move (.t 17), none⟩,
            ⟨(some 19), .move (.t 0), some (some 18, true)⟩,
            ⟨(some 20), .move (.t 3), some (some 18, true)⟩,
            ⟨(some 21), .bin .add (.t 20) (.c (.int .i64 1)), some (some 18, true)⟩,
            ⟨(some 22), .sliceStr (.t 19) (some (.t 21)) none, some (some 18, true)⟩,
            ⟨(some 23), .call f_warehouseref5_IsName [(.t 22)], some (some 18, true)⟩,
            ⟨(some 24), .pick (.t 18) (.t 23) (.c (.bool false)), none⟩,
            ⟨(some 2), .move (.t 24), none⟩])
          .ret)
          .skip)))
      (.region [
        ⟨(some 8), .move (.t 3), none⟩,
        ⟨(some 9), .bin .add (.t 8) (.c (.int .i64 1)), none⟩,
        ⟨(some 3), .move (.t 9), none⟩]))))))
  (.seq
  (.region [
    ⟨(some 25), .move (.t 0), none⟩,
    ⟨(some 26), .call f_warehouseref5_IsName [(.t 25)], none⟩,
    ⟨(some 2), .move (.t 26), none⟩])
  .ret)))⟩

structure F_warehouseref5_IsQualified (P : Program) where
  id : FuncId
  warehouseref5_IsName : F_warehouseref5_IsName P
  has : Has P id [] (c_warehouseref5_IsQualified warehouseref5_IsName.id)

end Go.AW

namespace Go.AW
def c_batch_Validate (f_schema_IsName : FuncId) (f_schema_IsQualified : FuncId) (f_value_Encode : FuncId) : AFunc := ⟨46, [.tmp 2],
  (.seq
  (.region [
    ⟨(some 1), .box (.t 0), none⟩,
    ⟨(some 2), .move (.c (.int .i64 0)), none⟩])
  (.seq
  (.seq
  (.region [
    ⟨(some 7), .fieldAddr 0 (.t 1), none⟩,
    ⟨(some 8), .load false 1 (.t 7), none⟩,
    ⟨(some 9), .call f_schema_IsName [(.t 8)], none⟩,
    ⟨(some 10), .un .not (.t 9), none⟩,
    ⟨(some 11), .move (.t 10), none⟩,
    ⟨(some 12), .fieldAddr 1 (.t 1), some (some 11, false)⟩,
    ⟨(some 13), .load false 1 (.t 12), some (some 11, false)⟩,
    ⟨(some 14), .call f_schema_IsQualified [(.t 13)], some (some 11, false)⟩,
    ⟨(some 15), .un .not (.t 14), some (some 11, false)⟩,
    ⟨(some 16), .pick (.t 11) (.c (.bool true)) (.t 15), none⟩])
  (.cond (.t 16)
    (.seq
    (.region [
      ⟨(some 2), .move (.c (.int .i64 4)), none⟩])
    .ret)
    .skip))
  (.seq
  (.seq
  (.region [
    ⟨(some 17), .fieldAddr 2 (.t 1), none⟩,
    ⟨(some 18), .load false 1 (.t 17), none⟩,
    ⟨(some 19), .len (.t 18), none⟩,
    ⟨(some 20), .bin .gtr (.t 19) (.c (.int .i64 1024)), none⟩])
  (.cond (.t 20)
    (.seq
    (.region [
      ⟨(some 2), .move (.c (.int .i64 2)), none⟩])
    .ret)
    .skip))
  (.seq
  (.seq
  (.region [
    ⟨(some 21), .fieldAddr 2 (.t 1), none⟩,
    ⟨(some 22), .load false 1 (.t 21), none⟩,
    ⟨(some 23), .len (.t 22), none⟩,
    ⟨(some 24), .move (.c (.int .i64 0)), none⟩])
  (.block 0
    (.loop
      (.seq
      (.region [
        ⟨(some 25), .bin .lss (.t 24) (.t 23), none⟩])
      (.seq
      (.cond (.t 25)
        .skip
        (.exit 0))
      (.seq
      (.block 1
        (.seq
        (.region [
          ⟨(some 26), .indexAddr 3 (.t 22) (.t 24), none⟩,
          ⟨(some 27), .load true 3 (.t 26), none⟩,
          ⟨(some 4), .alloc [(.bool false), (.int .i64 0), .nil], none⟩,
          ⟨none, .store 3 (.t 4) (.t 27), none⟩])
        (.seq
        (.seq
        (.region [
          ⟨(some 28), .fieldAddr 1 (.t 4), none⟩,
          ⟨(some 29), .load false 1 (.t 28), none⟩,
          ⟨(some 30), .bin .lss (.t 29) (.c (.int .i64 0)), none⟩,
          ⟨(some 31), .move (.t 30), none⟩,
          ⟨(some 32), .fieldAddr 1 (.t 4), some (some 31, false)⟩,
          ⟨(some 33), .load false 1 (.t 32), some (some 31, false)⟩,
          ⟨(some 34), .bin .gtr (.t 33) (.c (.int .i64 1073741824)), some (some 31, false)⟩,
          ⟨(some 35), .pick (.t 31) (.c (.bool true)) (.t 34), none⟩])
        (.cond (.t 35)
          (.seq
          (.region [
            ⟨(some 2), .move (.c (.int .i64 1)), none⟩])
          .ret)
          .skip))
        (.seq
        (.region [
          ⟨(some 37), .fieldAddr 2 (.t 4), none⟩,
          ⟨(some 38), .load false 1 (.t 37), none⟩,
          ⟨(some 39), .call f_value_Encode [(.t 38)], none⟩,
          ⟨(some 36), .move (.t 39), none⟩,
          ⟨(some 40), .extract (.t 36) 0, none⟩,
          ⟨(some 41), .extract (.t 36) 1, none⟩,
          ⟨(some 5), .move (.t 40), none⟩,
          ⟨(some 6), .move (.t 41), none⟩])
        (.seq
        (.region [
          ⟨(some 42), .move (.t 6), none⟩,
          ⟨(some 43), .bin .neq (.t 42) (.c (.int .i64 0)), none⟩])
        (.cond (.t 43)
          (.seq
          (.region [
            ⟨(some 44), .move (.t 6), none⟩,
            ⟨(some 2), .move (.t 44), none⟩])
          .ret)
          .skip))))))
      (.region [
        ⟨(some 45), .bin .add (.t 24) (.c (.int .i64 1)), none⟩,
        ⟨(some 24), .move (.t 45), none⟩])))))))
  (.seq
  (.region [
    ⟨(some 2), .move (.c (.int .i64 0)), none⟩])
  .ret)))))⟩

structure F_batch_Validate (P : Program) where
  id : FuncId
  schema_IsName : F_schema_IsName P
  schema_IsQualified : F_schema_IsQualified P
  value_Encode : F_value_Encode P
  has : Has P id [] (c_batch_Validate schema_IsName.id schema_IsQualified.id value_Encode.id)

def c_batch_putText : AFunc := ⟨13, [.tmp 4],
  (.seq
  (.region [
    ⟨(some 4), .move (.c .nil), none⟩])
  (.seq
  (.region [
    ⟨(some 5), .move (.t 0), none⟩,
    ⟨(some 6), .move (.t 1), none⟩,
    ⟨(some 7), .lenS (.t 6), none⟩,
    ⟨(some 8), .conv .u8 (.t 7), none⟩,
    ⟨(some 9), .buildSlice 1 1 [(.int .u8 0)] [(0, (.t 8))], none⟩,
    ⟨(some 10), .append 1 1 [(.int .u8 0)] (.t 5) (.t 9), none⟩,
    ⟨(some 11), .move (.t 1), none⟩,
    ⟨(some 12), .append 1 1 [(.int .u8 0)] (.t 10) (.t 11), none⟩,
    ⟨(some 4), .move (.t 12), none⟩])
  .ret))⟩

structure F_batch_putText (P : Program) where
  id : FuncId
  has : Has P id [] c_batch_putText

def c_batch_put2 : AFunc := ⟨13, [.tmp 4],
  (.seq
  (.region [
    ⟨(some 4), .move (.c .nil), none⟩])
  (.seq
  (.region [
    ⟨(some 5), .move (.t 0), none⟩,
    ⟨(some 6), .move (.t 1), none⟩,
    ⟨(some 7), .bin .shr (.t 6) (.c (.int .u64 8)), none⟩,
    ⟨(some 8), .conv .u8 (.t 7), none⟩,
    ⟨(some 9), .move (.t 1), none⟩,
    ⟨(some 10), .conv .u8 (.t 9), none⟩,
    ⟨(some 11), .buildSlice 1 2 [(.int .u8 0)] [(0, (.t 8)), (1, (.t 10))], none⟩,
    ⟨(some 12), .append 1 1 [(.int .u8 0)] (.t 5) (.t 11), none⟩,
    ⟨(some 4), .move (.t 12), none⟩])
  .ret))⟩

structure F_batch_put2 (P : Program) where
  id : FuncId
  has : Has P id [] c_batch_put2

def c_batch_put4 (f_batch_put2 : FuncId) : AFunc := ⟨17, [.tmp 4],
  (.seq
  (.region [
    ⟨(some 4), .move (.c .nil), none⟩])
  (.seq
  (.region [
    ⟨(some 5), .move (.t 0), none⟩,
    ⟨(some 6), .move (.t 1), none⟩,
    ⟨(some 7), .bin .shr (.t 6) (.c (.int .u64 16)), none⟩,
    ⟨(some 8), .conv .i64 (.t 7), none⟩,
    ⟨(some 9), .call f_batch_put2 [(.t 5), (.t 8)], none⟩,
    ⟨(some 10), .move (.t 1), none⟩,
    ⟨(some 11), .bin .shr (.t 10) (.c (.int .u64 8)), none⟩,
    ⟨(some 12), .conv .u8 (.t 11), none⟩,
    ⟨(some 13), .move (.t 1), none⟩,
    ⟨(some 14), .conv .u8 (.t 13), none⟩,
    ⟨(some 15), .buildSlice 1 2 [(.int .u8 0)] [(0, (.t 12)), (1, (.t 14))], none⟩,
    ⟨(some 16), .append 1 1 [(.int .u8 0)] (.t 9) (.t 15), none⟩,
    ⟨(some 4), .move (.t 16), none⟩])
  .ret))⟩

structure F_batch_put4 (P : Program) where
  id : FuncId
  batch_put2 : F_batch_put2 P
  has : Has P id [] (c_batch_put4 batch_put2.id)

def c_batch_putRecord (f_value_Encode : FuncId) (f_batch_put4 : FuncId) (f_batch_put2 : FuncId) : AFunc := ⟨30, [.tmp 4],
  (.seq
  (.region [
    ⟨(some 3), .box (.t 1), none⟩,
    ⟨(some 4), .move (.c .nil), none⟩])
  (.seq
  (.region [
    ⟨(some 9), .fieldAddr 2 (.t 3), none⟩,
    ⟨(some 10), .load false 1 (.t 9), none⟩,
    ⟨(some 11), .call f_value_Encode [(.t 10)], none⟩,
    ⟨(some 8), .move (.t 11), none⟩,
    ⟨(some 12), .extract (.t 8) 0, none⟩,
    ⟨(some 13), .extract (.t 8) 1, none⟩,
    ⟨(some 5), .move (.t 12), none⟩,
    ⟨(some 6), .move (.t 13), none⟩])
  (.seq
  (.region [
    ⟨(some 7), .move (.c (.int .u8 0)), none⟩])
  (.seq
  (.seq
  (.region [
    ⟨(some 14), .fieldAddr 0 (.t 3), none⟩,
    ⟨(some 15), .load false 1 (.t 14), none⟩])
  (.cond (.t 15)
    (.region [
      ⟨(some 7), .move (.c (.int .u8 1)), none⟩])
    .skip))
  (.seq
  (.draw [
    (⟨(some 16), .move (.t 0), none⟩, []),
    (⟨(some 17), .move (.t 7), none⟩, []),
    (⟨(some 18), .buildSlice 1 1 [(.int .u8 0)] [(0, (.t 17))], none⟩, []),
    (⟨(some 19), .append 1 1 [(.int .u8 0)] (.t 16) (.t 18), none⟩, []),
    (⟨(some 20), .fieldAddr 1 (.t 3), none⟩, []),
    (⟨(some 21), .load false 1 (.t 20), none⟩, [9]),
    (⟨(some 22), .conv .u32 (.t 21), none⟩, []),
    (⟨(some 23), .callE f_batch_put4 [(.t 19), (.t 22)], none⟩, []),
    (⟨(some 0), .move (.t 23), none⟩, [])])
  (.seq
  (.region [
    ⟨(some 24), .move (.t 0), none⟩,
    ⟨(some 25), .move (.t 5), none⟩,
    ⟨(some 26), .len (.t 25), none⟩,
    ⟨(some 27), .call f_batch_put2 [(.t 24), (.t 26)], none⟩,
    ⟨(some 28), .move (.t 5), none⟩,
    ⟨(some 29), .append 1 1 [(.int .u8 0)] (.t 27) (.t 28), none⟩,
    ⟨(some 4), .move (.t 29), none⟩])
  .ret))))))⟩

structure F_batch_putRecord (P : Program) where
  id : FuncId
  value_Encode : F_value_Encode P
  batch_put4 : F_batch_put4 P
  batch_put2 : F_batch_put2 P
  has : Has P id [23] (c_batch_putRecord value_Encode.id batch_put4.id batch_put2.id)

def c_batch_Checksum : AFunc := ⟨19, [.tmp 2],
  (.seq
  (.region [
    ⟨(some 2), .move (.c (.int .u32 0)), none⟩])
  (.seq
  (.region [
    ⟨(some 3), .move (.c (.int .u32 2166136261)), none⟩])
  (.seq
  (.seq
  (.region [
    ⟨(some 6), .move (.t 0), none⟩,
    ⟨(some 7), .len (.t 6), none⟩,
    ⟨(some 8), .move (.c (.int .i64 0)), none⟩])
  (.block 0
    (.loop
      (.seq
      (.region [
        ⟨(some 9), .bin .lss (.t 8) (.t 7), none⟩])
      (.seq
      (.cond (.t 9)
        .skip
        (.exit 0))
      (.seq
      (.block 1
        (.seq
        (.region [
          ⟨(some 10), .indexAddr 1 (.t 6) (.t 8), none⟩,
          ⟨(some 11), .load false 1 (.t 10), none⟩,
          ⟨(some 5), .move (.t 11), none⟩])
        (.region [
          ⟨(some 12), .move (.t 3), none⟩,
          ⟨(some 13), .move (.t 5), none⟩,
          ⟨(some 14), .conv .u32 (.t 13), none⟩,
          ⟨(some 15), .bin .xor (.t 12) (.t 14), none⟩,
          ⟨(some 16), .bin .mul (.t 15) (.c (.int .u32 16777619)), none⟩,
          ⟨(some 3), .move (.t 16), none⟩])))
      (.region [
        ⟨(some 17), .bin .add (.t 8) (.c (.int .i64 1)), none⟩,
        ⟨(some 8), .move (.t 17), none⟩])))))))
  (.seq
  (.region [
    ⟨(some 18), .move (.t 3), none⟩,
    ⟨(some 2), .move (.t 18), none⟩])
  .ret))))⟩

structure F_batch_Checksum (P : Program) where
  id : FuncId
  has : Has P id [] c_batch_Checksum

def c_batch_Encode (f_batch_Validate : FuncId) (f_batch_putText : FuncId) (f_batch_put2 : FuncId) (f_batch_putRecord : FuncId) (f_batch_Checksum : FuncId) (f_batch_put4 : FuncId) : AFunc := ⟨45, [.tmp 2, .tmp 3],
  (.seq
  (.region [
    ⟨(some 1), .box (.t 0), none⟩,
    ⟨(some 2), .move (.c .nil), none⟩,
    ⟨(some 3), .move (.c (.int .i64 0)), none⟩])
  (.seq
  (.seq
  (.region [
    ⟨(some 8), .load true 3 (.t 1), none⟩,
    ⟨(some 9), .call f_batch_Validate [(.t 8)], none⟩,
    ⟨(some 4), .move (.t 9), none⟩])
  (.seq
  (.region [
    ⟨(some 10), .move (.t 4), none⟩,
    ⟨(some 11), .bin .neq (.t 10) (.c (.int .i64 0)), none⟩])
  (.cond (.t 11)
    (.seq
    (.region [
      ⟨(some 12), .move (.t 4), none⟩,
      ⟨(some 2), .move (.c .nil), none⟩,
      ⟨(some 3), .move (.t 12), none⟩])
    .ret)
    .skip)))
  (.seq
  (.draw [
    (⟨(some 13), .buildSliceO 1 4 [(.int .u8 0)] [(0, (.c (.int .u8 87))), (1, (.c (.int .u8 72))), (2, (.c (.int .u8 70))), (3, (.c (.int .u8 49)))], none⟩, []),
    (⟨(some 14), .mark (.t 13), none⟩, []),
    (⟨(some 15), .fieldAddr 0 (.t 1), none⟩, []),
    (⟨(some 16), .load false 1 (.t 15), none⟩, [9, 8]),
    (⟨(some 17), .callE f_batch_putText [(.t 14), (.t 16)], none⟩, []),
    (⟨(some 18), .fieldAddr 1 (.t 1), none⟩, []),
    (⟨(some 19), .load false 1 (.t 18), none⟩, [9, 8, 7]),
    (⟨(some 20), .callE f_batch_putText [(.t 17), (.t 19)], none⟩, []),
    (⟨(some 5), .move (.t 20), none⟩, [])])
  (.seq
  (.region [
    ⟨(some 21), .move (.t 5), none⟩,
    ⟨(some 22), .fieldAddr 2 (.t 1), none⟩,
    ⟨(some 23), .load false 1 (.t 22), none⟩,
    ⟨(some 24), .len (.t 23), none⟩,
    ⟨(some 25), .call f_batch_put2 [(.t 21), (.t 24)], none⟩,
    ⟨(some 5), .move (.t 25), none⟩])
  (.seq
  (.seq
  (.region [
    ⟨(some 26), .fieldAddr 2 (.t 1), none⟩,
    ⟨(some 27), .load false 1 (.t 26), none⟩,
    ⟨(some 28), .len (.t 27), none⟩,
    ⟨(some 29), .move (.c (.int .i64 0)), none⟩])
  (.block 0
    (.loop
      (.seq
      (.region [
        ⟨(some 30), .bin .lss (.t 29) (.t 28), none⟩])
      (.seq
      (.cond (.t 30)
        .skip
        (.exit 0))
      (.seq
      (.block 1
        (.seq
        (.region [
          ⟨(some 31), .indexAddr 3 (.t 27) (.t 29), none⟩,
          ⟨(some 32), .load true 3 (.t 31), none⟩,
          ⟨(some 7), .alloc [(.bool false), (.int .i64 0), .nil], none⟩,
          ⟨none, .store 3 (.t 7) (.t 32), none⟩])
        (.region [
          ⟨(some 33), .move (.t 5), none⟩,
          ⟨(some 34), .load true 3 (.t 7), none⟩,
          ⟨(some 35), .call f_batch_putRecord [(.t 33), (.t 34)], none⟩,
          ⟨(some 5), .move (.t 35), none⟩])))
      (.region [
        ⟨(some 36), .bin .add (.t 29) (.c (.int .i64 1)), none⟩,
        ⟨(some 29), .move (.t 36), none⟩])))))))
  (.seq
  (.region [
    ⟨(some 37), .move (.t 5), none⟩,
    ⟨(some 38), .move (.t 5), none⟩,
    ⟨(some 39), .call f_batch_Checksum [(.t 38)], none⟩,
    ⟨(some 40), .call f_batch_put4 [(.t 37), (.t 39)], none⟩,
    ⟨(some 5), .move (.t 40), none⟩])
  (.seq
  (.seq
  (.region [
    ⟨(some 41), .move (.t 5), none⟩,
    ⟨(some 42), .len (.t 41), none⟩,
    ⟨(some 43), .bin .gtr (.t 42) (.c (.int .i64 65536)), none⟩])
  (.cond (.t 43)
    (.seq
    (.region [
      ⟨(some 2), .move (.c .nil), none⟩,
      ⟨(some 3), .move (.c (.int .i64 2)), none⟩])
    .ret)
    .skip))
  (.seq
  (.region [
    ⟨(some 44), .move (.t 5), none⟩,
    ⟨(some 2), .move (.t 44), none⟩,
    ⟨(some 3), .move (.c (.int .i64 0)), none⟩])
  .ret))))))))⟩

structure F_batch_Encode (P : Program) where
  id : FuncId
  batch_Validate : F_batch_Validate P
  batch_putText : F_batch_putText P
  batch_put2 : F_batch_put2 P
  batch_putRecord : F_batch_putRecord P
  batch_Checksum : F_batch_Checksum P
  batch_put4 : F_batch_put4 P
  has : Has P id [13, 17, 20] (c_batch_Encode batch_Validate.id batch_putText.id batch_put2.id batch_putRecord.id batch_Checksum.id batch_put4.id)

def c_bytes_Equal : AFunc := ⟨10, [.tmp 4],
  (.seq
  (.region [
    ⟨(some 4), .move (.c (.bool false)), none⟩])
  (.seq
  (.region [
    ⟨(some 5), .move (.t 0), none⟩,
    ⟨(some 6), .convBS (.t 5), none⟩,
    ⟨(some 7), .move (.t 1), none⟩,
    ⟨(some 8), .convBS (.t 7), none⟩,
    ⟨(some 9), .bin .eql (.t 6) (.t 8), none⟩,
    ⟨(some 4), .move (.t 9), none⟩])
  .ret))⟩

structure F_bytes_Equal (P : Program) where
  id : FuncId
  has : Has P id [] c_bytes_Equal

def c_batch_reader_take : AFunc := ⟨38, [.tmp 4],
  (.seq
  (.region [
    ⟨(some 4), .move (.c .nil), none⟩])
  (.seq
  (.seq
  (.region [
    ⟨(some 6), .move (.t 0), none⟩,
    ⟨(some 7), .nop (.t 6), none⟩,
    ⟨(some 8), .fieldAddr 1 (.t 7), none⟩,
    ⟨(some 9), .load false 1 (.t 8), none⟩,
    ⟨(some 10), .move (.t 9), none⟩,
    ⟨(some 11), .move (.t 1), some (some 10, false)⟩,
    ⟨(some 12), .move (.t 0), some (some 10, false)⟩,
    ⟨(some 13), .nop (.t 12), some (some 10, false)⟩,
    ⟨(some 14), .fieldAddr 0 (.t 13), some (some 10, false)⟩,
    ⟨(some 15), .load false 1 (.t 14), some (some 10, false)⟩,
    ⟨(some 16), .len (.t 15), some (some 10, false)⟩,
    ⟨(some 17), .bin .gtr (.t 11) (.t 16), some (some 10, false)⟩,
    ⟨(some 18), .pick (.t 10) (.c (.bool true)) (.t 17), none⟩])
  (.cond (.t 18)
    (.seq
    (.region [
      ⟨(some 19), .move (.t 0), none⟩,
      ⟨(some 20), .nop (.t 19), none⟩,
      ⟨(some 21), .fieldAddr 1 (.t 20), none⟩,
      ⟨none, .store 1 (.t 21) (.c (.bool true)), none⟩])
    (.seq
    (.region [
      ⟨(some 4), .move (.c .nil), none⟩])
    .ret))
    .skip))
  (.seq
  (.region [
    ⟨(some 22), .move (.t 0), none⟩,
    ⟨(some 23), .nop (.t 22), none⟩,
    ⟨(some 24), .fieldAddr 0 (.t 23), none⟩,
    ⟨(some 25), .load false 1 (.t 24), none⟩,
    ⟨(some 26), .move (.t 1), none⟩,
    ⟨(some 27), .slice 1 (.t 25) none (some (.t 26)), none⟩,
    ⟨(some 5), .move (.t 27), none⟩])
  (.seq
  (.region [
    ⟨(some 28), .move (.t 0), none⟩,
    ⟨(some 29), .move (.t 0), none⟩,
    ⟨(some 30), .nop (.t 29), none⟩,
    ⟨(some 31), .fieldAddr 0 (.t 30), none⟩,
    ⟨(some 32), .load false 1 (.t 31), none⟩,
    ⟨(some 33), .move (.t 1), none⟩,
    ⟨(some 34), .slice 1 (.t 32) (some (.t 33)) none, none⟩,
    ⟨(some 35), .nop (.t 28), none⟩,
    ⟨(some 36), .fieldAddr 0 (.t 35), none⟩,
    ⟨none, .store 1 (.t 36) (.t 34), none⟩])
  (.seq
  (.region [
    ⟨(some 37), .move (.t 5), none⟩,
    ⟨(some 4), .move (.t 37), none⟩])
  .ret)))))⟩

structure F_batch_reader_take (P : Program) where
  id : FuncId
  has : Has P id [] c_batch_reader_take

def c_batch_reader_number (f_batch_reader_take : FuncId) : AFunc := ⟨23, [.tmp 4],
  (.seq
  (.region [
    ⟨(some 4), .move (.c (.int .i64 0)), none⟩])
  (.seq
  (.region [
    ⟨(some 5), .move (.c (.int .i64 0)), none⟩])
  (.seq
  (.seq
  (.region [
    ⟨(some 8), .move (.t 0), none⟩,
    ⟨(some 9), .move (.t 1), none⟩,
    ⟨(some 10), .call f_batch_reader_take [(.t 8), (.t 9)], none⟩,
    ⟨(some 11), .len (.t 10), none⟩,
    ⟨(some 12), .move (.c (.int .i64 0)), none⟩])
  (.block 0
    (.loop
      (.seq
      (.region [
        ⟨(some 13), .bin .lss (.t 12) (.t 11), none⟩])
      (.seq
      (.cond (.t 13)
        .skip
        (.exit 0))
      (.seq
      (.block 1
        (.seq
        (.region [
          ⟨(some 14), .indexAddr 1 (.t 10) (.t 12), none⟩,
          ⟨(some 15), .load false 1 (.t 14), none⟩,
          ⟨(some 7), .move (.t 15), none⟩])
        (.region [
          ⟨(some 16), .move (.t 5), none⟩,
          ⟨(some 17), .bin .shl (.t 16) (.c (.int .u64 8)), none⟩,
          ⟨(some 18), .move (.t 7), none⟩,
          ⟨(some 19), .conv .i64 (.t 18), none⟩,
          ⟨(some 20), .bin .or (.t 17) (.t 19), none⟩,
          ⟨(some 5), .move (.t 20), none⟩])))
      (.region [
        ⟨(some 21), .bin .add (.t 12) (.c (.int .i64 1)), none⟩,
        ⟨(some 12), .move (.t 21), none⟩])))))))
  (.seq
  (.region [
    ⟨(some 22), .move (.t 5), none⟩,
    ⟨(some 4), .move (.t 22), none⟩])
  .ret))))⟩

structure F_batch_reader_number (P : Program) where
  id : FuncId
  batch_reader_take : F_batch_reader_take P
  has : Has P id [] (c_batch_reader_number batch_reader_take.id)

def c_batch_reader_text (f_batch_reader_number : FuncId) (f_batch_reader_take : FuncId) : AFunc := ⟨8, [.tmp 2],
  (.seq
  (.region [
    ⟨(some 2), .move (.c (.str (bs []))), none⟩])
  (.seq
  (.region [
    ⟨(some 3), .move (.t 0), none⟩,
    ⟨(some 4), .move (.t 0), none⟩,
    ⟨(some 5), .call f_batch_reader_number [(.t 4), (.c (.int .i64 1))], none⟩,
    ⟨(some 6), .call f_batch_reader_take [(.t 3), (.t 5)], none⟩,
    ⟨(some 7), .convBS (.t 6), none⟩,
    ⟨(some 2), .move (.t 7), none⟩])
  .ret))⟩

structure F_batch_reader_text (P : Program) where
  id : FuncId
  batch_reader_number : F_batch_reader_number P
  batch_reader_take : F_batch_reader_take P
  has : Has P id [] (c_batch_reader_text batch_reader_number.id batch_reader_take.id)

def c_batch_reader_record (f_batch_reader_number : FuncId) (f_batch_reader_take : FuncId) (f_value_Decode : FuncId) : AFunc := ⟨29, [.cell true 3 2],
  (.seq
  (.region [
    ⟨(some 2), .alloc [(.bool false), (.int .i64 0), .nil], none⟩])
  (.seq
  (.region [
    ⟨(some 6), .move (.t 0), none⟩,
    ⟨(some 7), .call f_batch_reader_number [(.t 6), (.c (.int .i64 1))], none⟩,
    ⟨(some 8), .bin .neq (.t 7) (.c (.int .i64 0)), none⟩,
    ⟨(some 9), .build [(.bool false), (.int .i64 0), .nil] [(0, 1, (.t 8))], none⟩,
    ⟨(some 3), .alloc [(.bool false), (.int .i64 0), .nil], none⟩,
    ⟨none, .store 3 (.t 3) (.t 9), none⟩])
  (.seq
  (.region [
    ⟨(some 10), .move (.t 0), none⟩,
    ⟨(some 11), .call f_batch_reader_number [(.t 10), (.c (.int .i64 4))], none⟩,
    ⟨(some 12), .fieldAddr 1 (.t 3), none⟩,
    ⟨none, .store 1 (.t 12) (.t 11), none⟩])
  (.seq
  (.region [
    ⟨(some 14), .move (.t 0), none⟩,
    ⟨(some 15), .move (.t 0), none⟩,
    ⟨(some 16), .call f_batch_reader_number [(.t 15), (.c (.int .i64 2))], none⟩,
    ⟨(some 17), .call f_batch_reader_take [(.t 14), (.t 16)], none⟩,
    ⟨(some 18), .call f_value_Decode [(.t 17)], none⟩,
    ⟨(some 13), .move (.t 18), none⟩,
    ⟨(some 19), .extract (.t 13) 0, none⟩,
    ⟨(some 20), .extract (.t 13) 1, none⟩,
    ⟨(some 4), .move (.t 19), none⟩,
    ⟨(some 5), .move (.t 20), none⟩])
  (.seq
  (.seq
  (.region [
    ⟨(some 21), .move (.t 5), none⟩,
    ⟨(some 22), .bin .neq (.t 21) (.c (.int .i64 0)), none⟩])
  (.cond (.t 22)
    (.region [
      ⟨(some 23), .move (.t 0), none⟩,
      ⟨(some 24), .nop (.t 23), none⟩,
      ⟨(some 25), .fieldAddr 1 (.t 24), none⟩,
      ⟨none, .store 1 (.t 25) (.c (.bool true)), none⟩])
    .skip))
  (.seq
  (.region [
    ⟨(some 26), .move (.t 4), none⟩,
    ⟨(some 27), .fieldAddr 2 (.t 3), none⟩,
    ⟨none, .store 1 (.t 27) (.t 26), none⟩])
  (.seq
  (.region [
    ⟨(some 28), .load true 3 (.t 3), none⟩,
    ⟨none, .store 3 (.t 2) (.t 28), none⟩])
  .ret)))))))⟩

structure F_batch_reader_record (P : Program) where
  id : FuncId
  batch_reader_number : F_batch_reader_number P
  batch_reader_take : F_batch_reader_take P
  value_Decode : F_value_Decode P
  has : Has P id [] (c_batch_reader_record batch_reader_number.id batch_reader_take.id value_Decode.id)

def c_batch_reader_file (f_batch_reader_take : FuncId) (f_batch_reader_text : FuncId) (f_batch_reader_number : FuncId) (f_batch_reader_record : FuncId) : AFunc := ⟨39, [.cell true 3 2],
  (.seq
  (.region [
    ⟨(some 2), .alloc [(.str (bs [])), (.str (bs [])), .nil], none⟩])
  (.seq
  (.seq
  (.region [
    ⟨(some 5), .move (.t 0), none⟩,
    ⟨(some 6), .call f_batch_reader_take [(.t 5), (.c (.int .i64 4))], none⟩,
    ⟨(some 7), .convBS (.t 6), none⟩,
    ⟨(some 8), .bin .neq (.t 7) (.c (.str (bs [87, 72, 70, 49]))), none⟩])
  (.cond (.t 8)
    (.region [
      ⟨(some 9), .move (.t 0), none⟩,
      ⟨(some 10), .nop (.t 9), none⟩,
      ⟨(some 11), .fieldAddr 1 (.t 10), none⟩,
      ⟨none, .store 1 (.t 11) (.c (.bool true)), none⟩])
    .skip))
  (.seq
  (.region [
    ⟨(some 12), .move (.t 0), none⟩,
    ⟨(some 13), .call f_batch_reader_text [(.t 12)], none⟩,
    ⟨(some 14), .build [(.str (bs [])), (.str (bs [])), .nil] [(0, 1, (.t 13))], none⟩,
    ⟨(some 3), .alloc [(.str (bs [])), (.str (bs [])), .nil], none⟩,
    ⟨none, .store 3 (.t 3) (.t 14), none⟩])
  (.seq
  (.region [
    ⟨(some 15), .move (.t 0), none⟩,
    ⟨(some 16), .call f_batch_reader_text [(.t 15)], none⟩,
    ⟨(some 17), .fieldAddr 1 (.t 3), none⟩,
    ⟨none, .store 1 (.t 17) (.t 16), none⟩])
  (.seq
  (.seq
  (.region [
    ⟨(some 18), .move (.t 0), none⟩,
    ⟨(some 19), .call f_batch_reader_number [(.t 18), (.c (.int .i64 2))], none⟩,
    ⟨(some 4), .move (.t 19), none⟩])
  (.block 0
    (.loop
      (.seq
      (.seq
      (.region [
        ⟨(some 20), .move (.t 4), none⟩,
        ⟨(some 21), .bin .gtr (.t 20) (.c (.int .i64 0)), none⟩,
        ⟨(some 22), .move (.t 21), none⟩,
        ⟨(some 23), .move (.t 0), some (some 22, true)⟩,
        ⟨(some 24), .nop (.t 23), some (some 22, true)⟩,
        ⟨(some 25), .fieldAddr 1 (.t 24), some (some 22, true)⟩,
        ⟨(some 26), .load false 1 (.t 25), some (some 22, true)⟩,
        ⟨(some 27), .un .not (.t 26), some (some 22, true)⟩,
        ⟨(some 28), .pick (.t 22) (.t 27) (.c (.bool false)), none⟩])
      (.cond (.t 28)
        .skip
        (.exit 0)))
      (.seq
      (.block 1
        (.draw [
          (⟨(some 31), .fieldAddr 2 (.t 3), none⟩, []),
          (⟨(some 32), .load false 1 (.t 31), none⟩, [4]),
          (⟨(some 33), .move (.t 0), none⟩, []),
          (⟨(some 34), .callE f_batch_reader_record [(.t 33)], none⟩, []),
          (⟨(some 35), .buildSlice 3 1 [(.bool false), (.int .i64 0), .nil] [(0, (.t 34))], none⟩, []),
          (⟨(some 36), .append 3 40 [(.bool false), (.int .i64 0), .nil] (.t 32) (.t 35), none⟩, []),
          (⟨(some 37), .fieldAddr 2 (.t 3), none⟩, []),
          (⟨none, .store 1 (.t 37) (.t 36), none⟩, [])]))
      (.region [
        ⟨(some 29), .move (.t 4), none⟩,
        ⟨(some 30), .bin .sub (.t 29) (.c (.int .i64 1)), none⟩,
        ⟨(some 4), .move (.t 30), none⟩]))))))
  (.seq
  (.region [
    ⟨(some 38), .load true 3 (.t 3), none⟩,
    ⟨none, .store 3 (.t 2) (.t 38), none⟩])
  .ret))))))⟩

structure F_batch_reader_file (P : Program) where
  id : FuncId
  batch_reader_take : F_batch_reader_take P
  batch_reader_text : F_batch_reader_text P
  batch_reader_number : F_batch_reader_number P
  batch_reader_record : F_batch_reader_record P
  has : Has P id [34] (c_batch_reader_file batch_reader_take.id batch_reader_text.id batch_reader_number.id batch_reader_record.id)

def c_batch_Decode (f_batch_Checksum : FuncId) (f_batch_put4 : FuncId) (f_bytes_Equal : FuncId) (f_batch_reader_file : FuncId) (f_batch_Encode : FuncId) : AFunc := ⟨69, [.cell true 3 2, .tmp 3],
  (.seq
  (.region [
    ⟨(some 2), .alloc [(.str (bs [])), (.str (bs [])), .nil], none⟩,
    ⟨(some 3), .move (.c (.int .i64 0)), none⟩])
  (.seq
  (.seq
  (.region [
    ⟨(some 8), .move (.t 0), none⟩,
    ⟨(some 9), .len (.t 8), none⟩,
    ⟨(some 10), .bin .gtr (.t 9) (.c (.int .i64 65536)), none⟩])
  (.cond (.t 10)
    (.seq
    (.region [
      ⟨(some 11), .build [(.str (bs [])), (.str (bs [])), .nil] [], none⟩,
      ⟨none, .store 3 (.t 2) (.t 11), none⟩,
      ⟨(some 3), .move (.c (.int .i64 2)), none⟩])
    .ret)
    .skip))
  (.seq
  (.seq
  (.draw [
    (⟨(some 12), .move (.t 0), none⟩, []),
    (⟨(some 13), .len (.t 12), none⟩, []),
    (⟨(some 14), .bin .lss (.t 13) (.c (.int .i64 4)), none⟩, []),
    (⟨(some 15), .move (.t 14), none⟩, []),
    (⟨(some 16), .move (.t 0), some (some 15, false)⟩, []),
    (⟨(some 17), .move (.t 0), some (some 15, false)⟩, []),
    (⟨(some 18), .len (.t 17), some (some 15, false)⟩, []),
    (⟨(some 19), .bin .sub (.t 18) (.c (.int .i64 4)), some (some 15, false)⟩, []),
    (⟨(some 20), .slice 1 (.t 16) (some (.t 19)) none, some (some 15, false)⟩, []),
    (⟨(some 21), .move (.t 0), some (some 15, false)⟩, []),
    (⟨(some 22), .move (.t 0), some (some 15, false)⟩, []),
    (⟨(some 23), .len (.t 22), some (some 15, false)⟩, []),
    (⟨(some 24), .bin .sub (.t 23) (.c (.int .i64 4)), some (some 15, false)⟩, []),
    (⟨(some 25), .slice 1 (.t 21) none (some (.t 24)), some (some 15, false)⟩, []),
    (⟨(some 26), .call f_batch_Checksum [(.t 25)], some (some 15, false)⟩, []),
    (⟨(some 27), .call f_batch_put4 [(.c .nil), (.t 26)], some (some 15, false)⟩, []),
    (⟨(some 28), .call f_bytes_Equal [(.t 20), (.t 27)], some (some 15, false)⟩, []),
    (⟨(some 29), .un .not (.t 28), some (some 15, false)⟩, []),
    (⟨(some 30), .pick (.t 15) (.c (.bool true)) (.t 29), none⟩, [])])
  (.cond (.t 30)
    (.seq
    (.region [
      ⟨(some 31), .build [(.str (bs [])), (.str (bs [])), .nil] [], none⟩,
      ⟨none, .store 3 (.t 2) (.t 31), none⟩,
      ⟨(some 3), .move (.c (.int .i64 12)), none⟩])
    .ret)
    .skip))
  (.seq
  (.region [
    ⟨(some 32), .move (.t 0), none⟩,
    ⟨(some 33), .move (.t 0), none⟩,
    ⟨(some 34), .len (.t 33), none⟩,
    ⟨(some 35), .bin .sub (.t 34) (.c (.int .i64 4)), none⟩,
    ⟨(some 36), .slice 1 (.t 32) none (some (.t 35)), none⟩,
    ⟨(some 37), .build [.nil, (.bool false)] [(0, 1, (.t 36))], none⟩,
    ⟨(some 38), .box (.t 37), none⟩,
    ⟨(some 4), .move (.t 38), none⟩])
  (.seq
  (.region [
    ⟨(some 39), .move (.t 4), none⟩,
    ⟨(some 40), .call f_batch_reader_file [(.t 39)], none⟩,
    ⟨(some 5), .alloc [(.str (bs [])), (.str (bs [])), .nil], none⟩,
    ⟨none, .store 3 (.t 5) (.t 40), none⟩])
  (.seq
  (.seq
  (.region [
    ⟨(some 41), .move (.t 4), none⟩,
    ⟨(some 42), .nop (.t 41), none⟩,
    ⟨(some 43), .fieldAddr 1 (.t 42), none⟩,
    ⟨(some 44), .load false 1 (.t 43), none⟩,
    ⟨(some 45), .move (.t 44), none⟩,
    ⟨(some 46), .move (.t 4), some (some 45, false)⟩,
    ⟨(some 47), .nop (.t 46), some (some 45, false)⟩,
    ⟨(some 48), .fieldAddr 0 (.t 47), some (some 45, false)⟩,
    ⟨(some 49), .load false 1 (.t 48), some (some 45, false)⟩,
    ⟨(some 50), .len (.t 49), some (some 45, false)⟩,
    ⟨(some 51), .bin .gtr (.t 50) (.c (.int .i64 0)), some (some 45, false)⟩,
    ⟨(some 52), .pick (.t 45) (.c (.bool true)) (.t 51), none⟩])
  (.cond (.t 52)
    (.seq
    (.region [
      ⟨(some 53), .build [(.str (bs [])), (.str (bs [])), .nil] [], none⟩,
      ⟨none, .store 3 (.t 2) (.t 53), none⟩,
      ⟨(some 3), .move (.c (.int .i64 11)), none⟩])
    .ret)
    .skip))
  (.seq
  (.seq
  (.region [
    ⟨(some 55), .load true 3 (.t 5), none⟩,
    ⟨(some 56), .call f_batch_Encode [(.t 55)], none⟩,
    ⟨(some 54), .move (.t 56), none⟩,
    ⟨(some 57), .extract (.t 54) 0, none⟩,
    ⟨(some 58), .extract (.t 54) 1, none⟩,
    ⟨(some 6), .move (.t 57), none⟩,
    ⟨(some 7), .move (.t 58), none⟩])
  (.seq
  (.region [
    ⟨(some 59), .move (.t 7), none⟩,
    ⟨(some 60), .bin .neq (.t 59) (.c (.int .i64 0)), none⟩,
    ⟨(some 61), .move (.t 60), none⟩,
    ⟨(some 62), .move (.t 6), some (some 61, false)⟩,
    ⟨(some 63), .move (.t 0), some (some 61, false)⟩,
    ⟨(some 64), .call f_bytes_Equal [(.t 62), (.t 63)], some (some 61, false)⟩,
    ⟨(some 65), .un .not (.t 64), some (some 61, false)⟩,
    ⟨(some 66), .pick (.t 61) (.c (.bool true)) (.t 65), none⟩])
  (.cond (.t 66)
    (.seq
    (.region [
      ⟨(some 67), .build [(.str (bs [])), (.str (bs [])), .nil] [], none⟩,
      ⟨none, .store 3 (.t 2) (.t 67), none⟩,
      ⟨(some 3), .move (.c (.int .i64 11)), none⟩])
    .ret)
    .skip)))
  (.seq
  (.region [
    ⟨(some 68), .load true 3 (.t 5), none⟩,
    ⟨none, .store 3 (.t 2) (.t 68), none⟩,
    ⟨(some 3), .move (.c (.int .i64 0)), none⟩])
  .ret))))))))⟩

structure F_batch_Decode (P : Program) where
  id : FuncId
  batch_Checksum : F_batch_Checksum P
  batch_put4 : F_batch_put4 P
  bytes_Equal : F_bytes_Equal P
  batch_reader_file : F_batch_reader_file P
  batch_Encode : F_batch_Encode P
  has : Has P id [] (c_batch_Decode batch_Checksum.id batch_put4.id bytes_Equal.id batch_reader_file.id batch_Encode.id)

def c_warehouselaw24_known (f_batch_Encode : FuncId) (f_batch_Decode : FuncId) (f_batch_Checksum : FuncId) : AFunc := ⟨52, [.tmp 0],
  (.seq
  (.region [
    ⟨(some 0), .move (.c (.bool false)), none⟩])
  (.seq
  (.region [
    ⟨(some 6), .build [(.str (bs [])), (.str (bs [])), .nil] [(0, 1, (.c (.str (bs [97])))), (1, 1, (.c (.str (bs [115]))))], none⟩,
    ⟨(some 7), .call f_batch_Encode [(.t 6)], none⟩,
    ⟨(some 5), .move (.t 7), none⟩,
    ⟨(some 8), .extract (.t 5) 0, none⟩,
    ⟨(some 9), .extract (.t 5) 1, none⟩,
    ⟨(some 1), .move (.t 8), none⟩,
    ⟨(some 2), .move (.t 9), none⟩])
  (.seq
  (.region [
    ⟨(some 11), .move (.t 1), none⟩,
    ⟨(some 12), .call f_batch_Decode [(.t 11)], none⟩,
    ⟨(some 10), .move (.t 12), none⟩,
    ⟨(some 13), .extract (.t 10) 0, none⟩,
    ⟨(some 14), .extract (.t 10) 1, none⟩,
    ⟨(some 3), .alloc [(.str (bs [])), (.str (bs [])), .nil], none⟩,
    ⟨none, .store 3 (.t 3) (.t 13), none⟩,
    ⟨(some 4), .move (.t 14), none⟩])
  (.seq
  (.region [
    ⟨(some 15), .move (.t 2), none⟩,
    ⟨(some 16), .bin .eql (.t 15) (.c (.int .i64 0)), none⟩,
    ⟨(some 17), .move (.t 16), none⟩,
    ⟨(some 18), .move (.t 1), some (some 17, true)⟩,
    ⟨(some 19), .len (.t 18), some (some 17, true)⟩,
    ⟨(some 20), .bin .eql (.t 19) (.c (.int .i64 14)), some (some 17, true)⟩,
    ⟨(some 21), .pick (.t 17) (.t 20) (.c (.bool false)), none⟩,
    ⟨(some 22), .move (.t 21), none⟩,
    ⟨(some 23), .move (.t 4), some (some 22, true)⟩,
    ⟨(some 24), .bin .eql (.t 23) (.c (.int .i64 0)), some (some 22, true)⟩,
    ⟨(some 25), .pick (.t 22) (.t 24) (.c (.bool false)), none⟩,
    ⟨(some 26), .move (.t 25), none⟩,
    ⟨(some 27), .fieldAddr 0 (.t 3), some (some 26, true)⟩,
    ⟨(some 28), .load false 1 (.t 27), some (some 26, true)⟩,
    ⟨(some 29), .bin .eql (.t 28) (.c (.str (bs [97]))), some (some 26, true)⟩,
    ⟨(some 30), .pick (.t 26) (.t 29) (.c (.bool false)), none⟩,
    ⟨(some 31), .move (.t 30), none⟩,
    ⟨(some 32), .fieldAddr 1 (.t 3), some (some 31, true)⟩,
    ⟨(some 33), .load false 1 (.t 32), some (some 31, true)⟩,
    ⟨(some 34), .bin .eql (.t 33) (.c (.str (bs [115]))), some (some 31, true)⟩,
    ⟨(some 35), .pick (.t 31) (.t 34) (.c (.bool false)), none⟩,
    ⟨(some 36), .move (.t 35), none⟩,
    ⟨(some 37), .fieldAddr 2 (.t 3), some (some 36, true)⟩,
    ⟨(some 38), .load false 1 (.t 37), some (some 36, true)⟩,
    ⟨(some 39), .len (.t 38), some (some 36, true)⟩,
    ⟨(some 40), .bin .eql (.t 39) (.c (.int .i64 0)), some (some 36, true)⟩,
    ⟨(some 41), .pick (.t 36) (.t 40) (.c (.bool false)), none⟩,
    ⟨(some 42), .move (.t 41), none⟩,
    ⟨(some 43), .call f_batch_Checksum [(.c .nil)], some (some 42, true)⟩,
    ⟨(some 44), .bin .eql (.t 43) (.c (.int .u32 2166136261)), some (some 42, true)⟩,
    ⟨(some 45), .pick (.t 42) (.t 44) (.c (.bool false)), none⟩,
    ⟨(some 46), .move (.t 45), none⟩,
    ⟨(some 47), .buildSliceO 1 1 [(.int .u8 0)] [(0, (.c (.int .u8 97)))], some (some 46, true)⟩,
    ⟨(some 48), .mark (.t 47), some (some 46, true)⟩,
    ⟨(some 49), .call f_batch_Checksum [(.t 48)], some (some 46, true)⟩,
    ⟨(some 50), .bin .eql (.t 49) (.c (.int .u32 3826002220)), some (some 46, true)⟩,
    ⟨(some 51), .pick (.t 46) (.t 50) (.c (.bool false)), none⟩,
    ⟨(some 0), .move (.t 51), none⟩])
  .ret))))⟩

structure F_warehouselaw24_known (P : Program) where
  id : FuncId
  batch_Encode : F_batch_Encode P
  batch_Decode : F_batch_Decode P
  batch_Checksum : F_batch_Checksum P
  has : Has P id [47] (c_warehouselaw24_known batch_Encode.id batch_Decode.id batch_Checksum.id)

def c_warehouseref24_Checksum : AFunc := ⟨22, [.tmp 2],
  (.seq
  (.region [
    ⟨(some 2), .move (.c (.int .u32 0)), none⟩])
  (.seq
  (.region [
    ⟨(some 3), .move (.c (.int .u64 2166136261)), none⟩])
  (.seq
  (.seq
  (.region [
    ⟨(some 4), .move (.c (.int .i64 0)), none⟩])
  (.block 0
    (.loop
      (.seq
      (.seq
      (.region [
        ⟨(some 5), .move (.t 4), none⟩,
        ⟨(some 6), .move (.t 0), none⟩,
        ⟨(some 7), .len (.t 6), none⟩,
        ⟨(some 8), .bin .lss (.t 5) (.t 7), none⟩])
      (.cond (.t 8)
        .skip
        (.exit 0)))
      (.seq
      (.block 1
        (.region [
          ⟨(some 11), .move (.t 3), none⟩,
          ⟨(some 12), .move (.t 0), none⟩,
          ⟨(some 13), .move (.t 4), none⟩,
          ⟨(some 14), .indexAddr 1 (.t 12) (.t 13), none⟩,
          ⟨(some 15), .load false 1 (.t 14), none⟩,
          ⟨(some 16), .conv .u64 (.t 15), none⟩,
          ⟨(some 17), .bin .xor (.t 11) (.t 16), none⟩,
          ⟨(some 18), .bin .mul (.t 17) (.c (.int .u64 16777619)), none⟩,
          ⟨(some 19), .bin .rem (.t 18) (.c (.int .u64 4294967296)), none⟩,
          ⟨(some 3), .move (.t 19), none⟩]))
      (.region [
        ⟨(some 9), .move (.t 4), none⟩,
        ⟨(some 10), .bin .add (.t 9) (.c (.int .i64 1)), none⟩,
        ⟨(some 4), .move (.t 10), none⟩]))))))
  (.seq
  (.region [
    ⟨(some 20), .move (.t 3), none⟩,
    ⟨(some 21), .conv .u32 (.t 20), none⟩,
    ⟨(some 2), .move (.t 21), none⟩])
  .ret))))⟩

structure F_warehouseref24_Checksum (P : Program) where
  id : FuncId
  has : Has P id [] c_warehouseref24_Checksum

def c_warehouseref24_Validate (f_warehouseref5_IsName : FuncId) (f_warehouseref5_IsQualified : FuncId) (f_warehouseref1_Encode : FuncId) : AFunc := ⟨56, [.tmp 2],
  (.seq
  (.region [
    ⟨(some 1), .box (.t 0), none⟩,
    ⟨(some 2), .move (.c (.int .i64 0)), none⟩])
  (.seq
  (.seq
  (.region [
    ⟨(some 6), .fieldAddr 0 (.t 1), none⟩,
    ⟨(some 7), .load false 1 (.t 6), none⟩,
    ⟨(some 8), .call f_warehouseref5_IsName [(.t 7)], none⟩,
    ⟨(some 9), .un .not (.t 8), none⟩,
    ⟨(some 10), .move (.t 9), none⟩,
    ⟨(some 11), .fieldAddr 1 (.t 1), some (some 10, false)⟩,
    ⟨(some 12), .load false 1 (.t 11), some (some 10, false)⟩,
    ⟨(some 13), .call f_warehouseref5_IsQualified [(.t 12)], some (some 10, false)⟩,
    ⟨(some 14), .un .not (.t 13), some (some 10, false)⟩,
    ⟨(some 15), .pick (.t 10) (.c (.bool true)) (.t 14), none⟩])
  (.cond (.t 15)
    (.seq
    (.region [
      ⟨(some 2), .move (.c (.int .i64 4)), none⟩])
    .ret)
    .skip))
  (.seq
  (.seq
  (.region [
    ⟨(some 16), .fieldAddr 2 (.t 1), none⟩,
    ⟨(some 17), .load false 1 (.t 16), none⟩,
    ⟨(some 18), .len (.t 17), none⟩,
    ⟨(some 19), .bin .gtr (.t 18) (.c (.int .i64 1024)), none⟩])
  (.cond (.t 19)
    (.seq
    (.region [
      ⟨(some 2), .move (.c (.int .i64 2)), none⟩])
    .ret)
    .skip))
  (.seq
  (.seq
  (.region [
    ⟨(some 3), .move (.c (.int .i64 0)), none⟩])
  (.block 0
    (.loop
      (.seq
      (.seq
      (.region [
        ⟨(some 20), .move (.t 3), none⟩,
        ⟨(some 21), .fieldAddr 2 (.t 1), none⟩,
        ⟨(some 22), .load false 1 (.t 21), none⟩,
        ⟨(some 23), .len (.t 22), none⟩,
        ⟨(some 24), .bin .lss (.t 20) (.t 23), none⟩])
      (.cond (.t 24)
        .skip
        (.exit 0)))
      (.seq
      (.block 1
        (.seq
        (.seq
        (.region [
          ⟨(some 27), .fieldAddr 2 (.t 1), none⟩,
          ⟨(some 28), .load false 1 (.t 27), none⟩,
          ⟨(some 29), .move (.t 3), none⟩,
          ⟨(some 30), .indexAddr 3 (.t 28) (.t 29), none⟩,
          ⟨(some 31), .fieldAddr 1 (.t 30), none⟩,
          ⟨(some 32), .load false 1 (.t 31), none⟩,
          ⟨(some 33), .bin .lss (.t 32) (.c (.int .i64 0)), none⟩,
          ⟨(some 34), .move (.t 33), none⟩,
          ⟨(some 35), .fieldAddr 2 (.t 1), some (some 34, false)⟩,
          ⟨(some 36), .load false 1 (.t 35), some (some 34, false)⟩,
          ⟨(some 37), .move (.t 3), some (some 34, false)⟩,
          ⟨(some 38), .indexAddr 3 (.t 36) (.t 37), some (some 34, false)⟩,
          ⟨(some 39), .fieldAddr 1 (.t 38), some (some 34, false)⟩,
          ⟨(some 40), .load false 1 (.t 39), some (some 34, false)⟩,
          ⟨(some 41), .bin .gtr (.t 40) (.c (.int .i64 1073741824)), some (some 34, false)⟩,
          ⟨(some 42), .pick (.t 34) (.c (.bool true)) (.t 41), none⟩])
        (.cond (.t 42)
          (.seq
          (.region [
            ⟨(some 2), .move (.c (.int .i64 1)), none⟩])
          .ret)
          .skip))
        (.seq
        (.region [
          ⟨(some 44), .fieldAddr 2 (.t 1), none⟩,
          ⟨(some 45), .load false 1 (.t 44), none⟩,
          ⟨(some 46), .move (.t 3), none⟩,
          ⟨(some 47), .indexAddr 3 (.t 45) (.t 46), none⟩,
          ⟨(some 48), .fieldAddr 2 (.t 47), none⟩,
          ⟨(some 49), .load false 1 (.t 48), none⟩,
          ⟨(some 50), .call f_warehouseref1_Encode [(.t 49)], none⟩,
          ⟨(some 43), .move (.t 50), none⟩,
          ⟨(some 51), .extract (.t 43) 0, none⟩,
          ⟨(some 52), .extract (.t 43) 1, none⟩,
          ⟨(some 4), .move (.t 51), none⟩,
          ⟨(some 5), .move (.t 52), none⟩])
        (.seq
        (.region [
          ⟨(some 53), .move (.t 5), none⟩,
          ⟨(some 54), .bin .neq (.t 53) (.c (.int .i64 0)), none⟩])
        (.cond (.t 54)
          (.seq
          (.region [
            ⟨(some 55), .move (.t 5), none⟩,
            ⟨(some 2), .move (.t 55), none⟩])
          .ret)
          .skip)))))
      (.region [
        ⟨(some 25), .move (.t 3), none⟩,
        ⟨(some 26), .bin .add (.t 25) (.c (.int .i64 1)), none⟩,
        ⟨(some 3), .move (.t 26), none⟩]))))))
  (.seq
  (.region [
    ⟨(some 2), .move (.c (.int .i64 0)), none⟩])
  .ret)))))⟩

structure F_warehouseref24_Validate (P : Program) where
  id : FuncId
  warehouseref5_IsName : F_warehouseref5_IsName P
  warehouseref5_IsQualified : F_warehouseref5_IsQualified P
  warehouseref1_Encode : F_warehouseref1_Encode P
  has : Has P id [] (c_warehouseref24_Validate warehouseref5_IsName.id warehouseref5_IsQualified.id warehouseref1_Encode.id)

def c_warehouseref24_number : AFunc := ⟨24, [.tmp 4],
  (.seq
  (.region [
    ⟨(some 4), .move (.c .nil), none⟩])
  (.seq
  (.region [
    ⟨(some 7), .move (.t 1), none⟩,
    ⟨(some 8), .mkSlice 1 1 [(.int .u8 0)] (.t 7) (.t 7), none⟩,
    ⟨(some 5), .move (.t 8), none⟩])
  (.seq
  (.seq
  (.region [
    ⟨(some 9), .move (.t 1), none⟩,
    ⟨(some 10), .bin .sub (.t 9) (.c (.int .i64 1)), none⟩,
    ⟨(some 6), .move (.t 10), none⟩])
  (.block 0
    (.loop
      (.seq
      (.seq
      (.region [
        ⟨(some 11), .move (.t 6), none⟩,
        ⟨(some 12), .bin .geq (.t 11) (.c (.int .i64 0)), none⟩])
      (.cond (.t 12)
        .skip
        (.exit 0)))
      (.seq
      (.block 1
        (.seq
        (.region [
          ⟨(some 15), .move (.t 5), none⟩,
          ⟨(some 16), .move (.t 6), none⟩,
          ⟨(some 17), .move (.t 0), none⟩,
          ⟨(some 18), .bin .rem (.t 17) (.c (.int .i64 256)), none⟩,
          ⟨(some 19), .conv .u8 (.t 18), none⟩,
          ⟨(some 20), .indexAddr 1 (.t 15) (.t 16), none⟩,
          ⟨none, .store 1 (.t 20) (.t 19), none⟩])
        (.region [
          ⟨(some 21), .move (.t 0), none⟩,
          ⟨(some 22), .bin .quo (.t 21) (.c (.int .i64 256)), none⟩,
          ⟨(some 0), .move (.t 22), none⟩])))
      (.region [
        ⟨(some 13), .move (.t 6), none⟩,
        ⟨(some 14), .bin .sub (.t 13) (.c (.int .i64 1)), none⟩,
        ⟨(some 6), .move (.t 14), none⟩]))))))
  (.seq
  (.region [
    ⟨(some 23), .move (.t 5), none⟩,
    ⟨(some 4), .move (.t 23), none⟩])
  .ret))))⟩

structure F_warehouseref24_number (P : Program) where
  id : FuncId
  has : Has P id [] c_warehouseref24_number

def c_warehouseref24_Encode (f_warehouseref24_Validate : FuncId) (f_warehouseref24_number : FuncId) (f_warehouseref1_Encode : FuncId) (f_warehouseref24_Checksum : FuncId) : AFunc := ⟨90, [.tmp 2, .tmp 3],
  (.seq
  (.region [
    ⟨(some 1), .box (.t 0), none⟩,
    ⟨(some 2), .move (.c .nil), none⟩,
    ⟨(some 3), .move (.c (.int .i64 0)), none⟩])
  (.seq
  (.seq
  (.region [
    ⟨(some 10), .load true 3 (.t 1), none⟩,
    ⟨(some 11), .call f_warehouseref24_Validate [(.t 10)], none⟩,
    ⟨(some 4), .move (.t 11), none⟩])
  (.seq
  (.region [
    ⟨(some 12), .move (.t 4), none⟩,
    ⟨(some 13), .bin .neq (.t 12) (.c (.int .i64 0)), none⟩])
  (.cond (.t 13)
    (.seq
    (.region [
      ⟨(some 14), .move (.t 4), none⟩,
      ⟨(some 2), .move (.c .nil), none⟩,
      ⟨(some 3), .move (.t 14), none⟩])
    .ret)
    .skip)))
  (.seq
  (.region [
    ⟨(some 15), .buildSliceO 1 4 [(.int .u8 0)] [(0, (.c (.int .u8 87))), (1, (.c (.int .u8 72))), (2, (.c (.int .u8 70))), (3, (.c (.int .u8 49)))], none⟩,
    ⟨(some 16), .mark (.t 15), none⟩,
    ⟨(some 17), .fieldAddr 0 (.t 1), none⟩,
    ⟨(some 18), .load false 1 (.t 17), none⟩,
    ⟨(some 19), .lenS (.t 18), none⟩,
    ⟨(some 20), .conv .u8 (.t 19), none⟩,
    ⟨(some 21), .buildSlice 1 1 [(.int .u8 0)] [(0, (.t 20))], none⟩,
    ⟨(some 22), .append 1 1 [(.int .u8 0)] (.t 16) (.t 21), none⟩,
    ⟨(some 5), .move (.t 22), none⟩])
  (.seq
  (.draw [
    (⟨(some 23), .move (.t 5), none⟩, []),
    (⟨(some 24), .fieldAddr 0 (.t 1), none⟩, []),
    (⟨(some 25), .load false 1 (.t 24), none⟩, []),
    (⟨(some 26), .append 1 1 [(.int .u8 0)] (.t 23) (.t 25), none⟩, []),
    (⟨(some 27), .fieldAddr 1 (.t 1), none⟩, []),
    (⟨(some 28), .load false 1 (.t 27), none⟩, [11]),
    (⟨(some 29), .lenS (.t 28), none⟩, []),
    (⟨(some 30), .conv .u8 (.t 29), none⟩, []),
    (⟨(some 31), .buildSlice 1 1 [(.int .u8 0)] [(0, (.t 30))], none⟩, []),
    (⟨(some 32), .append 1 1 [(.int .u8 0)] (.t 26) (.t 31), none⟩, []),
    (⟨(some 5), .move (.t 32), none⟩, [])])
  (.seq
  (.draw [
    (⟨(some 33), .move (.t 5), none⟩, []),
    (⟨(some 34), .fieldAddr 1 (.t 1), none⟩, []),
    (⟨(some 35), .load false 1 (.t 34), none⟩, []),
    (⟨(some 36), .append 1 1 [(.int .u8 0)] (.t 33) (.t 35), none⟩, []),
    (⟨(some 37), .fieldAddr 2 (.t 1), none⟩, []),
    (⟨(some 38), .load false 1 (.t 37), none⟩, [10]),
    (⟨(some 39), .len (.t 38), none⟩, [10]),
    (⟨(some 40), .call f_warehouseref24_number [(.t 39), (.c (.int .i64 2))], none⟩, []),
    (⟨(some 41), .append 1 1 [(.int .u8 0)] (.t 36) (.t 40), none⟩, []),
    (⟨(some 5), .move (.t 41), none⟩, [])])
  (.seq
  (.seq
  (.region [
    ⟨(some 6), .move (.c (.int .i64 0)), none⟩])
  (.block 0
    (.loop
      (.seq
      (.seq
      (.region [
        ⟨(some 42), .move (.t 6), none⟩,
        ⟨(some 43), .fieldAddr 2 (.t 1), none⟩,
        ⟨(some 44), .load false 1 (.t 43), none⟩,
        ⟨(some 45), .len (.t 44), none⟩,
        ⟨(some 46), .bin .lss (.t 42) (.t 45), none⟩])
      (.cond (.t 46)
        .skip
        (.exit 0)))
      (.seq
      (.block 1
        (.seq
        (.region [
          ⟨(some 49), .fieldAddr 2 (.t 1), none⟩,
          ⟨(some 50), .load false 1 (.t 49), none⟩,
          ⟨(some 51), .move (.t 6), none⟩,
          ⟨(some 52), .indexAddr 3 (.t 50) (.t 51), none⟩,
          ⟨(some 53), .load true 3 (.t 52), none⟩,
          ⟨(some 7), .alloc [(.bool false), (.int .i64 0), .nil], none⟩,
          ⟨none, .store 3 (.t 7) (.t 53), none⟩])
        (.seq
        (.seq
        (.region [
          ⟨(some 54), .fieldAddr 0 (.t 7), none⟩,
          ⟨(some 55), .load false 1 (.t 54), none⟩])
        (.cond (.t 55)
          (.region [
            ⟨(some 56), .move (.t 5), none⟩,
            ⟨(some 57), .buildSlice 1 1 [(.int .u8 0)] [(0, (.c (.int .u8 1)))], none⟩,
            ⟨(some 58), .append 1 1 [(.int .u8 0)] (.t 56) (.t 57), none⟩,
            ⟨(some 5), .move (.t 58), none⟩])
          (.region [
            ⟨(some 59), .move (.t 5), none⟩,
            ⟨(some 60), .buildSlice 1 1 [(.int .u8 0)] [(0, (.c (.int .u8 0)))], none⟩,
            ⟨(some 61), .append 1 1 [(.int .u8 0)] (.t 59) (.t 60), none⟩,
            ⟨(some 5), .move (.t 61), none⟩])))
        (.seq
        (.region [
          ⟨(some 63), .fieldAddr 2 (.t 7), none⟩,
          ⟨(some 64), .load false 1 (.t 63), none⟩,
          ⟨(some 65), .call f_warehouseref1_Encode [(.t 64)], none⟩,
          ⟨(some 62), .move (.t 65), none⟩,
          ⟨(some 66), .extract (.t 62) 0, none⟩,
          ⟨(some 67), .extract (.t 62) 1, none⟩,
          ⟨(some 8), .move (.t 66), none⟩,
          ⟨(some 9), .move (.t 67), none⟩])
        (.seq
        (.region [
          ⟨(some 68), .move (.t 5), none⟩,
          ⟨(some 69), .fieldAddr 1 (.t 7), none⟩,
          ⟨(some 70), .load false 1 (.t 69), none⟩,
          ⟨(some 71), .call f_warehouseref24_number [(.t 70), (.c (.int .i64 4))], none⟩,
          ⟨(some 72), .append 1 1 [(.int .u8 0)] (.t 68) (.t 71), none⟩,
          ⟨(some 73), .move (.t 8), none⟩,
          ⟨(some 74), .len (.t 73), none⟩,
          ⟨(some 75), .call f_warehouseref24_number [(.t 74), (.c (.int .i64 2))], none⟩,
          ⟨(some 76), .append 1 1 [(.int .u8 0)] (.t 72) (.t 75), none⟩,
          ⟨(some 5), .move (.t 76), none⟩])
        (.region [
          ⟨(some 77), .move (.t 5), none⟩,
          ⟨(some 78), .move (.t 8), none⟩,
          ⟨(some 79), .append 1 1 [(.int .u8 0)] (.t 77) (.t 78), none⟩,
          ⟨(some 5), .move (.t 79), none⟩]))))))
      (.region [
        ⟨(some 47), .move (.t 6), none⟩,
        ⟨(some 48), .bin .add (.t 47) (.c (.int .i64 1)), none⟩,
        ⟨(some 6), .move (.t 48), none⟩]))))))
  (.seq
  (.region [
    ⟨(some 80), .move (.t 5), none⟩,
    ⟨(some 81), .move (.t 5), none⟩,
    ⟨(some 82), .call f_warehouseref24_Checksum [(.t 81)], none⟩,
    ⟨(some 83), .conv .i64 (.t 82), none⟩,
    ⟨(some 84), .call f_warehouseref24_number [(.t 83), (.c (.int .i64 4))], none⟩,
    ⟨(some 85), .append 1 1 [(.int .u8 0)] (.t 80) (.t 84), none⟩,
    ⟨(some 5), .move (.t 85), none⟩])
  (.seq
  (.seq
  (.region [
    ⟨(some 86), .move (.t 5), none⟩,
    ⟨(some 87), .len (.t 86), none⟩,
    ⟨(some 88), .bin .gtr (.t 87) (.c (.int .i64 65536)), none⟩])
  (.cond (.t 88)
    (.seq
    (.region [
      ⟨(some 2), .move (.c .nil), none⟩,
      ⟨(some 3), .move (.c (.int .i64 2)), none⟩])
    .ret)
    .skip))
  (.seq
  (.region [
    ⟨(some 89), .move (.t 5), none⟩,
    ⟨(some 2), .move (.t 89), none⟩,
    ⟨(some 3), .move (.c (.int .i64 0)), none⟩])
  .ret)))))))))⟩

structure F_warehouseref24_Encode (P : Program) where
  id : FuncId
  warehouseref24_Validate : F_warehouseref24_Validate P
  warehouseref24_number : F_warehouseref24_number P
  warehouseref1_Encode : F_warehouseref1_Encode P
  warehouseref24_Checksum : F_warehouseref24_Checksum P
  has : Has P id [15] (c_warehouseref24_Encode warehouseref24_Validate.id warehouseref24_number.id warehouseref1_Encode.id warehouseref24_Checksum.id)

def c_warehouseworld_Place : AFunc := ⟨14, [.tmp 4],
  (.seq
  (.region [
    ⟨(some 4), .move (.c (.int .i64 0)), none⟩])
  (.seq
  (.seq
  (.region [
    ⟨(some 5), .move (.t 1), none⟩,
    ⟨(some 6), .bin .lss (.t 5) (.c (.int .i64 1)), none⟩])
  (.cond (.t 6)
    (.seq
    (.region [
      ⟨(some 4), .move (.c (.int .i64 0)), none⟩])
    .ret)
    .skip))
  (.seq
  (.region [
    ⟨(some 7), .move (.t 0), none⟩,
    ⟨(some 8), .move (.t 1), none⟩,
    ⟨(some 9), .bin .rem (.t 7) (.t 8), none⟩,
    ⟨(some 10), .move (.t 1), none⟩,
    ⟨(some 11), .bin .add (.t 9) (.t 10), none⟩,
    ⟨(some 12), .move (.t 1), none⟩,
    ⟨(some 13), .bin .rem (.t 11) (.t 12), none⟩,
    ⟨(some 4), .move (.t 13), none⟩])
  .ret)))⟩

structure F_warehouseworld_Place (P : Program) where
  id : FuncId
  has : Has P id [] c_warehouseworld_Place

def c_warehouseworld_SameBytes : AFunc := ⟨10, [.tmp 4],
  (.seq
  (.region [
    ⟨(some 4), .move (.c (.bool false)), none⟩])
  (.seq
  (.region [
    ⟨(some 5), .move (.t 0), none⟩,
    ⟨(some 6), .convBS (.t 5), none⟩,
    ⟨(some 7), .move (.t 1), none⟩,
    ⟨(some 8), .convBS (.t 7), none⟩,
    ⟨(some 9), .bin .eql (.t 6) (.t 8), none⟩,
    ⟨(some 4), .move (.t 9), none⟩])
  .ret))⟩

structure F_warehouseworld_SameBytes (P : Program) where
  id : FuncId
  has : Has P id [] c_warehouseworld_SameBytes

def c_warehouselaw24_BatchLimits (f_warehouseworld_Place : FuncId) (f_batch_Encode : FuncId) (f_warehouseref24_Encode : FuncId) (f_batch_Decode : FuncId) (f_warehouseworld_SameBytes : FuncId) (f_warehouselaw24_known : FuncId) : AFunc := ⟨82, [.tmp 6],
  (.seq
  (.region [
    ⟨(some 6), .move (.c (.bool false)), none⟩])
  (.seq
  (.region [
    ⟨(some 17), .buildSliceO 3 0 [(.int .i64 0), (.int .i64 0), (.str (bs []))] [], none⟩,
    ⟨(some 7), .move (.t 17), none⟩])
  (.seq
  (.seq
  (.region [
    ⟨(some 8), .move (.c (.int .i64 0)), none⟩])
  (.block 0
    (.loop
      (.seq
      (.seq
      (.region [
        ⟨(some 18), .move (.t 8), none⟩,
        ⟨(some 19), .move (.t 1), none⟩,
        ⟨(some 20), .call f_warehouseworld_Place [(.t 19), (.c (.int .i64 14))], none⟩,
        ⟨(some 21), .bin .lss (.t 18) (.t 20), none⟩])
      (.cond (.t 21)
        .skip
        (.exit 0)))
      (.seq
      (.block 1
        (.region [
          ⟨(some 24), .move (.t 7), none⟩,
          ⟨(some 25), .build [(.int .i64 0), (.int .i64 0), (.str (bs []))] [(0, 1, (.c (.int .i64 3))), (2, 1, (.c (.str (bs [48, 49, 50, 51, 52, 53, 54, 55, 56, 57, 48, 49, 50, 51, 52, 53, 54, 55, 56, 57, 48, 49, 50, 51, 52, 53, 54, 55, 56, 57, 48, 49, 50, 51, 52, 53, 54, 55, 56, 57, 48, 49, 50, 51, 52, 53, 54, 55, 56, 57, 48, 49, 50, 51, 52, 53, 54, 55, 56, 57, 48, 49, 50, 51]))))], none⟩,
          ⟨(some 26), .buildSlice 3 1 [(.int .i64 0), (.int .i64 0), (.str (bs []))] [(0, (.t 25))], none⟩,
          ⟨(some 27), .append 3 32 [(.int .i64 0), (.int .i64 0), (.str (bs []))] (.t 24) (.t 26), none⟩,
          ⟨(some 7), .move (.t 27), none⟩]))
      (.region [
        ⟨(some 22), .move (.t 8), none⟩,
        ⟨(some 23), .bin .add (.t 22) (.c (.int .i64 1)), none⟩,
        ⟨(some 8), .move (.t 23), none⟩]))))))
  (.seq
  (.seq
  (.region [
    ⟨(some 28), .build [(.str (bs [])), (.str (bs [])), .nil] [(0, 1, (.c (.str (bs [97])))), (1, 1, (.c (.str (bs [98, 46, 99]))))], none⟩,
    ⟨(some 9), .alloc [(.str (bs [])), (.str (bs [])), .nil], none⟩,
    ⟨none, .store 3 (.t 9) (.t 28), none⟩])
  .ghost)
  (.seq
  (.seq
  (.region [
    ⟨(some 10), .move (.c (.int .i64 0)), none⟩])
  (.block 2
    (.loop
      (.seq
      (.seq
      (.seq
      (.region [
        ⟨(some 29), .move (.t 10), none⟩,
        ⟨(some 30), .move (.t 0), none⟩,
        ⟨(some 31), .call f_warehouseworld_Place [(.t 30), (.c (.int .i64 5))], none⟩,
        ⟨(some 32), .bin .add (.c (.int .i64 1022)) (.t 31), none⟩,
        ⟨(some 33), .bin .lss (.t 29) (.t 32), none⟩])
      .ghost)
      (.cond (.t 33)
        .skip
        (.exit 2)))
      (.seq
      (.block 3
        (.region [
          ⟨(some 36), .fieldAddr 2 (.t 9), none⟩,
          ⟨(some 37), .load false 1 (.t 36), none⟩,
          ⟨(some 38), .move (.t 2), none⟩,
          ⟨(some 39), .move (.t 10), none⟩,
          ⟨(some 40), .move (.t 7), none⟩,
          ⟨(some 41), .build [(.bool false), (.int .i64 0), .nil] [(0, 1, (.t 38)), (1, 1, (.t 39)), (2, 1, (.t 40))], none⟩,
          ⟨(some 42), .buildSlice 3 1 [(.bool false), (.int .i64 0), .nil] [(0, (.t 41))], none⟩,
          ⟨(some 43), .append 3 40 [(.bool false), (.int .i64 0), .nil] (.t 37) (.t 42), none⟩,
          ⟨(some 44), .fieldAddr 2 (.t 9), none⟩,
          ⟨none, .store 1 (.t 44) (.t 43), none⟩]))
      (.region [
        ⟨(some 34), .move (.t 10), none⟩,
        ⟨(some 35), .bin .add (.t 34) (.c (.int .i64 1)), none⟩,
        ⟨(some 10), .move (.t 35), none⟩]))))))
  (.seq
  (.region [
    ⟨(some 46), .load true 3 (.t 9), none⟩,
    ⟨(some 47), .call f_batch_Encode [(.t 46)], none⟩,
    ⟨(some 45), .move (.t 47), none⟩,
    ⟨(some 48), .extract (.t 45) 0, none⟩,
    ⟨(some 49), .extract (.t 45) 1, none⟩,
    ⟨(some 11), .move (.t 48), none⟩,
    ⟨(some 12), .move (.t 49), none⟩])
  (.seq
  (.region [
    ⟨(some 51), .load true 3 (.t 9), none⟩,
    ⟨(some 52), .call f_warehouseref24_Encode [(.t 51)], none⟩,
    ⟨(some 50), .move (.t 52), none⟩,
    ⟨(some 53), .extract (.t 50) 0, none⟩,
    ⟨(some 54), .extract (.t 50) 1, none⟩,
    ⟨(some 13), .move (.t 53), none⟩,
    ⟨(some 14), .move (.t 54), none⟩])
  (.seq
  (.region [
    ⟨(some 56), .move (.t 0), none⟩,
    ⟨(some 57), .call f_warehouseworld_Place [(.t 56), (.c (.int .i64 2))], none⟩,
    ⟨(some 58), .bin .add (.c (.int .i64 65536)) (.t 57), none⟩,
    ⟨(some 59), .mkSlice 1 1 [(.int .u8 0)] (.t 58) (.t 58), none⟩,
    ⟨(some 60), .call f_batch_Decode [(.t 59)], none⟩,
    ⟨(some 55), .move (.t 60), none⟩,
    ⟨(some 61), .extract (.t 55) 0, none⟩,
    ⟨(some 62), .extract (.t 55) 1, none⟩,
    ⟨(some 15), .alloc [(.str (bs [])), (.str (bs [])), .nil], none⟩,
    ⟨none, .store 3 (.t 15) (.t 61), none⟩,
    ⟨(some 16), .move (.t 62), none⟩])
  (.seq
  (.region [
    ⟨(some 63), .move (.t 12), none⟩,
    ⟨(some 64), .move (.t 14), none⟩,
    ⟨(some 65), .bin .eql (.t 63) (.t 64), none⟩,
    ⟨(some 66), .move (.t 65), none⟩,
    ⟨(some 67), .move (.t 11), some (some 66, true)⟩,
    ⟨(some 68), .move (.t 13), some (some 66, true)⟩,
    ⟨(some 69), .call f_warehouseworld_SameBytes [(.t 67), (.t 68)], some (some 66, true)⟩,
    ⟨(some 70), .pick (.t 66) (.t 69) (.c (.bool false)), none⟩,
    ⟨(some 71), .move (.t 70), none⟩,
    ⟨(some 72), .move (.t 16), some (some 71, true)⟩,
    ⟨(some 73), .bin .eql (.t 72) (.c (.int .i64 2)), some (some 71, true)⟩,
    ⟨(some 74), .move (.t 0), some (some 71, true)⟩,
    ⟨(some 75), .call f_warehouseworld_Place [(.t 74), (.c (.int .i64 2))], some (some 71, true)⟩,
    ⟨(some 76), .bin .eql (.t 75) (.c (.int .i64 1)), some (some 71, true)⟩,
    ⟨(some 77), .eqb false (.t 73) (.t 76), some (some 71, true)⟩,
    ⟨(some 78), .pick (.t 71) (.t 77) (.c (.bool false)), none⟩,
    ⟨(some 79), .move (.t 78), none⟩,
    ⟨(some 80), .call f_warehouselaw24_known [], some (some 79, true)⟩,
    ⟨(some 81), .pick (.t 79) (.t 80) (.c (.bool false)), none⟩,
    ⟨(some 6), .move (.t 81), none⟩])
  .ret)))))))))⟩

structure F_warehouselaw24_BatchLimits (P : Program) where
  id : FuncId
  warehouseworld_Place : F_warehouseworld_Place P
  batch_Encode : F_batch_Encode P
  warehouseref24_Encode : F_warehouseref24_Encode P
  batch_Decode : F_batch_Decode P
  warehouseworld_SameBytes : F_warehouseworld_SameBytes P
  warehouselaw24_known : F_warehouselaw24_known P
  has : Has P id [17, 100028, 100033] (c_warehouselaw24_BatchLimits warehouseworld_Place.id batch_Encode.id warehouseref24_Encode.id batch_Decode.id warehouseworld_SameBytes.id warehouselaw24_known.id)

end Go.AW

namespace Go.AW
open Go.RowKit
inductive Sh where
  | bool
  | int (k : IntKind)
  | str
  | slice (fs : List Sh)

def shapeFields (P : Program) (sh : TypeId → Option (List Sh)) : List Field → Nat → Option (List Sh)
  | [], _ => some []
  | f :: r, off => if f.offset = off then match sh f.type, shapeFields P sh r (off + P.cellsOf f.type) with
      | some a, some b => if a.length = P.cellsOf f.type then some (a ++ b) else none
      | _, _ => none
    else none

def shapeOf (P : Program) : Nat → TypeId → Option (List Sh)
  | 0, _ => none
  | n + 1, t => match P.underlying t with
    | some .bool => some [.bool]
    | some (.int k) => some [.int k]
    | some .string => some [.str]
    | some (.slice e) => match shapeOf P n e with
      | some l => if l.length = P.cellsOf e ∧ P.cellsOf e ≠ 0 then some [.slice l] else none
      | none => none
    | some (.struct fs) => match shapeFields P (shapeOf P n) fs.toList 0 with
      | some l => if l.length = P.cellsOf t then some l else none
      | none => none
    | _ => none

inductive ShOk : Sh → AVal → Prop where
  | bool (b : Bool) : ShOk .bool (.bool b)
  | int (k : IntKind) (n : Int) (h : (Lit.int k n).wf = true) : ShOk (.int k) (.int k n)
  | str (s : ByteArray) (h : s.size ≤ maxLen) : ShOk .str (.str s)
  | list (fs : List Sh) (es : List (List AVal)) (hb : es.length ≤ maxLen) (hl : ∀ e ∈ es, e.length = fs.length)
      (h : ∀ (e : List AVal) (i : Nat) (f : Sh) (d : AVal), e ∈ es → fs[i]? = some f → e[i]? = some d → ShOk f d) : ShOk (.slice fs) (.list false fs.length es)

def allC (w : World) (b : Nat) : Nat :=
  match w.heap[b]? with
  | some (.cells cells _ _) => cells.size
  | _ => 0

theorem allC_cell {w : World} {b i : Nat} {v : Value} (h : w.cell? ⟨b, i, none⟩ = some v) : i < allC w b := by
  unfold World.cell? at h
  unfold allC
  simp only [] at h
  split at h
  · rename_i hh
    rw [hh]
    simp only []
    exact (Array.getElem?_eq_some_iff.1 h).1
  · cases h

theorem ShOk.isCell {s : Sh} {a : AVal} (h : ShOk s a) : a.isCell = true := by cases h <;> rfl

section
variable {H : Type} {enc : TypeId × Value → H} {P : Program} {w : World} {spare : Nat → Bool} {held : Bool}
theorem cells?_get {a : Addr} {n : Nat} {cs : List Value} (h : w.cells? 0 a n = some cs) : cs.length = n ∧ ∀ i, i < n → w.cell? (a.add i) = cs[i]? := by
  unfold World.cells? at h
  rw [if_pos (Nat.zero_le _)] at h
  exact ⟨by simpa using Go.mapM_some_length h, fun i hi => Go.mapM_some_get h i i (by simp [hi])⟩

def RdAll (w : World) (shs : List Sh) (cs : List Value) : Prop :=
  ∃ as : List AVal, as.length = cs.length ∧ shs.length = cs.length ∧ (∀ (i : Nat) (s : Sh) (a : AVal), shs[i]? = some s → as[i]? = some a → ShOk s a) ∧
    ∀ (i : Nat) (a : AVal) (c : Value), as[i]? = some a → cs[i]? = some c → Rd (allC w) w a c

theorem RdAll.one {s : Sh} {a : AVal} {c : Value} (h : ShOk s a) (hr : Rd (allC w) w a c) : RdAll w [s] [c] := by
  refine ⟨[a], rfl, rfl, fun i s' a' h1 h2 => ?_, fun i a' c' h1 h2 => ?_⟩
  · cases i with
    | zero => simp at h1 h2; subst h1 h2; exact h
    | succ i => simp at h1
  · cases i with
    | zero => simp at h1 h2; subst h1 h2; exact hr
    | succ i => simp at h1

theorem RdAll.append {s1 s2 : List Sh} {c1 c2 : List Value} (h1 : RdAll w s1 c1) (h2 : RdAll w s2 c2) : RdAll w (s1 ++ s2) (c1 ++ c2) := by
  obtain ⟨a1, l1, m1, o1, r1⟩ := h1
  obtain ⟨a2, l2, m2, o2, r2⟩ := h2
  refine ⟨a1 ++ a2, by simp [l1, l2], by simp [m1, m2], fun i s a hs ha => ?_, fun i a c ha hc => ?_⟩
  · by_cases hi : i < c1.length
    · rw [List.getElem?_append_left (by omega)] at hs ha
      exact o1 i s a hs ha
    · rw [List.getElem?_append_right (by omega)] at hs ha
      rw [m1] at hs; rw [l1] at ha
      exact o2 _ s a hs ha
  · by_cases hi : i < c1.length
    · rw [List.getElem?_append_left (by omega)] at ha hc
      exact r1 i a c ha hc
    · rw [List.getElem?_append_right (by omega)] at ha hc
      rw [l1] at ha
      exact r2 _ a c ha hc

theorem RdAll.nil : RdAll w [] [] := ⟨[], rfl, rfl, fun i s a h => by simp at h, fun i a c h => by simp at h⟩

theorem open_fields {sh : TypeId → Option (List Sh)} (tr : Field → List Value → Prop) (htr : ∀ (f : Field) (cs : List Value) (l : List Sh), tr f cs → sh f.type = some l → RdAll w l cs) (cs : List Value) :
    ∀ (fs : List Field) (off : Nat) (l : List Sh), shapeFields P sh fs off = some l → (∀ f ∈ fs, tr f ((cs.drop f.offset).take (P.cellsOf f.type))) → off + l.length = cs.length → RdAll w l (cs.drop off)
  | [], off, l, h, _, hl => by
    simp only [shapeFields, Option.some.injEq] at h; subst h
    have : cs.drop off = [] := List.drop_eq_nil_of_le (by simp at hl; omega)
    rw [this]; exact .nil
  | f :: r, off, l, h, ht, hl => by
    simp only [shapeFields] at h
    split at h
    case isFalse => cases h
    rename_i ho
    split at h
    case h_2 => cases h
    rename_i a b h1 h2
    split at h
    case isFalse => cases h
    rename_i hlen
    cases h
    have hf := htr f _ _ (ht f (by simp)) h1
    have hr := open_fields tr htr cs r _ _ h2 (fun g hg => ht g (by simp [hg])) (by simp at hl; omega)
    rw [ho] at hf
    have := hf.append hr
    rwa [← List.drop_drop, List.take_append_drop] at this

theorem open_shape : ∀ (n : Nat) (fuel : Nat) (t : TypeId) (cs : List Value) (x : DataW H × List MemPlace) (l : List Sh), shapeOf P n t = some l → DataW.trod enc P w 0 spare held fuel t cs = some x → RdAll w l cs
  | 0, _, _, _, _, _, h, _ => by simp [shapeOf] at h
  | n + 1, fuel, t, cs, x, l, h, ht => by
    unfold shapeOf at h
    split at h
    · rename_i hu
      cases h
      cases fuel with
      | zero => simp [DataW.trod] at ht
      | succ m =>
        unfold DataW.trod at ht
        rw [hu] at ht
        split at ht <;> simp_all
        exact .one (.bool _) (.bool _)
    · rename_i k hu
      cases h
      cases fuel with
      | zero => simp [DataW.trod] at ht
      | succ m =>
        unfold DataW.trod at ht
        rw [hu] at ht
        split at ht <;> simp_all
        obtain ⟨⟨rfl, hw⟩, _⟩ := ht
        exact .one (.int _ _ hw) (.int _ _)
    · rename_i hu
      cases h
      cases fuel with
      | zero => simp [DataW.trod] at ht
      | succ m =>
        unfold DataW.trod at ht
        rw [hu] at ht
        split at ht <;> simp_all
        exact .one (.str _ ht.1) (.str _)
    · rename_i e hu
      split at h
      case h_2 => cases h
      rename_i fs hfs
      split at h
      case isFalse => cases h
      rename_i hlen'
      cases h
      have hlen := hlen'.1
      rcases DataW.trod_slice hu ht with ⟨rfl, _⟩ | ⟨a, len, cap, elems, rest, m, rfl, rfl, _, _, hl, hm, hel, hcell, _, _⟩
      · have hes : ShOk (.slice fs) (.list false fs.length []) := .list fs [] (Nat.zero_le _) (by simp) (by simp)
        exact .one hes (.list0 _ _ _ _ (by simp))
      · obtain ⟨b, off, spot⟩ := a
        have each : ∀ i, i < len → ∃ cells, w.cells? 0 ((Addr.mk b off spot).add (i * P.cellsOf e)) (P.cellsOf e) = some cells ∧ RdAll w fs cells := by
          intro i hi
          have h1 := hcell i hi
          rw [List.getElem?_eq_getElem (by omega), Option.bind_eq_some_iff] at h1
          obtain ⟨cells, h2, h3⟩ := h1
          exact ⟨cells, h2, open_shape n m e cells _ fs hfs h3⟩
        by_cases h0 : len = 0
        · subst h0
          have hes : ShOk (.slice fs) (.list false fs.length []) := .list fs [] (Nat.zero_le _) (by simp) (by simp)
          exact .one hes (.list0 _ _ _ _ (by simp))
        · by_cases hz : P.cellsOf e = 0
          · exact absurd hz hlen'.2
          · have hspot : spot = none := by
              obtain ⟨cells, h1, _⟩ := each 0 (by omega)
              obtain ⟨h2, h3⟩ := cells?_get h1
              have h4 := h3 0 (by omega)
              rw [List.getElem?_eq_getElem (by omega)] at h4
              have := World.cell?_spot h4
              simpa [Addr.add] using this
            subst hspot
            
            have hch : ∃ F : Nat → List AVal, ∀ i, i < len → (F i).length = fs.length ∧ (∀ (j : Nat) (s : Sh) (a : AVal), fs[j]? = some s → (F i)[j]? = some a → ShOk s a) ∧
                ∃ cells : List Value, cells.length = fs.length ∧ (∀ j, j < fs.length → w.cell? ⟨b, off + i * fs.length + j, none⟩ = cells[j]?) ∧ ∀ (j : Nat) (a : AVal) (c : Value), (F i)[j]? = some a → cells[j]? = some c → Rd (allC w) w a c := by
              refine ⟨fun i => if hi : i < len then Classical.choose (each i hi).choose_spec.2 else [], fun i hi => ?_⟩
              obtain ⟨h1, h2, h3, h4⟩ := Classical.choose_spec (each i hi).choose_spec.2
              have hc := (each i hi).choose_spec.1
              obtain ⟨h5, h6⟩ := cells?_get hc
              simp only [dif_pos hi]
              refine ⟨by omega, h3, (each i hi).choose, by omega, fun j hj => ?_, h4⟩
              rw [← h6 j (by omega)]
              rw [WideShapes.add_plain, WideShapes.add_plain, hlen]
            obtain ⟨F, hF⟩ := hch
            have hget : ∀ (i : Nat) (e' : List AVal), ((List.range len).map F)[i]? = some e' → i < len ∧ e' = F i := by
              intro i e' he
              by_cases hi : i < len
              · simp [hi] at he; exact ⟨hi, he.symm⟩
              · simp [hi] at he
            refine .one (a := .list false fs.length ((List.range len).map F)) (.list _ _ (by simp; omega) (fun e' he' => ?_) fun e' i f d he' hf hd => ?_) ?_
            · obtain ⟨i, hi, rfl⟩ := List.mem_map.1 he'
              exact (hF i (by simpa using hi)).1
            · obtain ⟨i', hi', rfl⟩ := List.mem_map.1 he'
              exact (hF i' (by simpa using hi')).2.1 i f d hf hd
            · have hcellv : ∀ i j, i < len → j < fs.length → ∃ v, w.cell? ⟨b, off + i * fs.length + j, none⟩ = some v := by
                intro i j hi hj
                obtain ⟨_, _, cells, h1, h2, _⟩ := hF i hi
                exact ⟨cells[j], by rw [h2 j hj, List.getElem?_eq_getElem (by omega)]⟩
              have := Rd.list (C := allC w) (w := w) false fs.length ((List.range len).map F) b off cap (fun i j => (w.cell? ⟨b, off + i * fs.length + j, none⟩).getD .nilIface) (by simp) (by simpa using hl)
                (fun e' he' => by obtain ⟨i, hi, rfl⟩ := List.mem_map.1 he'; exact (hF i (by simpa using hi)).1) ?_ ?_ ?_ ?_
              · simpa using this
              · obtain ⟨v, hv⟩ := hcellv (len - 1) (fs.length - 1) (by omega) (by omega)
                have h1 := allC_cell hv
                simp only [List.length_map, List.length_range]
                have h2 : len * fs.length = (len - 1) * fs.length + fs.length := by
                  rw [← Nat.succ_mul]; congr 1; omega
                omega
              · intro i j hi hj
                obtain ⟨v, hv⟩ := hcellv i j (by simpa using hi) hj
                rw [hv]; rfl
              · intro i j e' d he hd
                obtain ⟨hi, rfl⟩ := hget i e' he
                have hj : j < fs.length := by rw [← (hF i hi).1]; exact (List.getElem?_eq_some_iff.1 hd).1
                exact ((hF i hi).2.1 j _ d (List.getElem?_eq_getElem hj) hd).isCell
              · intro i j e' d he hd
                obtain ⟨hi, rfl⟩ := hget i e' he
                have hj : j < fs.length := by rw [← (hF i hi).1]; exact (List.getElem?_eq_some_iff.1 hd).1
                obtain ⟨_, _, cells, h1, h2, h3⟩ := hF i hi
                refine h3 j d _ hd ?_
                rw [← h2 j hj]
                obtain ⟨v, hv⟩ := hcellv i j hi hj
                rw [hv]; rfl
    · rename_i fs hu
      split at h
      case h_2 => cases h
      rename_i l' hl'
      split at h
      case isFalse => cases h
      rename_i hll
      cases h
      obtain ⟨xs, m, rfl, _, hlen, hxs, hf⟩ := DataW.trod_struct hu ht
      have := open_fields (P := P) (w := w) (sh := shapeOf P n) (fun f cs => ∃ y, DataW.trod enc P w 0 spare held m f.type cs = some y) (fun f cs l' ⟨y, hy⟩ hl => open_shape n m f.type cs y l' hl hy) cs fs.toList 0 _ hl' ?_ ?_
      · simpa using this
      · intro f hfm
        obtain ⟨i, hi, he⟩ := List.getElem_of_mem hfm
        have h1 := hf i f (by rw [← he]; simp)
        exact ⟨xs[i]'(by simp at hi; omega), by rw [h1]; exact List.getElem?_eq_getElem _⟩
      · omega
    · cases h

end
end Go.AW

