/-
  What a call leaves: objects that nobody names are dropped, results are handed over as objects of the caller's or as lists that never change again.
  No condition: plain laws over any program.
-/
import Derived.Test.YtikifhfpiahnoaaAwFun
namespace Go.AW

section
variable {P : Program} {C C' : Nat → Nat} {τ τ' : Nat → Option Loc} {H H' : List AObj} {w w' : World}

/-- **A contract without objects serves over any heap**: what the call made is dropped but for what is handed over. -/
theorem ACalls.lift {f : FuncId} {args : List AVal} {Q0 Q : AVal → List AObj → Prop} (ha : args.all AVal.closed = true) (h : ACalls P f args [] Q0)
    (hq : ∀ r H1, Q0 r H1 → ∃ ids r' Hn, Pub H1 H.length ids r r' ∧ ids.Nodup ∧ ids.length = Hn.length ∧ (∀ (k id : Nat), ids[k]? = some id → Hn[k]? = H1[id]? ∧ ∃ esz es, H1[id]? = some (.arr esz es) ∧ pureEs es = true) ∧ Q r' (H ++ Hn)) :
    ACalls P f args H Q := by
  intro C τ w vs hw hl hr
  have hw0 : WF C τ [] w := ⟨fun id o h => by simp at h, fun id o h => by simp at h, fun id o l h => by simp at h, fun id l h => by simp at h, fun i j li lj h => by simp at h, hw.lt⟩
  have hr0 : ∀ (i : Nat) (a : AVal) (v : Value), args[i]? = some a → vs[i]? = some v → Rel C w τ [] a v := fun i a v h1 h2 =>
    (hr i a v h1 h2).closed (List.all_eq_true.1 ha a (List.mem_of_getElem? h1)) (fun _ => Nat.le_refl _) (fun _ _ _ => rfl)
  have hc := h C τ w vs hw0 hl hr0
  have fin : ∀ (e : Ending) (w' : World), (∃ v r C' τ' H', e = .returned v ∧ Q0 r H' ∧ Rel C' w' τ' H' r v ∧ St w (PrCall τ [] w) C' τ' H' w' ∧ Step C τ [] w C' τ' H' w') →
      ∃ v r C' τ' H', e = .returned v ∧ Q r H' ∧ Rel C' w' τ' H' r v ∧ St w (PrCall τ H w) C' τ' H' w' ∧ Step C τ H w C' τ' H' w' := by
    rintro e w' ⟨v, r, C1, τ1, H1, he, hq0, hrel, hst, hstep⟩
    obtain ⟨ids, r', Hn, hpub, hnd, hlen, hkeep, hQ⟩ := hq r H1 hq0
    have prall : ∀ b, b < w.heap.size → PrCall τ [] w b := fun b hb => ⟨hb, by rintro ⟨id, l, h, _⟩; simp at h⟩
    have hheap : ∀ b, b < w.heap.size → w'.heap[b]? = w.heap[b]? := fun b hb => hst.fr.prot b (prall b hb)
    have hnew : ∀ id l, id < H1.length → τ1 id = some l → w.heap.size ≤ l.b := fun id l h1 h2 => by
      rcases Nat.lt_or_ge l.b w.heap.size with h3 | h3
      · exact absurd (prall _ h3) (hst.own _ ⟨id, l, h1, h2, rfl⟩)
      · exact h3
    let τ2 : Nat → Option Loc := fun i => if i < H.length then τ i else match ids[i - H.length]? with
      | some id => τ1 id
      | none => none
    have hτ : ∀ i, i < H.length → τ2 i = τ i := fun i hi => by simp only [τ2, if_pos hi]
    have hτn : ∀ k id, ids[k]? = some id → τ2 (H.length + k) = τ1 id := fun k id hk => by
      simp only [τ2, if_neg (by omega : ¬ H.length + k < H.length), Nat.add_sub_cancel_left, hk]
    have hidlt : ∀ k id, ids[k]? = some id → id < H1.length := fun k id hk => by
      obtain ⟨_, esz, es, h1, _⟩ := hkeep k id hk
      exact (List.getElem?_eq_some_iff.1 h1).1
    have getn : ∀ k, (H ++ Hn)[H.length + k]? = Hn[k]? := fun k => by rw [List.getElem?_append_right (by omega), Nat.add_sub_cancel_left]
    have hC2 : ∀ b, b < w.heap.size → commit C1 τ1 H1 ids b = C b := fun b hb => by
      rw [commit_other fun id l h1 _ h2 h3 => by have := hnew id l h1 h2; omega]
      exact hstep.old b hb
    have step : Step C τ H w (commit C1 τ1 H1 ids) τ2 (H ++ Hn) w' := by
      refine ⟨fun b => Nat.le_trans (hstep.le b) (commit_le hst.wf b), fun b i hi => hstep.cell b i hi, fun id o ho => ?_, hstep.grow, hC2⟩
      have hi := (List.getElem?_eq_some_iff.1 ho).1
      exact ⟨o, by rw [List.getElem?_append_left hi]; exact ho, by rw [hτ id hi]; exact o.after_refl _⟩
    -- an index of the new heap: the caller's, or one that is handed over
    have split : ∀ i, i < (H ++ Hn).length → i < H.length ∨ ∃ k id, i = H.length + k ∧ ids[k]? = some id := fun i hi => by
      rcases Nat.lt_or_ge i H.length with h1 | h1
      · exact .inl h1
      · have hk : i - H.length < ids.length := by rw [List.length_append] at hi; omega
        exact .inr ⟨i - H.length, ids[i - H.length], by omega, List.getElem?_eq_getElem hk⟩
    refine ⟨v, r', commit C1 τ1 H1 ids, τ2, H ++ Hn, he, hQ, pub_rel hst.wf (fun k id hk => ⟨fun esz es he => ⟨es, by rw [getn, (hkeep k id hk).1]; exact he, rfl⟩, hτn k id hk⟩) hpub hrel, ⟨⟨?_, ?_, ?_, ?_, ?_, ?_⟩, ?_, ?_, ?_⟩, step⟩
    · intro i o ho
      rcases split i (List.getElem?_eq_some_iff.1 ho).1 with h1 | ⟨k, id, rfl, hk⟩
      · rw [List.getElem?_append_left h1] at ho; exact hw.ok i o ho
      · rw [getn, (hkeep k id hk).1] at ho; exact hst.wf.ok id o ho
    · intro i o ho ht
      rcases split i (List.getElem?_eq_some_iff.1 ho).1 with h1 | ⟨k, id, rfl, hk⟩
      · rw [List.getElem?_append_left h1] at ho; rw [hτ i h1] at ht; exact hw.virt i o ho ht
      · rw [getn, (hkeep k id hk).1] at ho; rw [hτn k id hk] at ht; exact hst.wf.virt id o ho ht
    · intro i o l ho ht
      rcases split i (List.getElem?_eq_some_iff.1 ho).1 with h1 | ⟨k, id, rfl, hk⟩
      · rw [List.getElem?_append_left h1] at ho; rw [hτ i h1] at ht
        exact (hw.objs i o l ho ht).mono step (hheap _ (hw.locLt h1 ht))
      · obtain ⟨g1, esz, es, g2, g3⟩ := hkeep k id hk
        rw [getn, g1, g2] at ho; cases ho
        rw [hτn k id hk] at ht
        obtain ⟨a1, cells, elem, fz, a2, a3, a4, a5⟩ := hst.wf.objs id _ l g2 ht
        refine ⟨a1, cells, elem, fz, a2, a3, a4, fun i j e d hi hd => ?_⟩
        obtain ⟨x, hx1, hx2⟩ := a5 i j e d hi hd
        exact ⟨x, hx1, .rd ((hx2.pure (pureEs_get g3 hi hd)).mono (commit_le hst.wf) (fun _ _ _ => rfl))⟩
    · intro i l hi ht
      rcases split i hi with h1 | ⟨k, id, rfl, hk⟩
      · rw [hτ i h1] at ht
        rw [hC2 _ (hw.locLt h1 ht)]; exact hw.comm i l h1 ht
      · rw [hτn k id hk] at ht
        have hlt := hidlt k id hk
        rw [commit_other fun id' l' h1 h2 h3 h4 => h2 (by
          have := hst.wf.inj id' id l' l h1 hlt h3 ht h4
          subst this; exact List.mem_of_getElem? hk)]
        exact hst.wf.comm id l hlt ht
    · intro i j li lj hi hj hti htj hb
      rcases split i hi with h1 | ⟨k, id, rfl, hk⟩ <;> rcases split j hj with h2 | ⟨k', id', rfl, hk'⟩
      · rw [hτ i h1] at hti; rw [hτ j h2] at htj; exact hw.inj i j li lj h1 h2 hti htj hb
      · rw [hτ i h1] at hti; rw [hτn k' id' hk'] at htj
        have := hw.locLt h1 hti; have := hnew id' lj (hidlt k' id' hk') htj; omega
      · rw [hτn k id hk] at hti; rw [hτ j h2] at htj
        have := hw.locLt h2 htj; have := hnew id li (hidlt k id hk) hti; omega
      · rw [hτn k id hk] at hti; rw [hτn k' id' hk'] at htj
        have e := hst.wf.inj id id' li lj (hidlt k id hk) (hidlt k' id' hk') hti htj hb
        subst e
        have hki := (List.getElem?_eq_some_iff.1 hk)
        have hki' := (List.getElem?_eq_some_iff.1 hk')
        have hne := List.pairwise_iff_getElem.1 hnd
        rcases Nat.lt_trichotomy k k' with h3 | h3 | h3
        · exact absurd (hki.2.trans hki'.2.symm) (hne k k' hki.1 hki'.1 h3)
        · omega
        · exact absurd (hki'.2.trans hki.2.symm) (hne k' k hki'.1 hki.1 h3)
    · intro b hb
      by_cases h1 : ∃ id l, id < H1.length ∧ τ1 id = some l ∧ l.b = b
      · obtain ⟨id, l, h1, h2, rfl⟩ := h1
        exact hst.wf.locLt h1 h2
      · rw [commit_other fun id l g1 _ g2 g3 => h1 ⟨id, l, g1, g2, g3⟩] at hb
        exact hst.wf.lt b hb
    · exact ⟨hst.fr.os, hst.fr.tape, hst.fr.output, hst.fr.size, fun b hb => hheap b hb.1⟩
    · rintro b ⟨i, l, hi, ht, rfl⟩ hp
      rcases split i hi with h1 | ⟨k, id, rfl, hk⟩
      · rw [hτ i h1] at ht; exact hp.2 ⟨i, l, h1, ht, rfl⟩
      · rw [hτn k id hk] at ht
        have := hnew id l (hidlt k id hk) ht; have := hp.1; omega
    · exact fun b hb => hb.1
  unfold CallsX at hc ⊢
  split at hc
  · exact Calls.mono hc fun e w' hh => fin e w' hh
  · exact fin _ _ hc
  · exact hc

theorem Pub.any {H1 : List AObj} {n m : Nat} {v r : AVal} (h : Pub H1 n [] v r) : Pub H1 m [] v r := by
  induction h with
  | closed v h => exact .closed v h
  | frz id ep off len esz es ho hep hp hid => exact .frz id ep off len esz es ho hep hp hid
  | keep id ep off len k hk => simp at hk
  | dead v => exact .dead v
  | keepP id ep idx fld k hk => simp at hk
  | tuple vs rs hl h ih => exact .tuple vs rs hl ih

/-- Results that name no object. -/
theorem ACalls.lift0 {f : FuncId} {args : List AVal} {R : AVal → Prop} (ha : args.all AVal.closed = true) (h : ACalls P f args [] (fun r H1 => ∃ r', Pub H1 0 [] r r' ∧ R r')) :
    ACalls P f args H (fun r H' => R r ∧ H' = H) :=
  h.lift ha fun r H1 ⟨r', hp, hR⟩ => ⟨[], r', [], hp.any, List.nodup_nil, rfl, fun k id h => by simp at h, hR, by simp⟩

/-- One value that names no object: how a contract is stated and used. -/
theorem ACalls.pure {f : FuncId} {args : List AVal} {R : AVal} (ha : args.all AVal.closed = true) (h : ACalls P f args [] (fun r H1 => Pub H1 0 [] r R)) :
    ACalls P f args H (fun r H' => r = R ∧ H' = H) :=
  ACalls.lift0 (R := fun r => r = R) ha (h.mono fun _ _ hp => ⟨R, hp, rfl⟩)

theorem pubB {H1 : List AObj} {n : Nat} {ids : List Nat} {b c : Bool} (h : b = c) : Pub H1 n ids (.bool b) (.bool c) := by subst h; exact .closed _ rfl
theorem pubI {H1 : List AObj} {n : Nat} {ids : List Nat} {k : IntKind} {b c : Int} (h : b = c) : Pub H1 n ids (.int k b) (.int k c) := by subst h; exact .closed _ rfl

/-- A contract as it is used: its one value, the heap as it was. -/
theorem ACalls.use {f : FuncId} {args : List AVal} {R : AVal} {Q : AVal → List AObj → Prop} (h : ACalls P f args H (fun r H' => r = R ∧ H' = H)) (hq : Q R H) : ACalls P f args H Q := h.ret hq
end

/-- The string of these bytes. -/
def bs (l : List Nat) : ByteArray := ⟨(l.map UInt8.ofNat).toArray⟩

theorem bs_nil : (bs []).data.toList = [] := rfl

theorem wrapI (n : Int) (h1 : -9223372036854775808 ≤ n) (h2 : n ≤ 9223372036854775807) : IntKind.i64.wrap n = n := wrap_i64_id h1 h2


/-! ### The slots at a loop's head -/

/-- The last n of N slots: the named ones hold what is said, the others hold whatever. -/
def mkSl (N : Nat) : Nat → List (Nat × AVal) → (Nat → AVal) → List AVal
  | 0, _, _ => []
  | n + 1, [], d => d n :: mkSl N n [] d
  | n + 1, (j, v) :: r, d => match Nat.beq (j + (n + 1)) N with
    | true => v :: mkSl N n r d
    | false => d n :: mkSl N n ((j, v) :: r) d

/-- There are n slots, and these hold this. -/
def Sv (n : Nat) (live : List (Nat × AVal)) (ρ : List AVal) : Prop := ∃ d, ρ = mkSl n n live d

def SvAll (ρ : List AVal) : List (Nat × AVal) → Prop
  | [] => True
  | (j, v) :: r => getT ρ j = v ∧ SvAll ρ r

theorem mkSl_eq (N : Nat) : ∀ (n : Nat) (live : List (Nat × AVal)) (l ρ : List AVal), n ≤ N → (∀ k, getT l k = getT ρ (N - n + k)) → l.length = n → SvAll ρ live → l = mkSl N n live fun m => getT ρ (N - (m + 1))
  | 0, live, l, ρ, _, _, hl, _ => by
    cases l with
    | nil => cases live <;> rfl
    | cons x l => simp at hl
  | n + 1, live, [], ρ, _, _, hl, _ => by simp at hl
  | n + 1, [], x :: l, ρ, hn, h, hl, hs => by
    have h0 := h 0
    simp only [getT, Nat.add_zero] at h0
    subst h0
    rw [mkSl, ← mkSl_eq N n [] l ρ (by omega) (fun k => by have := h (k + 1); simp only [getT] at this; rw [this]; congr 1; omega) (by simpa using hl) hs]
  | n + 1, (j, v) :: r, x :: l, ρ, hn, h, hl, hs => by
    have h0 := h 0
    simp only [getT, Nat.add_zero] at h0
    subst h0
    have ht : ∀ k, getT l k = getT ρ (N - n + k) := fun k => by have := h (k + 1); simp only [getT] at this; rw [this]; congr 1; omega
    rw [mkSl]
    split
    · rename_i hb
      have hj : N - (n + 1) = j := by have := Nat.eq_of_beq_eq_true hb; omega
      rw [← mkSl_eq N n r l ρ (by omega) ht (by simpa using hl) hs.2, hj, hs.1]
    · rw [← mkSl_eq N n ((j, v) :: r) l ρ (by omega) ht (by simpa using hl) hs]

theorem Sv.intro {n : Nat} {live : List (Nat × AVal)} {ρ : List AVal} (hl : ρ.length = n) (h : SvAll ρ live) : Sv n live ρ := ⟨_, mkSl_eq n n live ρ ρ (Nat.le_refl _) (fun k => by rw [Nat.sub_self, Nat.zero_add]) hl h⟩

def SvPub (H : List AObj) (ids : List Nat) (ρ : List AVal) : List (Nat × AVal) → Prop
  | [] => True
  | (j, v) :: r => Pub H 0 ids (getT ρ j) v ∧ SvPub H ids ρ r

theorem mkSl_pub {H : List AObj} {ids : List Nat} (N : Nat) : ∀ (n : Nat) (live : List (Nat × AVal)) (l ρ : List AVal), n ≤ N → (∀ k, getT l k = getT ρ (N - n + k)) → l.length = n → SvPub H ids ρ live → gpS H ids l (mkSl N n live fun _ => .undef)
  | 0, live, l, ρ, _, _, hl, _ => by
    cases l with
    | nil => cases live <;> trivial
    | cons x l => simp at hl
  | n + 1, live, [], ρ, _, _, hl, _ => by simp at hl
  | n + 1, [], x :: l, ρ, hn, h, hl, hs => by
    rw [mkSl]
    exact ⟨.dead _, mkSl_pub N n [] l ρ (by omega) (fun k => by have := h (k + 1); simp only [getT] at this; rw [this]; congr 1; omega) (by simpa using hl) hs⟩
  | n + 1, (j, v) :: r, x :: l, ρ, hn, h, hl, hs => by
    have h0 := h 0
    simp only [getT, Nat.add_zero] at h0
    have ht : ∀ k, getT l k = getT ρ (N - n + k) := fun k => by have := h (k + 1); simp only [getT] at this; rw [this]; congr 1; omega
    rw [mkSl]
    split
    · rename_i hb
      have hj : N - (n + 1) = j := by have := Nat.eq_of_beq_eq_true hb; omega
      exact ⟨by rw [h0, hj]; exact hs.1, mkSl_pub N n r l ρ (by omega) ht (by simpa using hl) hs.2⟩
    · exact ⟨.dead _, mkSl_pub N n ((j, v) :: r) l ρ (by omega) ht (by simpa using hl) hs⟩

/-- A round's end: nothing is dropped. -/
theorem Gp.keep {n0 n : Nat} {live : List (Nat × AVal)} {ρ : List AVal} {H : List AObj} {I : List AVal → List AObj → Prop} (hl : ρ.length = n) (h : SvAll ρ live) (hI : ∀ ρ1, Sv n live ρ1 → I ρ1 H) : Gp n0 ρ H I :=
  .inl (hI ρ (Sv.intro hl h))

/-- A round's end: the objects 'ids' are kept. -/
theorem Gp.some {n : Nat} {live : List (Nat × AVal)} {ρ : List AVal} {H H1 : List AObj} {I : List AVal → List AObj → Prop} (ids : List Nat) (hnd : ids.Nodup) (ho : gpO H ids ids H1) (hl : ρ.length = n) (h : SvPub H ids ρ live) (hI : ∀ ρ1, Sv n live ρ1 → I ρ1 H1) : Gp 0 ρ H I :=
  .inr ⟨rfl, ids, mkSl n n live fun _ => .undef, H1, hnd, ho, mkSl_pub n n live ρ ρ (Nat.le_refl _) (fun k => by rw [Nat.sub_self, Nat.zero_add]) hl h, hI _ ⟨_, rfl⟩⟩

/-- A round's end: no object is kept. -/
theorem Gp.none {n : Nat} {live : List (Nat × AVal)} {ρ : List AVal} {H : List AObj} {I : List AVal → List AObj → Prop} (hl : ρ.length = n) (h : SvPub H [] ρ live) (hI : ∀ ρ1, Sv n live ρ1 → I ρ1 []) : Gp 0 ρ H I :=
  Gp.some (H1 := []) [] List.nodup_nil trivial hl h hI

/-- A round's end: one object is kept. -/
theorem Gp.one {n : Nat} {live : List (Nat × AVal)} {ρ : List AVal} {H : List AObj} {I : List AVal → List AObj → Prop} (id : Nat) (sz : Nat) (es : List (List AVal)) (ho : H[id]? = .some (.arr sz es)) (hp : pureEs es = true) (hl : ρ.length = n) (h : SvPub H [id] ρ live) (hI : ∀ ρ1, Sv n live ρ1 → I ρ1 [.arr sz es]) : Gp 0 ρ H I :=
  Gp.some (H1 := [.arr sz es]) [id] (by simp) (by exact ⟨⟨_, ho, .same _ _ hp⟩, trivial⟩) hl h hI

/-- Published as it is. -/
theorem pubEq {H1 : List AObj} {n : Nat} {ids : List Nat} {v r : AVal} (h : v = r) (hr : r.closed = true) : Pub H1 n ids v r := by subst h; exact .closed _ hr
theorem pubSl {H1 : List AObj} {n : Nat} {ids : List Nat} {id ep ep' off len len' m k : Nat} (hk : ids[k]? = some id) (hm : m = n + k) (e1 : ep = ep') (e2 : len = len') : Pub H1 n ids (.sl id ep off len) (.sl m ep' off len') := by
  subst hm e1 e2; exact .keep _ _ _ _ _ hk
theorem slEq {id ep ep' off len len' : Nat} (h1 : ep = ep') (h2 : len = len') : AVal.sl id ep off len = .sl id ep' off len' := by subst h1 h2; rfl
theorem intEq {k : IntKind} {a b : Int} (h : a = b) : AVal.int k a = .int k b := by subst h; rfl

/-- Regrouping at a marked place: no object is kept. -/
theorem Ghost.none {n : Nat} {live : List (Nat × AVal)} {ρ : List AVal} {H : List AObj} {I : List AVal → List AObj → Prop} (hl : ρ.length = n) (h : SvPub H [] ρ live) (hI : ∀ ρ1, Sv n live ρ1 → I ρ1 []) : Ghost 0 ρ H I := ⟨Gp.none hl h hI⟩
/-- Regrouping at a marked place: some objects are kept. -/
theorem Ghost.some {n : Nat} {live : List (Nat × AVal)} {ρ : List AVal} {H H1 : List AObj} {I : List AVal → List AObj → Prop} (ids : List Nat) (hnd : ids.Nodup) (ho : gpO H ids ids H1) (hl : ρ.length = n) (h : SvPub H ids ρ live) (hI : ∀ ρ1, Sv n live ρ1 → I ρ1 H1) : Ghost 0 ρ H I := ⟨Gp.some ids hnd ho hl h hI⟩
end Go.AW
