/-
  An abstract machine over the model, the code of functions on it, and their contracts: what the claim needs.
  No condition: definitions, plain laws, contracts over any program that has this code.
-/
import Derived.Test.YtgmobjimfalhoaaZ6
set_option linter.all false
namespace Go.AW
variable [Draws]
attribute [local irreducible] ACalls
theorem Row_frz {P : Program} (F : F_warehousebase_Row P) (e1 e2 : Bool) (cs : List Col) (l : List Int) (i : Int) (hc : cs.length ≤ 1000) (hi : 0 ≤ i ∧ i ≤ 1000000) (H : List AObj) :
    ACalls P F.id [.list e1 3 (cC cs), .list e2 1 (iC l), .int .i64 i] H (fun r H' => r = .list false 3 (vC (rowC cs l i)) ∧ H' = H) :=
  ACalls.frz1 (by simp [AVal.closed, AVal.isPure]) (Row_raw F e1 e2 cs l i hc hi) (by rw [vC_length, rowC_length]) (pureEs_vC _)

def cntG (l : List Int) (i : Int) : Int := if (atV l (5 * i + 4)).tmod 5 = 0 then 1 + ((atV l (5 * i + 4)).tdiv 5).tmod 3 else 1

def entG (cs : List Col) (l : List Int) (i : Nat) : Ent := ⟨rowC cs l (5 * (i : Int)), cntG l i⟩

def rowsG (cs : List Col) (l : List Int) (n : Nat) : List Ent := (List.range n).map (entG cs l)

theorem rowsG_length (cs : List Col) (l : List Int) (n : Nat) : (rowsG cs l n).length = n := by simp [rowsG]

theorem rowsG_snoc (cs : List Col) (l : List Int) (n : Nat) : rowsG cs l (n + 1) = rowsG cs l n ++ [entG cs l n] := by simp [rowsG, List.range_succ]

theorem atV_nn (l : List Int) (i : Int) : 0 ≤ atV l i ∧ atV l i ≤ 200000 := by
  have h0 : 0 ≤ and64 i 65535 ∧ and64 i 65535 ≤ 65535 := by rw [and_ffff]; omega
  unfold atV
  split
  · omega
  · rename_i h
    generalize hx : l.getD ((and64 i 65535).tmod l.length).toNat 0 = x
    have h1 : 0 ≤ and64 x 65535 ∧ and64 x 65535 ≤ 65535 := by rw [and_ffff]; omega
    have h2 : 0 ≤ (and64 i 65535).tdiv l.length ∧ (and64 i 65535).tdiv l.length ≤ 65535 := by
      have e : (and64 i 65535).tdiv l.length = (and64 i 65535) / (l.length : Int) := Int.tdiv_eq_ediv_of_nonneg h0.1
      rw [e]
      refine ⟨Int.ediv_nonneg h0.1 (by omega), ?_⟩
      exact Int.le_trans (Int.ediv_le_self _ h0.1) h0.2
    rw [wrapI ((and64 i 65535).tdiv l.length) (by omega) (by omega), wrapI _ (by omega) (by omega)]
    omega

theorem cntG_pos (l : List Int) (i : Int) : 1 ≤ cntG l i ∧ cntG l i ≤ 3 := by
  have h := atV_nn l (5 * i + 4)
  unfold cntG
  split
  · have e1 : (atV l (5 * i + 4)).tdiv 5 = atV l (5 * i + 4) / 5 := Int.tdiv_eq_ediv_of_nonneg h.1
    have e2 : (atV l (5 * i + 4) / 5).tmod 3 = (atV l (5 * i + 4) / 5) % 3 := Int.tmod_eq_emod_of_nonneg (by omega)
    rw [e1, e2]; omega
  · omega

set_option maxRecDepth 20000 in
theorem Rows_spec {P : Program} (F : F_warehousebase_Rows P) (e1 e2 : Bool) (cs : List Col) (l : List Int) (n : Nat) (hc : cs.length ≤ 1000) (hn : n ≤ 1000) (H : List AObj) :
    ACalls P F.id [.list e1 3 (cC cs), .list e2 1 (iC l), .int .i64 n] H (fun r H' => r = .list false 2 (eC (norP (rowsG cs l n)).1) ∧ H' = H) := by
  refine ACalls.pure rfl (acalls_of_body F.has ?_)
  conv => whnf
  refine ⟨fun m ρ H1 => ∃ k : Nat, k + m = n ∧ H1 = [.arr 2 (eC (rowsG cs l k))] ∧ Sv 46 [(0, .list e1 3 (cC cs)), (1, .list e2 1 (iC l)), (2, .int .i64 n), (7, .sl 0 k 0 k), (8, .int .i64 k)] ρ, n, [(7, 2)], ?_, ?_⟩
  · exact ⟨0, by omega, rfl, Sv.intro rfl ⟨rfl, rfl, rfl, rfl, rfl, trivial⟩⟩
  rintro m ρ H1 ⟨k, hk, rfl, d, rfl⟩
  (conv => whnf); refine recA (fun hlt => ?_) (fun hlt => ?_)
  · simp at hlt
    have ew : IntKind.i64.wrap (IntKind.i64.wrap (5 * (k : Int)) + 4) = 5 * (k : Int) + 4 := by rw [wrapI (5 * (k : Int)) (by omega) (by omega), wrapI _ (by omega) (by omega)]
    have ew2 : IntKind.i64.wrap (5 * (k : Int)) = 5 * (k : Int) := wrapI _ (by omega) (by omega)
    have hat := atV_nn l (5 * (k : Int) + 4)
    have hcp := cntG_pos l k
    have hT : ∀ c, cntG l k = c → eC (rowsG cs l (k + 1)) = eC (rowsG cs l k) ++ [[.list false 3 (vC (rowC cs l (5 * (k : Int)))), .int .i64 c]] := fun c h => by rw [rowsG_snoc, eC_append, ← h]; rfl
    have hL : ∀ c, (eC (rowsG cs l k) ++ [[AVal.list false 3 (vC (rowC cs l (5 * (k : Int)))), .int .i64 c]]).length = k + 1 := fun c => by rw [List.length_append, eC_length, rowsG_length]; rfl
    have hrl : (eC (rowsG cs l k)).length = k := by rw [eC_length, rowsG_length]
    (conv => whnf); refine ACalls.use (At_spec F.warehousebase_At e2 l _ _) ?_
    rw [ew]
    (conv => whnf); refine And.intro (by decide) ?_
    (conv => whnf); refine recA (fun h5 => ?_) (fun h5 => ?_)
    · simp at h5
      (conv => whnf); refine And.intro (by decide) ?_
      (conv => whnf); refine And.intro (by decide) ?_
      (conv => whnf); refine ACalls.use (Row_frz F.warehousebase_Row e1 e2 cs l _ hc (by rw [ew2]; omega) _) ?_
      rw [ew2]
      have hce : cntG l k = IntKind.i64.wrap (1 + (IntKind.i64.wrap ((atV l (5 * (k : Int) + 4)).tdiv 5)).tmod 3) := by
        have e1 : (atV l (5 * (k : Int) + 4)).tdiv 5 = atV l (5 * (k : Int) + 4) / 5 := Int.tdiv_eq_ediv_of_nonneg hat.1
        have e2 : (atV l (5 * (k : Int) + 4) / 5).tmod 3 = (atV l (5 * (k : Int) + 4) / 5) % 3 := Int.tmod_eq_emod_of_nonneg (by omega)
        rw [e1, wrapI (atV l (5 * (k : Int) + 4) / 5) (by omega) (by omega), e2, wrapI _ (by omega) (by omega), cntG, if_pos h5, e1, e2]
      (conv => whnf); refine recT (by rw [hrl]; exact Nat.beq_refl _) ?_
      (conv => whnf); refine And.intro (⟨roomMul (by simp [rowsG_length]; omega) (by omega), roomB_le (by simp [rowsG_length]; omega), rfl, hrl.symm⟩) ?_
      conv => whnf
      refine ⟨m - 1, by omega, Gp.one 0 2 (eC (rowsG cs l (k + 1))) (by rw [hT _ hce]; rfl) (pureEs_eC _) rfl ?_ fun ρ1 h => ⟨k + 1, by omega, rfl, h⟩⟩
      exact ⟨clL .., clL .., .closed _ rfl, pubSl (k := 0) rfl rfl (hL _) (hL _), pub_int (wrapI _ (by omega) (by omega)), trivial⟩
    · simp at h5
      (conv => whnf); refine ACalls.use (Row_frz F.warehousebase_Row e1 e2 cs l _ hc (by rw [ew2]; omega) _) ?_
      rw [ew2]
      have hce : cntG l k = 1 := by rw [cntG, if_neg h5]
      (conv => whnf); refine recT (by rw [hrl]; exact Nat.beq_refl _) ?_
      (conv => whnf); refine And.intro (⟨roomMul (by simp [rowsG_length]; omega) (by omega), roomB_le (by simp [rowsG_length]; omega), rfl, hrl.symm⟩) ?_
      conv => whnf
      refine ⟨m - 1, by omega, Gp.one 0 2 (eC (rowsG cs l (k + 1))) (by rw [hT _ hce]; rfl) (pureEs_eC _) rfl ?_ fun ρ1 h => ⟨k + 1, by omega, rfl, h⟩⟩
      exact ⟨clL .., clL .., .closed _ rfl, pubSl (k := 0) rfl rfl (hL _) (hL _), pub_int (wrapI _ (by omega) (by omega)), trivial⟩
  · simp at hlt
    have hkn : k = n := by omega
    subst hkn
    conv => whnf
    refine Ghost.none (n := 46) (live := [(7, .list false 2 (eC (rowsG cs l k)))]) rfl ⟨pubF rfl (by rw [eC_length, rowsG_length]) (by rw [eC_length, rowsG_length]) (pureEs_eC _), trivial⟩ ?_
    rintro ρ ⟨d, rfl⟩
    (conv => whnf); refine ACalls.use (ref6_Normalize_w F.warehouseref6_Normalize false (rowsG cs l k) (by rw [rowsG_length]; omega) _) ?_
    conv => whnf
    exact .closed _ rfl

def cs18 : List Col := [⟨bs [97], 2, true⟩, ⟨bs [98], 3, false⟩, ⟨bs [99], 2, true⟩]

def tab18 (l : List Int) (n : Nat) : List Ent := (norP (rowsG cs18 l n)).1

theorem table18_spec {P : Program} (F : F_warehouselaw18_table P) (l : List Int) (n : Nat) (hn : n ≤ 1000) (H : List AObj) :
    ACalls P F.id [.list false 1 (iC l), .int .i64 n] H (fun r H' => r = .list false 2 (eC (tab18 l n)) ∧ H' = H) := by
  refine ACalls.pure rfl (acalls_of_body F.has ?_)
  (conv => whnf); refine ACalls.use (Rows_spec F.warehousebase_Rows true false cs18 l n (by decide) hn _) ?_
  conv => whnf
  exact .closed _ rfl

def plc18 (n : Int) : List Int := [[], [0], [1], [2], [0, 1], [1, 2], [2, 0], [1, 7]].getD (and64 n 7).toNat []

theorem plc18_len (n : Int) : (plc18 n).length ≤ 2 := by
  obtain ⟨k, hk, e⟩ := and7 n
  rw [plc18, e]
  match k, hk with
  | 0, _ => decide
  | 1, _ => decide
  | 2, _ => decide
  | 3, _ => decide
  | 4, _ => decide
  | 5, _ => decide
  | 6, _ => decide
  | 7, _ => decide
  | k + 8, h => omega

theorem wkTF (x y : Bool) (h : y = true → x = true) (l : List Int) : WkD (.list x 1 (iC l)) (.list y 1 (iC l)) := by
  refine .list x y 1 _ _ h rfl (fun i e f h1 h2 => by rw [h1] at h2; cases h2; rfl) (fun i j f c h1 h2 => ?_) (fun i j e f d c h1 h2 h3 h4 => by rw [h1] at h2; cases h2; rw [h3] at h4; cases h4; exact .refl _)
  exact AVal.isCell_of_isPure (pureEs_get (pureEs_iC l) h1 h2)

def plcC : List (List AVal) := [[.nil], [.list true 1 (iC [0])], [.list true 1 (iC [1])], [.list true 1 (iC [2])], [.list true 1 (iC [0, 1])], [.list true 1 (iC [1, 2])], [.list true 1 (iC [2, 0])], [.list true 1 (iC [1, 7])]]

theorem plcC_at (n : Int) : ∃ X : AVal, plcC[(and64 n 7).toNat]? = some [X] ∧ X.closed = true ∧ WkD X (.list false 1 (iC (plc18 n))) := by
  obtain ⟨k, hk, e⟩ := and7 n
  rw [plc18, e]
  rcases k with _ | _ | _ | _ | _ | _ | _ | _ | k
  · exact ⟨_, rfl, rfl, .nil _ _⟩
  · exact ⟨_, rfl, rfl, wkTF _ _ (by simp) [0]⟩
  · exact ⟨_, rfl, rfl, wkTF _ _ (by simp) [1]⟩
  · exact ⟨_, rfl, rfl, wkTF _ _ (by simp) [2]⟩
  · exact ⟨_, rfl, rfl, wkTF _ _ (by simp) [0, 1]⟩
  · exact ⟨_, rfl, rfl, wkTF _ _ (by simp) [1, 2]⟩
  · exact ⟨_, rfl, rfl, wkTF _ _ (by simp) [2, 0]⟩
  · exact ⟨_, rfl, rfl, wkTF _ _ (by simp) [1, 7]⟩
  · omega

theorem places18_spec {P : Program} (F : F_warehouselaw18_places P) (n : Int) (H : List AObj) :
    ACalls P F.id [.int .i64 n] H (fun r H' => r = .list false 1 (iC (plc18 n)) ∧ H' = H) := by
  obtain ⟨X, hX, hcl, hwk⟩ := plcC_at n
  have hnn : 0 ≤ and64 n 7 := by rw [and_7]; omega
  refine ACalls.weakRD (Q := fun r H' => r = X ∧ H' = H) (ACalls.pure rfl (acalls_of_body F.has ?_)) (by rintro r H' ⟨rfl, rfl⟩; exact ⟨_, hwk, rfl, rfl⟩)
  conv => whnf
  refine And.intro hnn ?_
  (conv => whnf); refine recO (hX) ?_
  conv => whnf
  exact .closed _ hcl

end Go.AW

namespace Go.AW
variable [Draws]
attribute [local irreducible] ACalls
theorem wsum_append (φ : List V → Int) : ∀ (a b : List Ent), wsum φ (a ++ b) = wsum φ a + wsum φ b
  | [], b => by simp [wsum]
  | e :: a, b => by rw [List.cons_append, wsum, wsum, wsum_append φ a b]; omega

theorem wsum_srtM (φ : List V → Int) : ∀ (n : Nat) (l : List Ent), wsum φ (srtM n l) = wsum φ l
  | 0, _ => rfl
  | n + 1, l => by
    rw [srtM]
    split
    · rfl
    · rw [wsum_mrg, wsum_srtM φ n, wsum_srtM φ n, ← wsum_append, List.take_append_drop]

theorem wsum_sumP {l : List Ent} (h : (sumP l).2 = 0) (φ : List V → Int) : wsum φ (sumP l).1 = wsum φ l := by
  unfold sumP resP at h ⊢
  split
  · rw [wsum_nz, wsum_srtM]
  · rename_i h1; rw [if_neg h1] at h; cases h

theorem sumP_mem {l : List Ent} {e : Ent} (h : e ∈ (sumP l).1) : e.cnt ≠ 0 ∧ ∃ x ∈ l, x.row = e.row := by
  unfold sumP resP at h
  split at h
  · obtain ⟨h1, h2⟩ := List.mem_filter.1 h
    exact ⟨by simpa [nzB] using h2, mem_srtM _ _ e h1⟩
  · cases h

theorem cntL_pos : ∀ (l : List Ent), (∀ e ∈ l, 0 < e.cnt) → ∀ r, 0 ≤ cntL l r
  | [], _, r => by simp [cntL]
  | e :: l, h, r => by
    have h1 := cntL_pos l (fun x hx => h x (List.mem_cons_of_mem _ hx)) r
    have h2 := h e (List.mem_cons_self ..)
    rw [cntL]; split <;> omega

theorem tab18_ok (l : List Int) (n : Nat) : bagB (tab18 l n) = 0 ∧ (∀ e ∈ tab18 l n, e.row.length = 3) ∧ (∀ e ∈ tab18 l n, 0 < e.cnt) := by
  have hg := norP_good (rowsG cs18 l n)
  have hmem : ∀ e ∈ tab18 l n, e.cnt ≠ 0 ∧ (∃ x ∈ rowsG cs18 l n, x.row = e.row) ∧ 0 ≤ cntL (tab18 l n) e.row := by
    intro e he
    unfold tab18 norP at he
    split at he
    · cases he
    · rename_i h
      have et : tab18 l n = (sumP (rowsG cs18 l n)).1 := by rw [tab18, norP, if_neg h]
      rw [et]
      obtain ⟨h1, h2⟩ := sumP_mem he
      refine ⟨h1, h2, ?_⟩
      by_cases h0 : (sumP (rowsG cs18 l n)).2 = 0
      · rw [sumP_cnt h0]
        exact cntL_pos _ (fun x hx => by
          obtain ⟨i, _, rfl⟩ := List.mem_map.1 hx
          have := cntG_pos l i
          show 0 < cntG l i
          omega) _
      · have : (sumP (rowsG cs18 l n)).1 = [] := by
          unfold sumP resP at h0 ⊢
          split at h0
          · exact absurd rfl h0
          · rename_i h3; rw [if_neg h3]
        rw [this] at he; cases he
  refine ⟨hg.1, fun e he => ?_, fun e he => ?_⟩
  · obtain ⟨_, ⟨x, hx, hxe⟩, _⟩ := hmem e he
    obtain ⟨i, _, rfl⟩ := List.mem_map.1 hx
    rw [← hxe]
    exact rowC_length _ _ _
  · obtain ⟨h1, _, h3⟩ := hmem e he
    have h4 : cntL (tab18 l n) e.row = e.cnt := cntL_mem (bag_srt hg.1) he
    omega

theorem wsum_const (φ : List V → Int) (c : Int) : ∀ (l : List Ent), (∀ y ∈ l, y.cnt = 1 ∧ φ y.row = c) → wsum φ l = c * l.length
  | [], _ => by simp [wsum]
  | y :: l, h => by
    obtain ⟨h1, h2⟩ := h y (List.mem_cons_self ..)
    rw [wsum, wsum_const φ c l fun z hz => h z (List.mem_cons_of_mem _ hz), h1, h2, List.length_cons, Int.natCast_add, Int.mul_add]
    simp; omega

end Go.AW

namespace Go.AW
variable [Draws]
attribute [local irreducible] ACalls
theorem expP_of {b : List Ent} (hb : bagB b = 0) (hp : ∀ e ∈ b, 0 < e.cnt) (hl : (expL b).length ≤ 4096) : expP b = (expL b, 0) := by
  have hpos : b.all posE = true := List.all_eq_true.2 fun e he => by simpa [posE] using hp e he
  rw [expP, if_neg (by simp [hb]), if_pos hpos, if_neg (by rw [szW_bag hb hpos]; omega)]

end Go.AW

namespace Go.AW
variable [Draws]
attribute [local irreducible] ACalls
theorem expL_wsum : ∀ (b : List Ent), (∀ e ∈ b, 0 < e.cnt) → ((expL b).length : Int) = wsum (fun _ => 1) b
  | [], _ => rfl
  | e :: b, h => by
    have h1 := h e (List.mem_cons_self ..)
    have ih := expL_wsum b fun x hx => h x (List.mem_cons_of_mem _ hx)
    rw [expL_cons, List.length_append, List.length_replicate, wsum, ← ih]
    omega

theorem wsum_rowsG (cs : List Col) (l : List Int) : ∀ n, 0 ≤ wsum (fun _ => 1) (rowsG cs l n) ∧ wsum (fun _ => 1) (rowsG cs l n) ≤ 3 * (n : Int)
  | 0 => by simp [rowsG, wsum]
  | n + 1 => by
    have h := cntG_pos l n
    have ih := wsum_rowsG cs l n
    rw [rowsG_snoc, wsum_append]
    have e : wsum (fun _ => 1) [entG cs l n] = cntG l n := by simp [wsum, entG]
    rw [e]; omega

theorem tab18_size (l : List Int) (n : Nat) : (expL (tab18 l n)).length ≤ 3 * n := by
  have h1 := expL_wsum (tab18 l n) (tab18_ok l n).2.2
  have h2 := wsum_rowsG cs18 l n
  have h3 : wsum (fun _ => 1) (tab18 l n) = 0 ∨ wsum (fun _ => 1) (tab18 l n) = wsum (fun _ => 1) (rowsG cs18 l n) := by
    unfold tab18 norP
    split
    · exact .inl rfl
    · by_cases h0 : (sumP (rowsG cs18 l n)).2 = 0
      · exact .inr (wsum_sumP h0 _)
      · left
        have : (sumP (rowsG cs18 l n)).1 = [] := by
          unfold sumP resP at h0 ⊢
          split at h0
          · exact absurd rfl h0
          · rename_i h4; rw [if_neg h4]
        rw [this]; rfl
  omega

end Go.AW

namespace Go.AW
variable [Draws]
theorem kyS_one (R : List (List V)) (h : R ≠ []) : kyS [] R = [keyB [] []] := by
  have hk : ∀ r : List V, keyB [] r = keyB [] [] := fun r => rfl
  have key : ∀ n, 0 < n → n ≤ R.length → kyS [] (R.take n) = [keyB [] []] := by
    intro n
    induction n with
    | zero => intro h; omega
    | succ n ih =>
      intro _ hn
      have hr : R[n]? = some R[n] := List.getElem?_eq_getElem (by omega)
      have e : R.take (n + 1) = R.take n ++ [R[n]] := by rw [List.take_add_one, hr]; rfl
      rw [e, kyS_snoc, hk]
      by_cases h0 : n = 0
      · subst h0; simp [kyS]
      · rw [ih (by omega) (by omega), if_pos (by simp)]
  have := key R.length (List.length_pos_iff.2 h) (Nat.le_refl _)
  rwa [List.take_length] at this

theorem outW_one (its : List Itm) (asv ord : List Int) (R : List (List V)) : outW its asv ord (parL [] ord R) = outP its asv ord (srtO ord R) := by
  by_cases h : R = []
  · subst h; rfl
  · rw [parL, kyS_one R h, grpsK]
    have : (R.filter fun r => keyB [] r == keyB [] []) = R := List.filter_eq_self.2 fun r _ => by
      have : keyB [] r = keyB [] [] := rfl
      rw [this]; simp
    simp [this, outW]

def rowP (its : List Itm) (asv ord : List Int) (L : List (List V)) (p : Nat) : List V := L.getD p [] ++ valsR ord L p its asv

theorem rows1 {b : List Ent} (its : List Itm) (ord asv : List Int) (hb : bagB b = 0) (hp : ∀ e ∈ b, 0 < e.cnt) :
    (outR its [] ord asv (expL b) b).Perm ((List.range (expL b).length).map fun p => ⟨rowP its asv ord (srtO ord (expL b)) p, 1⟩) := by
  have h := out_perm its [] ord asv (bag_srt hb) (fun e he => (bag_rowOk hb e he).2) hp
  rw [outW_one, outP] at h
  have hl : (srtO ord (expL b)).length = (expL b).length := srtC_length _
  have e : (List.range (srtO ord (expL b)).length).map (rowW (colsW ord (srtO ord (expL b)) its asv) (srtO ord (expL b))) = (List.range (expL b).length).map fun p => ⟨rowP its asv ord (srtO ord (expL b)) p, 1⟩ := by
    rw [hl]
    refine List.map_congr_left fun p hp => ?_
    have hp := List.mem_range.1 hp
    rw [rowW, rowP, cols_vals (l := srtO ord (expL b)) (srtC_srt (isCmp_O ord) _) (by rw [hl]; exact hp)]
  rw [e] at h
  exact h.symm

theorem cntL_le_len : ∀ (l : List Ent), (∀ y ∈ l, y.cnt = 1) → ∀ r, cntL l r ≤ l.length
  | [], _, r => by simp [cntL]
  | y :: l, h, r => by
    have h1 := h y (List.mem_cons_self ..)
    have h2 := cntL_le_len l (fun z hz => h z (List.mem_cons_of_mem _ hz)) r
    rw [cntL, List.length_cons]; split <;> omega

theorem cntL_one : ∀ (l : List Ent), (∀ y ∈ l, y.cnt = 1) → Dist l → ∀ r, cntL l r ≤ 1
  | [], _, _, r => by simp [cntL]
  | y :: l, h, hd, r => by
    obtain ⟨d1, d2⟩ := List.pairwise_cons.1 hd
    have h1 := h y (List.mem_cons_self ..)
    have h2 := cntL_one l (fun z hz => h z (List.mem_cons_of_mem _ hz)) d2 r
    rw [cntL]
    split
    · rename_i hy
      have : cntL l r = 0 := cntL_zero l r fun z hz hc => d1 z hz (by rw [(rowsCmp_zero _ _).1 hy, (rowsCmp_zero _ _).1 hc])
      omega
    · omega

theorem winV1 (l : List (List V)) (ord : List Int) (a : Int) (p : Nat) (x : Itm) : (x.f = 8 → winV x l ord a p = numV ((p : Int) + 1)) ∧ (x.f = 1 → winV x l ord a p = numV l.length) ∧ (x.f = 10 → winV x l ord a p = atW l ((p : Int) - x.n) a) ∧ (x.f = 11 → winV x l ord a p = atW l ((p : Int) + x.n) a) := by
  refine ⟨fun h => by simp [winV, h], fun h => by simp [winV, h], fun h => by simp [winV, h], fun h => by simp [winV, h]⟩

theorem one_ok {b : List Ent} {its : List Itm} {ord asv : List Int} (hb : bagB b = 0) (hp : ∀ e ∈ b, 0 < e.cnt) (hl : (expL b).length ≤ 21) (h3 : ∀ e ∈ b, e.row.length = 3) (hi : its.length ≤ 9)
    (hc : chkE its asv (expL b) = 0) (hd : ∀ p q, p < (expL b).length → q < (expL b).length → rowP its asv ord (srtO ord (expL b)) p = rowP its asv ord (srtO ord (expL b)) q → p = q) :
    ∃ o, refP its [] ord asv b = (o, 0) ∧ bagB o = 0 ∧ o.length = (expL b).length ∧ ∀ e ∈ o, e.cnt = 1 ∧ ∃ p, p < (expL b).length ∧ e.row = rowP its asv ord (srtO ord (expL b)) p := by
  have hpm := rows1 its ord asv hb hp
  have hO : ∀ y ∈ outR its [] ord asv (expL b) b, y.cnt = 1 ∧ ∃ p, p < (expL b).length ∧ y.row = rowP its asv ord (srtO ord (expL b)) p := fun y hy => by
    obtain ⟨p, hp, rfl⟩ := List.mem_map.1 (hpm.mem_iff.1 hy)
    exact ⟨rfl, p, List.mem_range.1 hp, rfl⟩
  have hlen : (outR its [] ord asv (expL b) b).length = (expL b).length := outR_length _ _ _ _ _ b
  have hdist : Dist (outR its [] ord asv (expL b) b) := by
    refine Dist.perm ?_ hpm.symm
    refine List.pairwise_map.2 (List.pairwise_iff_getElem.2 fun i j hi hj hij => ?_)
    simp only [List.length_range] at hi hj
    simp only [List.getElem_range]
    exact fun e => absurd (hd i j hi hj e) (by omega)
  have hcl := (chkE_zero hc).1
  have hlong : (outR its [] ord asv (expL b) b).any longB = false := List.any_eq_false.2 fun y hy => by
    obtain ⟨_, p, hp2, hr⟩ := hO y hy
    have hL : (srtO ord (expL b)).length = (expL b).length := srtC_length _
    have hg : (srtO ord (expL b))[p]? = some (srtO ord (expL b))[p] := List.getElem?_eq_getElem (by omega)
    have hm : (srtO ord (expL b))[p] ∈ expL b := srtC_mem.1 (List.mem_of_getElem? hg)
    obtain ⟨e, he, her⟩ := expL_row hm
    have h33 := h3 e he
    rw [longB, hr, rowP, List.length_append, valsR_length ord _ p its asv hcl, List.getD_eq_getElem?_getD, hg]
    simp only [Option.getD_some, ← her, h33]
    simp; omega
  have hs0 : (sumP (outR its [] ord asv (expL b) b)).2 = 0 := sumP_ok (by omega) fun r => by
    have h1 := cntL_pos _ (fun y hy => by rw [(hO y hy).1]; decide) r
    have h2 := cntL_le_len _ (fun y hy => (hO y hy).1) r
    rw [smallB_iff]; omega
  have eR : refP its [] ord asv b = sumP (outR its [] ord asv (expL b) b) := by
    rw [refP, expP_of hb hp (by omega)]
    simp only []
    rw [if_neg (by simp), if_neg (by simp [hc]), if_neg (by simp [hlong])]
  have hgood := (refP_good its [] ord asv b).1
  rw [eR] at hgood
  have hmem : ∀ e ∈ (sumP (outR its [] ord asv (expL b) b)).1, e.cnt = 1 ∧ ∃ p, p < (expL b).length ∧ e.row = rowP its asv ord (srtO ord (expL b)) p := fun e he => by
    obtain ⟨h1, x, hx, hxr⟩ := sumP_mem he
    have h2 : cntL (sumP (outR its [] ord asv (expL b) b)).1 e.row = e.cnt := cntL_mem (bag_srt hgood) he
    rw [sumP_cnt hs0] at h2
    have h3 := cntL_pos _ (fun y hy => by rw [(hO y hy).1]; decide) e.row
    have h4 := cntL_one _ (fun y hy => (hO y hy).1) hdist e.row
    obtain ⟨_, p, hp2, hr⟩ := hO x hx
    exact ⟨by omega, p, hp2, by rw [← hxr]; exact hr⟩
  refine ⟨(sumP (outR its [] ord asv (expL b) b)).1, by rw [eR]; exact Prod.ext rfl hs0, hgood, ?_, hmem⟩
  have h1 : wsum (fun _ => 1) (sumP (outR its [] ord asv (expL b) b)).1 = wsum (fun _ => 1) (outR its [] ord asv (expL b) b) := wsum_sumP hs0 _
  rw [wsum_const (fun _ => 1) 1 _ (fun y hy => ⟨(hmem y hy).1, rfl⟩), wsum_const (fun _ => 1) 1 _ (fun y hy => ⟨(hO y hy).1, rfl⟩)] at h1
  omega

end Go.AW

namespace Go.AW
variable [Draws]
attribute [local irreducible] ACalls
def sb (o : List Ent) (i q : Nat) : Bool := (o.take i).any fun e => (e.row.getD 3 zV).num == (q : Int)

end Go.AW

namespace Go.AW
variable [Draws]
attribute [local irreducible] ACalls
def kM (n : Int) : Int := IntKind.i64.wrap (1 + and64 (n.fdiv (2 ^ 3)) 1)

theorem kM_bnd (n : Int) : 1 ≤ kM n ∧ kM n ≤ 2 := by
  have h : 0 ≤ and64 (n.fdiv (2 ^ 3)) 1 ∧ and64 (n.fdiv (2 ^ 3)) 1 ≤ 1 := by rw [and_1]; omega
  rw [kM, wrapI _ (by omega) (by omega)]; omega

def itsM (k : Int) : List Itm := [itm0 8 0, itm0 10 k, itm0 11 k]

def agsM : List Int := [-1, 0, 0]

theorem chkM (R : List (List V)) {k : Int} (h1 : 1 ≤ k) (h2 : k ≤ 4096) : chkE (itsM k) agsM R = 0 := by
  have h : ∀ f n a, winB f = true → ¬ ((f = 10 ∨ f = 11) ∧ (n < 1 ∨ 4096 < n)) → f ≠ 3 → itemE (itm0 f n) a R = 0 := fun f n a g1 g2 g3 => by
    rw [itemE, if_neg (by show ¬ winB f = false; simp [g1]), if_neg (show ¬ (((itm0 f n).f = 10 ∨ (itm0 f n).f = 11) ∧ ((itm0 f n).n < 1 ∨ 4096 < (itm0 f n).n)) from g2), if_neg (fun h => g3 h.1)]
  rw [chkE, if_neg (by simp [itsM, agsM]), itsM, agsM, itemsE, h 8 0 (-1) (by decide) (by simp) (by decide), itemsE, h 10 k 0 (by decide) (by omega) (by decide), itemsE, h 11 k 0 (by decide) (by omega) (by decide)]
  rfl

theorem rowM {b : List Ent} (ord : List Int) (k : Int) (h3 : ∀ e ∈ b, e.row.length = 3) (hl : (expL b).length ≤ 21) {p : Nat} (hp : p < (expL b).length) :
    ∃ u v w, rowP (itsM k) agsM ord (srtO ord (expL b)) p = [u, v, w, ⟨2, (p : Int) + 1, bs []⟩, atW (srtO ord (expL b)) ((p : Int) - k) 0, atW (srtO ord (expL b)) ((p : Int) + k) 0] ∧ atW (srtO ord (expL b)) p 0 = u := by
  have hL : (srtO ord (expL b)).length = (expL b).length := srtC_length _
  have hg : (srtO ord (expL b))[p]? = some (srtO ord (expL b))[p] := List.getElem?_eq_getElem (by omega)
  have hm : (srtO ord (expL b))[p] ∈ expL b := srtC_mem.1 (List.mem_of_getElem? hg)
  obtain ⟨e, he, her⟩ := expL_row hm
  have h33 := h3 e he
  have hv : valsR ord (srtO ord (expL b)) p (itsM k) agsM = [numV ((p : Int) + 1), atW (srtO ord (expL b)) ((p : Int) - k) 0, atW (srtO ord (expL b)) ((p : Int) + k) 0] := by
    rw [itsM, agsM, valsR, valsR, valsR, valsR]
    · rw [valR, if_neg (show ¬ (itm0 8 0).f = 9 from by decide), (winV1 _ _ _ _ (itm0 8 0)).1 rfl, valR, if_neg (show ¬ (itm0 10 k).f = 9 from by show ¬ (10 : Int) = 9; decide), (winV1 _ _ _ _ (itm0 10 k)).2.2.1 rfl, valR, if_neg (show ¬ (itm0 11 k).f = 9 from by show ¬ (11 : Int) = 9; decide), (winV1 _ _ _ _ (itm0 11 k)).2.2.2 rfl]
      rfl
    all_goals (intro a b c d h; simp at h)
  have hat : atW (srtO ord (expL b)) p 0 = celV e.row 0 := by
    rw [atW, if_pos (by omega), Int.toNat_natCast, List.getD_eq_getElem?_getD, hg, Option.getD_some, her]
  rw [rowP, hv, List.getD_eq_getElem?_getD, hg, Option.getD_some, ← her, hat]
  match hrow : e.row, h33 with
  | [u, v, w], _ =>
    refine ⟨u, v, w, ?_, rfl⟩
    rw [numV_small (by omega) (by omega)]
    rfl

theorem rowM_inj {b : List Ent} (ord : List Int) (k : Int) (h3 : ∀ e ∈ b, e.row.length = 3) (hl : (expL b).length ≤ 21) : ∀ p q, p < (expL b).length → q < (expL b).length → rowP (itsM k) agsM ord (srtO ord (expL b)) p = rowP (itsM k) agsM ord (srtO ord (expL b)) q → p = q := by
  intro p q hp hq h
  obtain ⟨_, _, _, e1, _⟩ := rowM ord k h3 hl hp
  obtain ⟨_, _, _, e2, _⟩ := rowM ord k h3 hl hq
  rw [e1, e2] at h
  simp at h
  omega

set_option maxHeartbeats 1000000 in
set_option maxRecDepth 20000 in
theorem law_WindowMirrors {P : Program} (F : F_warehouselaw18_WindowMirrors P) (hS : SortL P F.window_Apply.bag_Normalize) (hQ : SortW P F.window_Apply) (hS2 : SortL P F.warehouselaw18_known.window_Apply.bag_Normalize) (hQ2 : SortW P F.warehouselaw18_known.window_Apply)
    (l : List Int) (n : Int) :
    ACalls P F.id [.list false 1 (iC l), .int .i64 n] [] (fun q _ => q = .bool true) := by
  have known := fun H => known18_spec F.warehouselaw18_known hS2 hQ2 H
  obtain ⟨k, hk, e7⟩ := and7 n
  have tb := fun H => table18_spec F.warehouselaw18_table l k (by omega) H
  rw [← e7] at tb
  have a1 := plc18_len (n.fdiv (2 ^ 4))
  have p4 := fun H => places18_spec F.warehouselaw18_places (n.fdiv (2 ^ 4)) H
  obtain ⟨t1, t2, t3⟩ := tab18_ok l k
  have tz := tab18_size l k
  obtain ⟨hk1, hk2⟩ := kM_bnd n
  generalize hord : plc18 (n.fdiv (2 ^ 4)) = ord at *
  generalize htab : tab18 l k = tab at *
  have ap := fun H => ACalls.weakD (args := [.list true 5 (imN (itsM (kM n))), .nil, .list false 1 (iC ord), .list true 1 (iC agsM), .list false 2 (eC tab)])
    (window_Apply_w F.window_Apply hQ hS true false false true false (itsM (kM n)) [] ord agsM tab (by simp [itsM]) (by simp) (by omega) (by decide) H)
    (.cons (wk_items _ _ (by intro x hx; simp [itsM] at hx; rcases hx with rfl | rfl | rfl <;> rfl)) (.cons (.nil _ _) (.cons (.refl _) (.cons (.refl _) (.cons (.refl _) .nil)))))
  obtain ⟨o, ho, hob, hol, hoe⟩ := one_ok (ord := ord) (its := itsM (kM n)) (asv := agsM) t1 t3 (by omega) t2 (by simp [itsM]) (chkM _ hk1 (by omega)) (rowM_inj ord (kM n) t2 (by omega))
  rw [ho] at ap
  have hrow := fun p hp => rowM (b := tab) ord (kM n) t2 (by omega) (p := p) hp
  generalize hN : (expL tab).length = N at *
  generalize hL : srtO ord (expL tab) = L at *
  refine acalls_of_body F.has ?_
  (conv => whnf); refine ACalls.use (tb _) ?_
  (conv => whnf); refine And.intro (by decide) ?_
  (conv => whnf); refine And.intro (by decide) ?_
  (conv => whnf); refine ACalls.use (p4 _) ?_
  (conv => whnf); refine ACalls.use (ap _) ?_
  conv => whnf
  refine ⟨fun m ρ H1 => ∃ i : Nat, i + m = o.length ∧ H1 = [] ∧ Sv 116 [(6, .int .i64 (kM n)), (7, .list false 2 (eC o)), (9, .int .i64 i)] ρ, o.length, [], ?_, ?_⟩
  · exact ⟨0, by omega, rfl, Sv.intro rfl ⟨rfl, rfl, rfl, trivial⟩⟩
  rintro m ρ H1 ⟨i, hi, rfl, d, rfl⟩
  by_cases hlt : i < o.length
  · have hz1 := get_drop hlt
    obtain ⟨e, hz2⟩ := hz1
    have he := hz2.1
    obtain ⟨hc1, p, hp, hr⟩ := hoe e hz2.2.2
    obtain ⟨u, v, w, hrw, hpu⟩ := hrow p hp
    rw [hrw] at hr
    obtain ⟨row, cnt⟩ := e
    simp only [] at hc1 hr
    subst hc1 hr
    (conv => whnf); refine recT (by rw [eC_length]; simp; omega) ?_
    (conv => whnf); refine And.intro (by omega) ?_
    (conv => whnf); refine recO (eC_at he) ?_
    conv => whnf
    refine ⟨fun m' ρ H1 => ∃ j : Nat, j + m' = o.length ∧ H1 = [] ∧ Sv 116 [(6, .int .i64 (kM n)), (7, .list false 2 (eC o)), (9, .int .i64 i), (10, .int .i64 j)] ρ, o.length, [], ?_, ?_⟩
    · exact ⟨0, by omega, rfl, Sv.intro rfl ⟨rfl, rfl, rfl, rfl, trivial⟩⟩
    rintro m' ρ H1 ⟨j, hj, rfl, d, rfl⟩
    by_cases hlt2 : j < o.length
    · have hy1 := get_drop hlt2
      obtain ⟨f, hy2⟩ := hy1
      have hf := hy2.1
      obtain ⟨hc2, q, hq, hs⟩ := hoe f hy2.2.2
      obtain ⟨x, y, z, hsw, hqu⟩ := hrow q hq
      rw [hsw] at hs
      obtain ⟨row2, cnt2⟩ := f
      simp only [] at hc2 hs
      subst hc2 hs
      (conv => whnf); refine recT (by rw [eC_length]; simp; omega) ?_
      (conv => whnf); refine And.intro (by omega) ?_
      (conv => whnf); refine recO (eC_at hf) ?_
      (conv => whnf); refine And.intro (by omega) ?_
      (conv => whnf); refine recO (eC_at hf) ?_
      (conv => whnf); refine And.intro (by decide) ?_
      (conv => whnf); refine And.intro (by omega) ?_
      (conv => whnf); refine recO (eC_at he) ?_
      (conv => whnf); refine And.intro (by decide) ?_
      have ewq : IntKind.i64.wrap ((q : Int) + 1 - ((p : Int) + 1)) = (q : Int) - p := by rw [wrapI _ (by omega) (by omega)]; omega
      (conv => whnf); refine recA (fun hd => ?_) (fun hd => ?_)
      · replace hd : (!(IntKind.i64.wrap ((q : Int) + 1 - ((p : Int) + 1)) == kM n)) = true := hd
        conv => whnf
        refine ⟨m' - 1, by omega, Gp.keep rfl ?_ fun ρ1 h => ⟨j + 1, by omega, rfl, h⟩⟩
        exact ⟨rfl, rfl, rfl, intEq (wrapI _ (by omega) (by omega)), trivial⟩
      · replace hd : (!(IntKind.i64.wrap ((q : Int) + 1 - ((p : Int) + 1)) == kM n)) = false := hd
        rw [ewq] at hd
        simp at hd
        have e1 : atW L ((p : Int) + kM n) 0 = x := by rw [← hqu]; congr 1; omega
        have e2 : atW L ((q : Int) - kM n) 0 = u := by rw [← hpu]; congr 1; omega
        (conv => whnf); refine And.intro (by omega) ?_
        (conv => whnf); refine recO (eC_at he) ?_
        (conv => whnf); refine And.intro (by decide) ?_
        (conv => whnf); refine And.intro (by omega) ?_
        (conv => whnf); refine recO (eC_at hf) ?_
        (conv => whnf); refine And.intro (by decide) ?_
        (conv => whnf); refine recF (by simp [e1]) ?_
        (conv => whnf); refine And.intro (by omega) ?_
        (conv => whnf); refine recO (eC_at hf) ?_
        (conv => whnf); refine And.intro (by decide) ?_
        (conv => whnf); refine And.intro (by omega) ?_
        (conv => whnf); refine recO (eC_at he) ?_
        (conv => whnf); refine And.intro (by decide) ?_
        (conv => whnf); refine recF (by simp [e2]) ?_
        conv => whnf
        refine ⟨m' - 1, by omega, Gp.keep rfl ?_ fun ρ1 h => ⟨j + 1, by omega, rfl, h⟩⟩
        exact ⟨rfl, rfl, rfl, intEq (wrapI _ (by omega) (by omega)), trivial⟩
    · (conv => whnf); refine recF (by rw [eC_length]; simp; omega) ?_
      conv => whnf
      refine ⟨m - 1, by omega, Gp.keep rfl ?_ fun ρ1 h => ⟨i + 1, by omega, rfl, h⟩⟩
      exact ⟨rfl, rfl, intEq (wrapI _ (by omega) (by omega)), trivial⟩
  · (conv => whnf); refine recF (by rw [eC_length]; simp; omega) ?_
    (conv => whnf); refine ACalls.use (known _) ?_
    conv => whnf

end Go.AW

namespace Go.AW
variable [Draws]
open Go.Sort
section
variable {P : Program} {β : Type}
structure El (C : Nat → Nat) (w : World) (k : Nat) (cells : β → List AVal) where
  vs : List Value
  x : β
  len : vs.length = k
  one : ∀ v ∈ vs, v.oneCell' = true
  rd : ∀ (j : Nat) (c : AVal) (v : Value), (cells x)[j]? = some c → vs[j]? = some v → Rd C w c v

theorem Rd.later {C : Nat → Nat} {w w' : World} {a : AVal} {v : Value} (h : Rd C w a v) (hc : ∀ b i, i < C b → w'.cell? ⟨b, i, none⟩ = w.cell? ⟨b, i, none⟩) : Rd C w' a v := by
  have s : Step C (fun _ => none) [] w C (fun _ => none) [] { w with heap := w.heap } := Step.refl
  induction h with
  | junk v h => exact .junk v h
  | bool b => exact .bool b
  | int k n => exact .int k n
  | str s => exact .str s
  | nil => exact .nil
  | list0 x sz a cap hx => exact .list0 x sz a cap hx
  | list x sz es b off cap vs hx hcap hsz hC hcell hp hrd ih =>
    refine .list x sz es b off cap vs hx hcap hsz hC (fun i j hi hj => ?_) hp fun i j e d he hd => ih i j e d he hd
    rw [hc b _ ?_, hcell i j hi hj]
    have : i * sz + sz ≤ es.length * sz := by
      have := Nat.mul_le_mul_right sz (show i + 1 ≤ es.length by omega)
      rwa [Nat.add_mul, Nat.one_mul] at this
    omega
  | cptr cs fld b off vs hC hcell hp hrd ih =>
    refine .cptr cs fld b off vs hC (fun j hj => ?_) hp fun j d hd => ih j d hd
    rw [hc b _ (by omega), hcell j hj]
  | fn f => exact .fn f

abbrev upD : Draws := ⟨True⟩

omit [Draws] in
attribute [local instance] upD in

theorem cmpLays_of {C : Nat → Nat} {w : World} {k : Nat} {cells : β → List AVal} (hk : ∀ x, (cells x).length = k) [Inhabited (El C w k cells)] {cmp : β → β → Int} {g : FuncId}
    (eg : ∀ args w, (callFunc g args).run P w = .ok (.enter g args) w)
    (hg : ∀ x y, @ACalls upD P g [.agg (cells x), .agg (cells y)] [] (fun r _ => r = .int .i64 (cmp x y)))
    {blk off size : Nat} (hlt : ∀ b, 0 < C b → b < w.heap.size) (hblk : C blk = 0) :
    Go.Proofs.CmpLays P g #[] (fun e : El C w k cells => e.vs) k (fun a b => cmp a.x b.x) blk off size w := by
  intro m os dk hs x y
  obtain ⟨W, hW⟩ : ∃ W, Go.Proofs.sortWorldK (fun e : El C w k cells => e.vs) k w blk off m dk os = W := ⟨_, rfl⟩
  rw [hW]
  have hcell : ∀ b i, i < C b → W.cell? ⟨b, i, none⟩ = w.cell? ⟨b, i, none⟩ := by
    intro b i hi
    have hb : b < w.heap.size := hlt b (by omega)
    have hbb : b ≠ blk := fun e => by rw [e, hblk] at hi; omega
    refine cell_heap ?_
    rw [← hW]
    unfold Go.Proofs.sortWorldK Go.Sort.putRowK putRow mapBlock grow Go.Sort.ahead
    simp only []
    rw [Array.getElem?_append_left (by simp; exact hb), Array.getElem?_modify, if_neg (Ne.symm hbb)]
  have hsz : w.heap.size ≤ W.heap.size := by rw [← hW]; exact Go.Proofs.size_sortWorldK_c _ _ _ _ _ _ _ _
  have hwf : WF C (fun _ => none) [] W := ⟨fun id o h => by simp at h, fun id o h => by simp at h, fun id o l h => by simp at h, fun id l h => by simp at h, fun i j li lj h => by simp at h, fun b hb => Nat.lt_of_lt_of_le (hlt b hb) hsz⟩
  have hrel : ∀ e : El C w k cells, Rel C W (fun _ => none) [] (.agg (cells e.x)) (.agg e.vs.toArray) := fun e => by
    refine .agg _ _ (by simp [hk, e.len]) fun i c v hc hv => .rd ((e.rd i c v hc ?_).later hcell)
    simpa using hv
  have h := hg x.x y.x C (fun _ => none) W #[.agg x.vs.toArray, .agg y.vs.toArray] hwf rfl fun i a v ha hv => by
    rcases i with _ | _ | i
    · cases ha; cases hv; exact hrel x
    · cases ha; cases hv; exact hrel y
    · simp at ha
  unfold CallsX at h
  rw [eg] at h
  refine Calls.mono h fun e w' => ?_
  rintro ⟨v, r, C', τ', H', rfl, rfl, hrv, hst, _⟩
  refine ⟨?_, w'.drawn - W.drawn, w'.heap.extract W.heap.size w'.heap.size, ?_⟩
  · cases hrv with
    | rd h => cases h; rfl
  · have f := hst.fr
    have hp : ∀ b, b < W.heap.size → w'.heap[b]? = W.heap[b]? := fun b hb => f.prot b ⟨hb, by rintro ⟨id, l, h, _⟩; simp at h⟩
    have hh : w'.heap = W.heap ++ w'.heap.extract W.heap.size w'.heap.size := by
      refine Array.ext_getElem? fun i => ?_
      by_cases hi : i < W.heap.size
      · rw [Array.getElem?_append_left hi]; exact hp i hi
      · rw [Array.getElem?_append_right (by omega), Array.getElem?_extract]
        by_cases hi2 : i < w'.heap.size
        · rw [if_pos (by omega)]; congr 1; omega
        · rw [if_neg (by omega)]; exact Array.getElem?_eq_none (by omega)
    have hd : w'.drawn = W.drawn + (w'.drawn - W.drawn) := by have := f.drawn trivial; omega
    obtain ⟨h1, h2, h3, h4, h5⟩ := w'
    unfold grow World.drewN
    simp only [World.mk.injEq]
    exact ⟨hh, f.tape, hd, f.os, f.output⟩

theorem St.grow {w0 w : World} {Pr : Nat → Prop} {C : Nat → Nat} {τ : Nat → Option Loc} {H : List AObj} (h : St w0 Pr C τ H w) : ∀ (os : List Obj), St w0 Pr C τ H (Go.Sort.grow w os.toArray) ∧ Step C τ H w C τ H (Go.Sort.grow w os.toArray) := by
  intro os
  induction os generalizing w with
  | nil => simpa using ⟨h, Step.refl⟩
  | cons o os ih =>
    obtain ⟨st, s⟩ := h.alloc_comm o 0
    have hCC : updF C w.heap.size (C w.heap.size + 0) = C := by
      funext b
      by_cases e : b = w.heap.size
      · subst e; rw [updF_same]; rfl
      · rw [updF_other _ _ e]
    rw [hCC] at st s
    obtain ⟨st2, s2⟩ := ih st
    have e : Go.Sort.grow (w.alloc o) os.toArray = Go.Sort.grow w (o :: os).toArray := by
      rw [alloc_eq_grow, grow_grow]
      congr 1
      simp
    rw [e] at st2 s2
    exact ⟨st2, s.trans s2⟩

theorem St.putRow {w0 w : World} {Pr : Nat → Prop} {C : Nat → Nat} {τ : Nat → Option Loc} {H : List AObj} {k : Nat} {cells : β → List AVal} (hk : ∀ x, (cells x).length = k) (hk0 : 0 < k) (hcl : ∀ x, ∀ c ∈ cells x, c.isCell = true) [Inhabited (El C w k cells)]
    (h : St w0 Pr C τ H w) {i0 : Nat} {es : List β} {l : Loc} (ho : H[i0]? = some (.arr k (es.map cells))) (hl : τ i0 = some l) (d : Array (El C w k cells)) (hd : d.size = es.length) :
    St w0 Pr C τ (H.set i0 (.arr k (d.toList.map fun e => cells e.x))) (putRowK (fun e : El C w k cells => e.vs) k w l.b 0 d) ∧ Step C τ H w C τ (H.set i0 (.arr k (d.toList.map fun e => cells e.x))) (putRowK (fun e : El C w k cells => e.vs) k w l.b 0 d) := by
  obtain ⟨hcap, cs, elem, fz, h1, h2, h3, _⟩ := h.wf.objs i0 _ l ho hl
  rw [List.length_map] at hcap
  have hw : (putRowK (fun e : El C w k cells => e.vs) k w l.b 0 d).heap[l.b]? = some (.cells (Go.Sort.putCells id 0 (flatK (fun e : El C w k cells => e.vs) k d) cs) elem fz) := by
    unfold putRowK Go.Sort.putRow mapBlock
    simp only [Array.getElem?_modify, if_true, h1, Option.map_some, onCells]
  refine h.set_obj (w' := putRowK (fun e : El C w k cells => e.vs) k w l.b 0 d) (o' := .arr k (d.toList.map fun e => cells e.x)) ho hl (fun b hb => ?_) (by simp [putRowK]) rfl rfl rfl rfl ⟨rfl, by simp; omega, fun _ => rfl⟩ (fun e he => ?_) fun C' τ' H' s => ?_
  · unfold putRowK Go.Sort.putRow mapBlock
    simp only [Array.getElem?_modify]
    rw [if_neg (Ne.symm hb)]
  · obtain ⟨x, _, rfl⟩ := List.mem_map.1 he
    exact ⟨hk x.x, hcl x.x⟩
  · refine ⟨by simp; omega, _, elem, fz, hw, by simp [Go.Sort.putCells, h2], by simpa [Go.Sort.putCells] using h3, fun i j e c he hc => ?_⟩
    rw [List.getElem?_map] at he
    obtain ⟨x, hx, rfl⟩ := Option.map_eq_some_iff.1 he
    have hi : i < d.size := by have := (List.getElem?_eq_some_iff.1 hx).1; simpa using this
    have hj : j < k := by have := (List.getElem?_eq_some_iff.1 hc).1; rwa [hk] at this
    have hxd : d[i]! = x := by
      rw [getElem!_pos d i hi]
      have := (List.getElem?_eq_some_iff.1 hx).2
      simpa using this
    have ht : i * k + j < d.size * k := by
      have := Nat.mul_le_mul_right k (show i + 1 ≤ d.size by omega)
      rw [Nat.add_mul, Nat.one_mul] at this
      omega
    have htc : i * k + j < cs.size := by
      have := Nat.mul_le_mul_right k (show d.size ≤ l.cap by omega)
      omega
    have hjv : j < x.vs.length := by rw [x.len]; exact hj
    refine ⟨x.vs[j], ?_, ?_⟩
    · unfold Go.Sort.putCells
      rw [Array.getElem?_mapIdx, Array.getElem?_eq_getElem htc]
      have hf := get_flatK (fun e : El C w k cells => e.vs) k d (i * k + j) ht
      have e1 : (i * k + j) / k = i := by rw [Nat.mul_comm, Nat.mul_add_div hk0, Nat.div_eq_of_lt hj, Nat.add_zero]
      have e2 : (i * k + j) % k = j := by rw [Nat.mul_comm, Nat.mul_add_mod, Nat.mod_eq_of_lt hj]
      rw [e1, e2, hxd] at hf
      simp only [Option.map_some, size_flatK, Nat.zero_le, true_and, Nat.zero_add, ht, if_true, Nat.sub_zero, hf]
      rw [getElem!_pos x.vs j hjv]
      rfl
    · exact (Rel.rd (x.rd j c _ hc (List.getElem?_eq_getElem hjv))).mono s

theorem row_of {w0 w : World} {Pr : Nat → Prop} {C : Nat → Nat} {τ : Nat → Option Loc} {H : List AObj} {k : Nat} {cells : β → List AVal} (hk : ∀ x, (cells x).length = k) (hk0 : 0 < k) (hpu : ∀ x, ∀ c ∈ cells x, c.isPure = true)
    (h : St w0 Pr C τ H w) {i0 : Nat} {es : List β} {l : Loc} (ho : H[i0]? = some (.arr k (es.map cells))) (hl : τ i0 = some l) :
    ∃ d : Array (El C w k cells), d.size = es.length ∧ d.toList.map (fun e => e.x) = es ∧ ∀ [Inhabited (El C w k cells)], HoldsK (fun e : El C w k cells => e.vs) k w l.b 0 d := by
  obtain ⟨hcap, cs, elem, fz, h1, h2, h3, h4⟩ := h.wf.objs i0 _ l ho hl
  rw [List.length_map] at hcap
  have hroom : es.length * k ≤ cs.size := by rw [h2]; exact Nat.mul_le_mul_right k hcap
  have get : ∀ (i j : Nat) (hi : i < es.length) (hj : j < k), i * k + j < cs.size := fun i j hi hj => by
    have := Nat.mul_le_mul_right k (show i + 1 ≤ es.length by omega)
    rw [Nat.add_mul, Nat.one_mul] at this
    omega
  have rel : ∀ (i j : Nat) (hi : i < es.length) (c : AVal) (v : Value), (cells es[i])[j]? = some c → cs[i * k + j]? = some v → Rd C w c v := fun i j hi c v hc hv => by
    obtain ⟨v', hv', hr⟩ := h4 i j (cells es[i]) c (by rw [List.getElem?_map, List.getElem?_eq_getElem hi]; rfl) hc
    rw [hv] at hv'
    cases hv'
    exact hr.pure (hpu _ c (List.mem_of_getElem? hc))
  have vget : ∀ (i j : Nat), ((cs.extract (i * k) (i * k + k)).toList)[j]? = if j < min (i * k + k) cs.size - i * k then cs[i * k + j]? else none := fun i j => by
    rw [Array.getElem?_toList, Array.getElem?_extract]
  have mk : ∀ i : Fin es.length, ∃ e : El C w k cells, e.vs = (cs.extract (i.1 * k) (i.1 * k + k)).toList ∧ e.x = es[i.1] := fun ⟨i, hi⟩ => by
    have hik := get i (k - 1) hi (by omega)
    have hlen : (cs.extract (i * k) (i * k + k)).size = k := by rw [Array.size_extract]; omega
    refine ⟨⟨(cs.extract (i * k) (i * k + k)).toList, es[i], by rw [Array.length_toList]; exact hlen, ?_, fun j c v hc hv => ?_⟩, rfl, rfl⟩
    · refine rel_cellsPlain (C := C) (w := w) (τ := τ) (H := H) (cs := cells es[i]) (by rw [hk, hlen]) (fun j c v hc hv => ?_) (List.all_eq_true.2 fun c hc => AVal.isCell_of_isPure (hpu _ c hc))
      have := vget i j
      rw [Array.getElem?_toList, hv] at this
      split at this
      · exact .rd (rel i j hi c v hc this.symm)
      · cases this
    · have := vget i j
      rw [hv] at this
      split at this
      · exact rel i j hi c v hc this.symm
      · cases this
  refine ⟨Array.ofFn fun i => (mk i).choose, by simp, ?_, ?_⟩
  · refine List.ext_getElem? fun i => ?_
    by_cases hi : i < es.length
    · rw [List.getElem?_map, Array.getElem?_toList, Array.getElem?_ofFn, dif_pos hi, List.getElem?_eq_getElem hi]
      show some ((mk ⟨i, hi⟩).choose).x = _
      rw [(mk ⟨i, hi⟩).choose_spec.2]
    · rw [List.getElem?_eq_none (by simp; omega), List.getElem?_eq_none (by omega)]
  · intro _ t ht
    rw [size_flatK, Array.size_ofFn] at ht
    have hi : t / k < es.length := Nat.div_lt_of_lt_mul (by rwa [Nat.mul_comm] at ht)
    have hj : t % k < k := Nat.mod_lt _ hk0
    have htk : t / k * k + t % k = t := by rw [Nat.mul_comm]; exact Nat.div_add_mod t k
    have htc := get _ _ hi hj
    rw [htk] at htc
    rw [get_flatK _ _ _ t (by rw [Array.size_ofFn]; exact ht), getElem!_pos _ (t / k) (by rw [Array.size_ofFn]; exact hi), Array.getElem_ofFn]
    have hv := vget (t / k) (t % k)
    rw [if_pos (by have := get (t / k) (k - 1) hi (by omega); omega), htk, Array.getElem?_eq_getElem htc, ← (mk ⟨t / k, hi⟩).choose_spec.1] at hv
    have hb := (List.getElem?_eq_some_iff.1 hv).1
    have hv2 := (List.getElem?_eq_some_iff.1 hv).2
    rw [getElem!_pos _ (t % k) hb]
    refine ⟨?_, ?_⟩
    · simp only [World.cell?, h1, Nat.zero_add]
      simp [Array.getElem?_eq_getElem htc, ← hv2]
    · simp only [World.frozen?, h1, Nat.zero_add]
      simp only [Bool.and_eq_false_iff, decide_eq_false_iff_not]
      omega

def Sorted (cmp : β → β → Int) (es es' : List β) : Prop := es'.Perm es ∧ ∀ (i j : Nat) (x y : β), i < j → es'[i]? = some x → es'[j]? = some y → 0 ≤ cmp y x

theorem sort_spec {ρ : Go.Shelf.Ren} (L : Go.Proofs.SlLaysF0.n6 P ρ) {k : Nat} (hk0 : 0 < k) (aE : ∀ w, (isAgg (ρ.t 24)).run P w = .ok true w) (zE : ∀ w, (Go.sizeOf (ρ.t 24)).run P w = .ok k w)
    {cells : β → List AVal} (hk : ∀ x, (cells x).length = k) (hpu : ∀ x, ∀ c ∈ cells x, c.isPure = true) {cmp : β → β → Int} (hO : SWO (Go.Proofs.ltOf cmp)) {g : FuncId}
    (eg : ∀ args w, (callFunc g args).run P w = .ok (.enter g args) w)
    (hg : ∀ x y, @ACalls upD P g [.agg (cells x), .agg (cells y)] [] (fun r _ => r = .int .i64 (cmp x y)))
    {es : List β} (hne : es ≠ []) (hlen : es.length ≤ 1000000) {H : List AObj} {i0 : Nat} (ho : H[i0]? = some (.arr k (es.map cells))) :
    ACalls P (ρ.f 6) [.sl i0 es.length 0 es.length, .fn g []] H (fun r H' => r = .tuple [] ∧ ∃ es', Sorted cmp es es' ∧ H' = H.set i0 (.arr k (es'.map cells))) := by
  intro C τ w vs hw hl hr
  obtain ⟨v0, v1, rfl⟩ : ∃ v0 v1, vs = #[v0, v1] := by
    obtain ⟨m⟩ := vs
    match m, hl with
    | [v0, v1], _ => exact ⟨v0, v1, rfl⟩
  have r0 := hr 0 _ v0 rfl rfl
  have r1 := hr 1 _ v1 rfl rfl
  have e1 : v1 = .func (.func g) #[] #[] := by
    cases r1 with
    | rd h => cases h; rfl
    | fn _ _ vs hl2 h =>
      have : vs = #[] := Array.eq_empty_of_size_eq_zero hl2.symm
      rw [this]
  subst e1
  have hpos : 0 < es.length := List.length_pos_iff.2 hne
  cases r0 with
  | rd h => cases h
  | sl _ _ _ _ a cap esz es0 ho' hep hcur =>
  rw [ho] at ho'
  cases ho'
  obtain ⟨_, hcap, hor⟩ := hcur (by simp)
  rcases hor with ⟨_, h0⟩ | ⟨l, hlt, hlc, ha⟩
  · omega
  have ha2 : a = some ⟨l.b, 0, none⟩ := by
    rcases ha with h0 | h0
    · omega
    · rw [h0, Nat.zero_mul]
  subst ha2
  have st := St.start hw
  obtain ⟨d, hd, hdx, hH⟩ := row_of hk hk0 hpu st ho hlt
  haveI : Inhabited (El C w k cells) := ⟨d[0]'(by omega)⟩
  have hid := (List.getElem?_eq_some_iff.1 ho).1
  have hcmp := cmpLays_of (P := P) (C := C) (w := w) hk eg hg (blk := l.b) (off := 0) (size := d.size) hw.lt (hw.comm i0 l hid hlt)
  have hO2 : SWO (Go.Proofs.ltOf fun a b : El C w k cells => cmp a.x b.x) := ⟨fun x => hO.irrefl x.x, fun x y z => hO.trans x.x y.x z.x, fun x y z => hO.ntrans x.x y.x z.x⟩
  have main := Go.Proofs.AnyQ.slices_SortFunc L k aE zE (fun e : El C w k cells => e.vs) (fun x => x.len) (fun x => x.one) (fun a b => cmp a.x b.x) hO2 g #[] l.b 0 cap d w eg hcmp hH (hw.locLt hid hlt) (by omega)
  rw [hd] at main
  unfold CallsX
  have en : ∀ args w, (callFunc (ρ.f 6) args).run P w = .ok (.enter (ρ.f 6) args) w := L.f6.enters rfl
  rw [en]
  refine Calls.mono main fun e w' => ?_
  rintro ⟨rfl, d', n, os, hp, hs, rfl⟩
  have hd's : d'.size = es.length := by have := hp.1; omega
  obtain ⟨st1, s1⟩ := st.putRow hk hk0 (fun x c hc => AVal.isCell_of_isPure (hpu x c hc)) ho hlt d' hd's
  obtain ⟨st2, s2⟩ := st1.same (w' := Go.Sort.ahead (putRowK (fun e : El C w k cells => e.vs) k w l.b 0 d') n) rfl rfl rfl rfl (Nat.le_add_right _ _)
  obtain ⟨st3, s3⟩ := st2.grow os.toList
  have ew : Go.Sort.grow (Go.Sort.ahead (putRowK (fun e : El C w k cells => e.vs) k w l.b 0 d') n) os.toList.toArray = Go.Proofs.sortWorldK (fun e : El C w k cells => e.vs) k w l.b 0 n d' os := by
    rw [Array.toArray_toList]; rfl
  rw [ew] at st3 s3
  refine ⟨.tuple #[], .tuple [], C, τ, _, rfl, ⟨rfl, d'.toList.map (fun e => e.x), ⟨?_, fun i j x y hij hx hy => ?_⟩, by rw [List.map_map]; rfl⟩, .tuple _ _ rfl fun i c v h => by simp at h, st3, (s1.trans s2).trans s3⟩
  · have h3 := hp.2.2
    have a1 : d'.extract 0 es.length = d' := by rw [← hd's]; simp
    have a2 : d.extract 0 es.length = d := by rw [← hd]; simp
    rw [a1, a2] at h3
    have := h3.map (fun e : El C w k cells => e.x)
    rwa [hdx] at this
  · rw [List.getElem?_map] at hx hy
    obtain ⟨ex, hx1, rfl⟩ := Option.map_eq_some_iff.1 hx
    obtain ⟨ey, hy1, rfl⟩ := Option.map_eq_some_iff.1 hy
    clear hx hy
    have hj := (List.getElem?_eq_some_iff.1 hy1).1
    rw [Array.length_toList, hd's] at hj
    have h4 := hs i j (Nat.zero_le _) hij hj
    have b1 : d'[i]! = ex := by
      rw [getElem!_pos d' i (by omega)]
      have := (List.getElem?_eq_some_iff.1 hx1).2
      simpa using this
    have b2 : d'[j]! = ey := by
      rw [getElem!_pos d' j (by omega)]
      have := (List.getElem?_eq_some_iff.1 hy1).2
      simpa using this
    rw [b1, b2] at h4
    unfold Go.Proofs.ltOf at h4
    simp at h4
    exact h4

end
end Go.AW

namespace Go.AW
variable [Draws]
open Go.Sort
attribute [local irreducible] ACalls
abbrev EntS := {e : Ent // e.row.length ≤ 1000}

def subL : (l : List Ent) → (∀ e ∈ l, e.row.length ≤ 1000) → List EntS
  | [], _ => []
  | e :: l, h => ⟨e, h e (List.mem_cons_self ..)⟩ :: subL l fun e he => h e (List.mem_cons_of_mem _ he)

theorem subL_map : ∀ (l : List Ent) (h : ∀ e ∈ l, e.row.length ≤ 1000), (subL l h).map (fun e => e.1) = l
  | [], _ => rfl
  | e :: l, h => by rw [subL, List.map_cons, subL_map l]

theorem swo_rows : SWO (Go.Proofs.ltOf fun a b : EntS => rowsCmp a.1.row b.1.row) where
  irrefl x := by simp [Go.Proofs.ltOf, (rowsCmp_zero x.1.row x.1.row).2 rfl]
  trans x y z h1 h2 := by
    simp [Go.Proofs.ltOf] at h1 h2 ⊢
    exact rowsCmp_trans _ _ _ h1 h2
  ntrans x y z h1 h2 := by
    simp [Go.Proofs.ltOf] at h1 h2 ⊢
    refine Int.not_lt.1 fun hn => ?_
    by_cases hz : rowsCmp y.1.row z.1.row = 0
    · rw [(rowsCmp_zero _ _).1 hz] at h1
      omega
    · have h3 : rowsCmp z.1.row y.1.row < 0 := by rw [rowsCmp_anti]; omega
      have := rowsCmp_trans _ _ _ hn h3
      omega

theorem sortE_of {P : Program} {ρ : Go.Shelf.Ren} (L : Go.Proofs.SlLaysF0.n6 P ρ) (aE : ∀ w, (isAgg (ρ.t 24)).run P w = .ok true w) (zE : ∀ w, (Go.sizeOf (ρ.t 24)).run P w = .ok 2 w) (F : F_bag_sum_1 P) :
    SortE P (ρ.f 6) F.id := by
  intro l hne hl hr H i0 ho
  have eg : ∀ args w, (callFunc F.id args).run P w = .ok (.enter F.id args) w := by
    obtain ⟨fn, c, h1, h2, h3, _⟩ := F.has
    exact Go.Proofs.enters_of h1 h2 h3
  have hm := subL_map l hr
  have hcells : (subL l hr).map (fun e => entC e.1) = eC l := by
    have := congrArg (List.map entC) hm
    rw [List.map_map] at this
    exact this
  have hlen : (subL l hr).length = l.length := by rw [← List.length_map (f := fun e : EntS => e.1), hm]
  have main := sort_spec (P := P) L (k := 2) (by decide) aE zE (cells := fun e : EntS => entC e.1) (fun _ => rfl) (fun x c hc => by
    simp [entC] at hc
    rcases hc with rfl | rfl
    · simp [AVal.isPure]
    · rfl) (cmp := fun a b => rowsCmp a.1.row b.1.row) swo_rows (g := F.id) eg (fun x y => by letI : Draws := upD; exact (bag_sum_1_spec F x.1 y.1 (by have := x.2; omega) []).mono fun _ _ h => h.1)
    (es := subL l hr) (fun h => by rw [h] at hm; exact hne hm.symm) (by omega) (i0 := i0) (by rw [hcells]; exact ho)
  rw [hlen] at main
  refine main.mono ?_
  rintro r H' ⟨rfl, es', ⟨hp, hs⟩, rfl⟩
  refine ⟨rfl, es'.map (fun e => e.1), by have := hp.map (fun e : EntS => e.1); rwa [hm] at this, ?_, ?_⟩
  · refine List.pairwise_iff_getElem.2 fun i j hi hj hij => ?_
    rw [List.length_map] at hi hj
    have := hs i j es'[i] es'[j] hij (List.getElem?_eq_getElem hi) (List.getElem?_eq_getElem hj)
    replace this : 0 ≤ rowsCmp (es'[j]).1.row (es'[i]).1.row := this
    rw [rowsCmp_anti] at this
    simp only [List.getElem_map]
    omega
  · rw [eC, List.map_map]; rfl

end Go.AW

namespace Go.AW
variable [Draws]
open Go.Sort
section
variable {P : Program} {β : Type}
structure El1 (C : Nat → Nat) (w : World) (cell : β → AVal) where
  v : Value
  x : β
  one : v.oneCell' = true
  rd : Rd C w (cell x) v

omit [Draws] in
attribute [local instance] upD in

theorem cmpLays1_of {C : Nat → Nat} {w : World} {cell : β → AVal} [Inhabited (El1 C w cell)] {cmp : β → β → Int} {g : FuncId} {caps : List AVal} {cb : Array Value}
    (hcl : caps.length = cb.size) (hcr : ∀ (i : Nat) (c : AVal) (v : Value), caps[i]? = some c → cb[i]? = some v → Rd C w c v)
    (eg : ∀ args w, (callFunc g args).run P w = .ok (.enter g args) w)
    (hg : ∀ x y, @ACalls upD P g ([cell x, cell y] ++ caps) [] (fun r _ => r = .int .i64 (cmp x y)))
    {blk off size : Nat} (hlt : ∀ b, 0 < C b → b < w.heap.size) (hblk : C blk = 0) :
    Go.Proofs.CmpLays1 P g cb (fun e : El1 C w cell => e.v) (fun a b => cmp a.x b.x) blk off size w := by
  intro m os dk hs x y
  obtain ⟨W, hW⟩ : ∃ W, Go.Proofs.sortWorld (fun e : El1 C w cell => e.v) w blk off m dk os = W := ⟨_, rfl⟩
  rw [hW]
  have hsz : w.heap.size ≤ W.heap.size := by
    rw [← hW]
    unfold Go.Proofs.sortWorld Go.Sort.putRow mapBlock Go.Sort.grow Go.Sort.ahead
    simp
  have hcell : ∀ b i, i < C b → W.cell? ⟨b, i, none⟩ = w.cell? ⟨b, i, none⟩ := by
    intro b i hi
    have hb : b < w.heap.size := hlt b (by omega)
    have hbb : b ≠ blk := fun e => by rw [e, hblk] at hi; omega
    refine cell_heap ?_
    rw [← hW]
    unfold Go.Proofs.sortWorld Go.Sort.putRow mapBlock Go.Sort.grow Go.Sort.ahead
    simp only []
    rw [Array.getElem?_append_left (by simp; exact hb), Array.getElem?_modify, if_neg (Ne.symm hbb)]
  have hwf : WF C (fun _ => none) [] W := ⟨fun id o h => by simp at h, fun id o h => by simp at h, fun id o l h => by simp at h, fun id l h => by simp at h, fun i j li lj h => by simp at h, fun b hb => Nat.lt_of_lt_of_le (hlt b hb) hsz⟩
  have h := hg x.x y.x C (fun _ => none) W (#[x.v, y.v] ++ cb) hwf (by simp [hcl]; omega) fun i a v ha hv => by
    rcases i with _ | _ | i
    · rw [Array.getElem?_append_left (by simp)] at hv
      simp at ha hv; subst ha hv; exact .rd (x.rd.later hcell)
    · rw [Array.getElem?_append_left (by simp)] at hv
      simp at ha hv; subst ha hv; exact .rd (y.rd.later hcell)
    · rw [Array.getElem?_append_right (by simp)] at hv
      exact .rd ((hcr i a v (by simpa using ha) (by simpa using hv)).later hcell)
  unfold CallsX at h
  rw [eg] at h
  refine Calls.mono h fun e w' => ?_
  rintro ⟨v, r, C', τ', H', rfl, rfl, hrv, hst, _⟩
  refine ⟨?_, w'.drawn - W.drawn, w'.heap.extract W.heap.size w'.heap.size, ?_⟩
  · cases hrv with
    | rd h => cases h; rfl
  · have f := hst.fr
    have hp : ∀ b, b < W.heap.size → w'.heap[b]? = W.heap[b]? := fun b hb => f.prot b ⟨hb, by rintro ⟨id, l, h, _⟩; simp at h⟩
    have hh : w'.heap = W.heap ++ w'.heap.extract W.heap.size w'.heap.size := by
      refine Array.ext_getElem? fun i => ?_
      by_cases hi : i < W.heap.size
      · rw [Array.getElem?_append_left hi]; exact hp i hi
      · rw [Array.getElem?_append_right (by omega), Array.getElem?_extract]
        by_cases hi2 : i < w'.heap.size
        · rw [if_pos (by omega)]; congr 1; omega
        · rw [if_neg (by omega)]; exact Array.getElem?_eq_none (by omega)
    have hd : w'.drawn = W.drawn + (w'.drawn - W.drawn) := by have := f.drawn trivial; omega
    obtain ⟨h1, h2, h3, h4, h5⟩ := w'
    unfold Go.Sort.grow World.drewN
    simp only [World.mk.injEq]
    exact ⟨hh, f.tape, hd, f.os, f.output⟩

theorem St.putRow1 {w0 w w1 : World} {Pr : Nat → Prop} {C : Nat → Nat} {τ : Nat → Option Loc} {H : List AObj} {cell : β → AVal} (hcl : ∀ x, (cell x).isCell = true) [Inhabited (El1 C w cell)]
    (h : St w0 Pr C τ H w1) (hw1 : w1.heap = w.heap) {i0 : Nat} {es : List β} {l : Loc} (ho : H[i0]? = some (.arr 1 (es.map fun x => [cell x]))) (hl : τ i0 = some l) (d : Array (El1 C w cell)) (hd : d.size = es.length) :
    St w0 Pr C τ (H.set i0 (.arr 1 (d.toList.map fun e => [cell e.x]))) (Go.Sort.putRow (fun e : El1 C w cell => e.v) w1 l.b 0 d) ∧ Step C τ H w1 C τ (H.set i0 (.arr 1 (d.toList.map fun e => [cell e.x]))) (Go.Sort.putRow (fun e : El1 C w cell => e.v) w1 l.b 0 d) := by
  obtain ⟨hcap, cs, elem, fz, h1, h2, h3, _⟩ := h.wf.objs i0 _ l ho hl
  rw [List.length_map] at hcap
  have hw : (Go.Sort.putRow (fun e : El1 C w cell => e.v) w1 l.b 0 d).heap[l.b]? = some (.cells (Go.Sort.putCells (fun e : El1 C w cell => e.v) 0 d cs) elem fz) := by
    unfold Go.Sort.putRow mapBlock
    simp only [Array.getElem?_modify, if_true, h1, Option.map_some, onCells]
  refine h.set_obj (w' := Go.Sort.putRow (fun e : El1 C w cell => e.v) w1 l.b 0 d) (o' := .arr 1 (d.toList.map fun e => [cell e.x])) ho hl (fun b hb => ?_) (by simp [Go.Sort.putRow, mapBlock]) rfl rfl rfl rfl ⟨rfl, by simp; omega, fun _ => rfl⟩ (fun e he => ?_) fun C' τ' H' s => ?_
  · unfold Go.Sort.putRow mapBlock
    simp only [Array.getElem?_modify]
    rw [if_neg (Ne.symm hb)]
  · obtain ⟨x, _, rfl⟩ := List.mem_map.1 he
    exact ⟨rfl, fun c hc => by rw [List.mem_singleton.1 hc]; exact hcl x.x⟩
  · refine ⟨by simp; omega, _, elem, fz, hw, by simp [Go.Sort.putCells, h2], by simpa [Go.Sort.putCells] using h3, fun i j e c he hc => ?_⟩
    rw [List.getElem?_map] at he
    obtain ⟨x, hx, rfl⟩ := Option.map_eq_some_iff.1 he
    have hi : i < d.size := by have := (List.getElem?_eq_some_iff.1 hx).1; simpa using this
    obtain rfl : j = 0 := by have := (List.getElem?_eq_some_iff.1 hc).1; simpa using this
    simp at hc
    subst hc
    have hxd : d[i]! = x := by
      rw [getElem!_pos d i hi]
      have := (List.getElem?_eq_some_iff.1 hx).2
      simpa using this
    have htc : i < cs.size := by omega
    refine ⟨x.v, ?_, ?_⟩
    · unfold Go.Sort.putCells
      rw [Nat.mul_one, Nat.add_zero, Array.getElem?_mapIdx, Array.getElem?_eq_getElem htc]
      simp only [Option.map_some, Nat.zero_le, true_and, Nat.zero_add, hi, if_true, Nat.sub_zero, hxd]
    · have hx1 : Rd C w1 (cell x.x) x.v := x.rd.later fun b i _ => cell_heap (by rw [hw1])
      exact (Rel.rd hx1).mono s

theorem row_of1 {w0 w : World} {Pr : Nat → Prop} {C : Nat → Nat} {τ : Nat → Option Loc} {H : List AObj} {cell : β → AVal} (hpu : ∀ x, (cell x).isPure = true)
    (h : St w0 Pr C τ H w) {i0 : Nat} {es : List β} {l : Loc} (ho : H[i0]? = some (.arr 1 (es.map fun x => [cell x]))) (hl : τ i0 = some l) :
    ∃ d : Array (El1 C w cell), d.size = es.length ∧ d.toList.map (fun e => e.x) = es ∧ ∀ [Inhabited (El1 C w cell)], Holds (fun e : El1 C w cell => e.v) w l.b 0 d := by
  obtain ⟨hcap, cs, elem, fz, h1, h2, h3, h4⟩ := h.wf.objs i0 _ l ho hl
  rw [List.length_map] at hcap
  have mk : ∀ i : Fin es.length, ∃ e : El1 C w cell, cs[i.1]? = some e.v ∧ e.x = es[i.1] := fun ⟨i, hi⟩ => by
    obtain ⟨v, hv, hr⟩ := h4 i 0 [cell es[i]] (cell es[i]) (by rw [List.getElem?_map, List.getElem?_eq_getElem hi]; rfl) rfl
    have hrd := hr.pure (hpu _)
    exact ⟨⟨v, es[i], hr.plain (AVal.isCell_of_isPure (hpu _)), hrd⟩, by simpa using hv, rfl⟩
  refine ⟨Array.ofFn fun i => (mk i).choose, by simp, ?_, ?_⟩
  · refine List.ext_getElem? fun i => ?_
    by_cases hi : i < es.length
    · rw [List.getElem?_map, Array.getElem?_toList, Array.getElem?_ofFn, dif_pos hi, List.getElem?_eq_getElem hi]
      show some ((mk ⟨i, hi⟩).choose).x = _
      rw [(mk ⟨i, hi⟩).choose_spec.2]
    · rw [List.getElem?_eq_none (by simp; omega), List.getElem?_eq_none (by omega)]
  · intro _ t ht
    rw [Array.size_ofFn] at ht
    have hs := (mk ⟨t, ht⟩).choose_spec.1
    have htc := (Array.getElem?_eq_some_iff.1 hs).1
    rw [getElem!_pos _ t (by rw [Array.size_ofFn]; exact ht), Array.getElem_ofFn]
    refine ⟨?_, ?_⟩
    · simp only [World.cell?, h1, Nat.zero_add]
      exact hs
    · simp only [World.frozen?, h1, Nat.zero_add]
      simp only [Bool.and_eq_false_iff, decide_eq_false_iff_not]
      simp only [] at htc
      omega

theorem sort1_spec {ρ : Go.Shelf.Ren} (L : Go.Proofs.SlLaysF.n6 P ρ)
    {cell : β → AVal} (hpu : ∀ x, (cell x).isPure = true) {cmp : β → β → Int} (hO : SWO (Go.Proofs.ltOf cmp)) {g : FuncId} {caps : List AVal} (hcp : caps.all AVal.isPure = true)
    (eg : ∀ args w, (callFunc g args).run P w = .ok (.enter g args) w)
    (hg : ∀ x y, @ACalls upD P g ([cell x, cell y] ++ caps) [] (fun r _ => r = .int .i64 (cmp x y)))
    {es : List β} (hne : es ≠ []) (hlen : es.length ≤ 1000000) {H : List AObj} {i0 : Nat} (ho : H[i0]? = some (.arr 1 (es.map fun x => [cell x]))) :
    ACalls P (ρ.f 6) [.sl i0 es.length 0 es.length, .fn g caps] H (fun r H' => r = .tuple [] ∧ ∃ es', Sorted cmp es es' ∧ H' = H.set i0 (.arr 1 (es'.map fun x => [cell x]))) := by
  intro C τ w vs hw hl hr
  obtain ⟨v0, v1, rfl⟩ : ∃ v0 v1, vs = #[v0, v1] := by
    obtain ⟨m⟩ := vs
    match m, hl with
    | [v0, v1], _ => exact ⟨v0, v1, rfl⟩
  have r0 := hr 0 _ v0 rfl rfl
  have r1 := hr 1 _ v1 rfl rfl
  obtain ⟨cb, hcl, hcr, e1⟩ : ∃ cb : Array Value, caps.length = cb.size ∧ (∀ (i : Nat) (c : AVal) (v : Value), caps[i]? = some c → cb[i]? = some v → Rd C w c v) ∧ v1 = .func (.func g) #[] cb := by
    cases r1 with
    | rd h => cases h; exact ⟨#[], rfl, fun i c v hc => by simp at hc, rfl⟩
    | fn _ _ vs hl2 h => exact ⟨vs, hl2, fun i c v hc hv => (h i c v hc hv).pure (List.all_eq_true.1 hcp c (List.mem_of_getElem? hc)), rfl⟩
  subst e1
  have hpos : 0 < es.length := List.length_pos_iff.2 hne
  cases r0 with
  | rd h => cases h
  | sl _ _ _ _ a cap esz es0 ho' hep hcur =>
  rw [ho] at ho'
  cases ho'
  obtain ⟨_, hcap, hor⟩ := hcur (by simp)
  rcases hor with ⟨_, h0⟩ | ⟨l, hlt, hlc, ha⟩
  · omega
  have ha2 : a = some ⟨l.b, 0, none⟩ := by
    rcases ha with h0 | h0
    · omega
    · rw [h0, Nat.zero_mul]
  subst ha2
  have st := St.start hw
  obtain ⟨d, hd, hdx, hH⟩ := row_of1 hpu st ho hlt
  haveI : Inhabited (El1 C w cell) := ⟨d[0]'(by omega)⟩
  have hid := (List.getElem?_eq_some_iff.1 ho).1
  have hcmp := cmpLays1_of (P := P) (C := C) (w := w) (cb := cb) hcl hcr eg hg (blk := l.b) (off := 0) (size := d.size) hw.lt (hw.comm i0 l hid hlt)
  have hO2 : SWO (Go.Proofs.ltOf fun a b : El1 C w cell => cmp a.x b.x) := ⟨fun x => hO.irrefl x.x, fun x y z => hO.trans x.x y.x z.x, fun x y z => hO.ntrans x.x y.x z.x⟩
  have main := Go.Proofs.Any.slices_SortFunc L (fun e : El1 C w cell => e.v) (fun x => x.one) (fun a b => cmp a.x b.x) hO2 g cb l.b 0 cap d w eg hcmp hH (hw.locLt hid hlt) (by omega)
  rw [hd] at main
  unfold CallsX
  have en : ∀ args w, (callFunc (ρ.f 6) args).run P w = .ok (.enter (ρ.f 6) args) w := L.f6.enters rfl
  rw [en]
  refine Calls.mono main fun e w' => ?_
  rintro ⟨rfl, d', n, os, hp, hs, rfl⟩
  have hd's : d'.size = es.length := by have := hp.1; omega
  obtain ⟨st1, s1⟩ := st.same (w' := Go.Sort.ahead w n) rfl rfl rfl rfl (Nat.le_add_right _ _)
  obtain ⟨st2, s2⟩ := st1.putRow1 (w := w) (fun x => AVal.isCell_of_isPure (hpu x)) rfl ho hlt d' hd's
  obtain ⟨st3, s3⟩ := st2.grow os.toList
  have ew : Go.Sort.grow (Go.Sort.putRow (fun e : El1 C w cell => e.v) (Go.Sort.ahead w n) l.b 0 d') os.toList.toArray = Go.Proofs.sortWorld (fun e : El1 C w cell => e.v) w l.b 0 n d' os := by
    rw [Array.toArray_toList]; rfl
  rw [ew] at st3 s3
  refine ⟨.tuple #[], .tuple [], C, τ, _, rfl, ⟨rfl, d'.toList.map (fun e => e.x), ⟨?_, fun i j x y hij hx hy => ?_⟩, by rw [List.map_map]; rfl⟩, .tuple _ _ rfl fun i c v h => by simp at h, st3, (s1.trans s2).trans s3⟩
  · have h3 := hp.2.2
    have a1 : d'.extract 0 es.length = d' := by rw [← hd's]; simp
    have a2 : d.extract 0 es.length = d := by rw [← hd]; simp
    rw [a1, a2] at h3
    have := h3.map (fun e : El1 C w cell => e.x)
    rwa [hdx] at this
  · rw [List.getElem?_map] at hx hy
    obtain ⟨ex, hx1, rfl⟩ := Option.map_eq_some_iff.1 hx
    obtain ⟨ey, hy1, rfl⟩ := Option.map_eq_some_iff.1 hy
    clear hx hy
    have hj := (List.getElem?_eq_some_iff.1 hy1).1
    rw [Array.length_toList, hd's] at hj
    have h4 := hs i j (Nat.zero_le _) hij hj
    have b1 : d'[i]! = ex := by
      rw [getElem!_pos d' i (by omega)]
      have := (List.getElem?_eq_some_iff.1 hx1).2
      simpa using this
    have b2 : d'[j]! = ey := by
      rw [getElem!_pos d' j (by omega)]
      have := (List.getElem?_eq_some_iff.1 hy1).2
      simpa using this
    rw [b1, b2] at h4
    unfold Go.Proofs.ltOf at h4
    simp at h4
    exact h4

end
end Go.AW

namespace Go.AW
variable [Draws]
open Go.Sort
attribute [local irreducible] ACalls
abbrev RowS := {r : List V // r.length ≤ 1000}

def subRw : (l : List (List V)) → (∀ r ∈ l, r.length ≤ 1000) → List RowS
  | [], _ => []
  | r :: l, h => ⟨r, h r (List.mem_cons_self ..)⟩ :: subRw l fun r hr => h r (List.mem_cons_of_mem _ hr)

theorem subRw_map : ∀ (l : List (List V)) (h : ∀ r ∈ l, r.length ≤ 1000), (subRw l h).map (fun e => e.1) = l
  | [], _ => rfl
  | e :: l, h => by rw [subRw, List.map_cons, subRw_map l]

theorem swo_O (is : List Int) : SWO (Go.Proofs.ltOf fun a b : RowS => cmpO is a.1 b.1) where
  irrefl x := by simp [Go.Proofs.ltOf, ((isCmp_O is).zero x.1 x.1).2 rfl]
  trans x y z h1 h2 := by
    simp [Go.Proofs.ltOf] at h1 h2 ⊢
    exact (isCmp_O is).trans _ _ _ h1 h2
  ntrans x y z h1 h2 := by
    simp [Go.Proofs.ltOf] at h1 h2 ⊢
    have a1 := (isCmp_O is).anti x.1 y.1
    have a2 := (isCmp_O is).anti y.1 z.1
    have a3 := (isCmp_O is).anti x.1 z.1
    have := (isCmp_O is).le_trans (x := z.1) (y := y.1) (z := x.1) (by omega) (by omega)
    omega

theorem sortR_of {P : Program} {ρ : Go.Shelf.Ren} (L : Go.Proofs.SlLaysF.n6 P ρ) (F : F_window_partitions_1 P) : SortR P (ρ.f 6) F.id := by
  intro e3 is l his hne hl hr H i0 ho
  have eg : ∀ args w, (callFunc F.id args).run P w = .ok (.enter F.id args) w := by
    obtain ⟨fn, c, h1, h2, h3, _⟩ := F.has
    exact Go.Proofs.enters_of h1 h2 h3
  have hm := subRw_map l hr
  have hcells : ((subRw l hr).map fun x => [AVal.list false 3 (vC x.1)]) = rwC l := by
    have := congrArg rwC hm
    rw [← this, rwC, rwA, List.map_map, List.map_map]; rfl
  have hlen : (subRw l hr).length = l.length := by rw [← List.length_map (f := fun e : RowS => e.1), hm]
  have main := sort1_spec (P := P) L (cell := fun e : RowS => AVal.list false 3 (vC e.1)) (fun _ => rfl) (cmp := fun a b => cmpO is a.1 b.1) (swo_O is) (g := F.id) (caps := [.cptr [.list e3 1 (iC is)] 0]) rfl eg
    (fun x y => @ACalls.mono upD P _ F.id _ _ _ (@partitions_1_spec upD P F false false e3 x.1 y.1 is (by have := x.2; omega) (by have := y.2; omega) his []) fun _ _ h => h.1)
    (es := subRw l hr) (fun h => by rw [h] at hm; exact hne hm.symm) (by omega) (H := H) (i0 := i0) (by rw [hcells]; exact ho)
  rw [hlen] at main
  refine main.mono ?_
  rintro r H' ⟨rfl, es', ⟨hp, hs⟩, rfl⟩
  refine ⟨rfl, ?_⟩
  have e : es'.map (fun e => e.1) = srtO is l := by
    refine srtC_eq (isCmp_O is) (List.pairwise_iff_getElem.2 fun i j hi hj hij => ?_) (by have := hp.map (fun e : RowS => e.1); rwa [hm] at this)
    rw [List.length_map] at hi hj
    have := hs i j es'[i] es'[j] hij (List.getElem?_eq_getElem hi) (List.getElem?_eq_getElem hj)
    replace this : 0 ≤ cmpO is (es'[j]).1 (es'[i]).1 := this
    rw [(isCmp_O is).anti] at this
    simp only [List.getElem_map]
    omega
  rw [← e, rwC, rwA, List.map_map, List.map_map]; rfl

end Go.AW

