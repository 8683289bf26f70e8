/-
  An abstract machine over the model, the code of functions on it, and their contracts: what the claim needs.
  No condition: definitions, plain laws, contracts over any program that has this code.
-/
import Derived.Test.YtiigcfeklofcaaaZ6
set_option linter.all false
namespace Go.AW
attribute [local irreducible] ACalls
theorem wv1_valid (k : Int) (l : List Int) (i : Nat) : validB (wv1 k l i).1 = true := by
  have h2 := nx_bnd l i 2 (by decide)
  have h7 := nx_bnd l i 7 (by decide)
  have h5 := nx_bnd l i 5 (by decide)
  have h16 := nx_bnd l i 16 (by decide)
  unfold wv1
  split
  · have : (nx l i 2).1 = 0 ∨ (nx l i 2).1 = 1 := by omega
    rcases this with h | h <;> rw [h] <;> rfl
  split
  · simp [validB, bs_nil]; omega
  split
  · have : ∀ k, k < 5 → validB ⟨3, 0, wtexts.getD k (bs [])⟩ = true := by decide
    exact this _ (by omega)
  · have : ∀ k, k < 16 → validB ⟨4, instL.getD k 0, bs []⟩ = true := by decide
    exact this _ (by omega)

theorem wv_valid (c : Col) (l : List Int) (i : Nat) : validB (wv c l i).1 = true := by
  unfold wv
  repeat' split
  · rfl
  · exact wv1_valid _ _ _
  · exact wv1_valid _ _ _

theorem wr_valid (l : List Int) : ∀ (cs : List Col) (i : Nat) (out : List V), out.all validB = true → (wr l cs i out).1.all validB = true
  | [], _, _, h => h
  | c :: cs, i, out, h => by
    rw [wr]
    exact wr_valid l cs _ _ (by rw [List.all_append, h]; simp [wv_valid])

theorem delR_valid (key : List ByteArray) : ∀ (cs : List Col) (vs : List V), vs.all validB = true → (delR key cs vs).all validB = true
  | [], _, _ => rfl
  | _ :: _, [], _ => rfl
  | c :: cs, v :: vs, h => by
    rw [List.all_cons, Bool.and_eq_true] at h
    rw [delR, List.all_cons, delR_valid key cs vs h.2, Bool.and_true]
    split
    · exact h.1
    · rfl

theorem delR_le (key : List ByteArray) : ∀ (cs : List Col) (vs : List V), (delR key cs vs).length ≤ cs.length
  | [], _ => Nat.zero_le _
  | _ :: _, [] => Nat.zero_le _
  | c :: cs, v :: vs => by rw [delR, List.length_cons, List.length_cons]; have := delR_le key cs vs; omega

theorem set_valid : ∀ (l : List V) (k : Nat) (v : V), l.all validB = true → validB v = true → (l.set k v).all validB = true
  | [], _, _, _, _ => rfl
  | x :: l, 0, v, h, hv => by
    rw [List.all_cons, Bool.and_eq_true] at h
    rw [List.set_cons_zero, List.all_cons, hv, h.2]; rfl
  | x :: l, k + 1, v, h, hv => by
    rw [List.all_cons, Bool.and_eq_true] at h
    rw [List.set_cons_succ, List.all_cons, h.1, set_valid l k v h.2 hv]; rfl

theorem take_valid (l : List V) (k : Nat) (h : l.all validB = true) : (l.take k).all validB = true := by
  rw [List.all_eq_true] at h ⊢
  exact fun x hx => h x (List.mem_of_mem_take hx)

def okR (r : Rec) : Prop := r.seq ≤ 3 ∧ r.row.length ≤ 12 ∧ r.row.all validB = true

theorem wrec_ok (s : Src) (hs : s.cols.length ≤ 12) (l : List Int) (i : Nat) : okR (wrec s l i).1 := by
  have h4 := nx_bnd l i 4 (by decide)
  have hv : (wrow s l i).all validB = true := wr_valid _ _ _ _ rfl
  have hl := wrow_len s l i
  unfold wrec
  split
  · exact ⟨by show (nx l i 4).1 ≤ 3; omega, Nat.le_trans (delR_le _ _ _) hs, delR_valid _ _ _ hv⟩
  split
  · exact ⟨by show (nx l i 4).1 ≤ 3; omega, by show (wrow s l i).length ≤ 12; omega, hv⟩
  split
  · exact ⟨by show (nx l i 4).1 ≤ 3; omega, by show ((wrow s l i).take _).length ≤ 12; rw [List.length_take]; omega, take_valid _ _ hv⟩
  split
  · exact ⟨by show (nx l i 4).1 ≤ 3; omega, by show ((wrow s l i).set _ _).length ≤ 12; rw [List.length_set]; omega, set_valid _ _ _ hv (by decide)⟩
  split
  · exact ⟨by show (-1 : Int) ≤ 3; decide, by show (wrow s l i).length ≤ 12; omega, hv⟩
  · exact ⟨by show (nx l i 4).1 ≤ 3; omega, by show (wrow s l i).length ≤ 12; omega, hv⟩

theorem wf_ok (s : Src) (hs : s.cols.length ≤ 12) (l : List Int) : ∀ (k i : Nat) (L : List Rec), (∀ r ∈ L, okR r) → ∀ r ∈ (wf s l k i L).1, okR r
  | 0, _, _, h => h
  | k + 1, i, L, h => by
    rw [wf]
    refine wf_ok s hs l k _ _ fun r hr => ?_
    rcases List.mem_append.1 hr with hr | hr
    · exact h r hr
    · rw [List.mem_singleton.1 hr]; exact wrec_ok s hs l i

theorem fixR_ok {r : Rec} (h : okR r) : recE (fixR r) = 0 := by
  obtain ⟨h1, h2, h3⟩ := h
  have e : ∀ q : Int, 0 ≤ q → q ≤ 1073741824 → recE ⟨r.del, q, r.row⟩ = 0 := fun q ha hb => by
    rw [recE, if_neg (by show ¬ (q < 0 ∨ 1073741824 < q); omega), rowE, if_neg (by show ¬ 12 < r.row.length; omega), if_pos h3]
  unfold fixR
  split
  · exact e _ (by decide) (by decide)
  · exact e r.seq (by omega) (by omega)

theorem recsE_all : ∀ {l : List Rec}, (∀ r ∈ l, recE r = 0) → recsE l = 0
  | [], _ => rfl
  | x :: l, h => by rw [recsE, if_neg (by simp [h x (List.mem_cons_self ..)]), recsE_all fun r hr => h r (List.mem_cons_of_mem _ hr)]

theorem wsrc_cols (n : Int) : (wsrc n).cols.length ≤ 12 := by
  rw [wsrc]
  show (if wpart n then _ else _ : List Col).length ≤ 12
  split <;> simp [wcols]

theorem fileV_len (l : List Int) (n : Int) : (fileV l n).recs.length ≤ 6 := by
  have h7 := nx_bnd l 0 7 (by decide)
  show ((wfR (wsrc n) l).1.map fixR).length ≤ 6
  rw [List.length_map, wfR, wf_len, wfN]
  simp; omega

theorem fileV_recs (l : List Int) (n : Int) : recsE (fileV l n).recs = 0 := by
  refine recsE_all fun r hr => ?_
  obtain ⟨x, hx, rfl⟩ := List.mem_map.1 hr
  exact fixR_ok (wf_ok _ (wsrc_cols n) _ _ _ _ (fun r h => by simp at h) x hx)

theorem fileV_filE (l : List Int) (n : Int) : filE (fileV l n) = 0 := by
  have h1 := Int.emod_nonneg n (show (12 : Int) ≠ 0 by decide)
  have h2 := Int.emod_lt_of_pos n (show (0 : Int) < 12 by decide)
  have hn : ∀ k, k < 12 → nameB (wnames.getD k (bs [])) = true := by decide
  have hn1 : nameB (fileV l n).id = true := hn _ (by omega)
  have hq : qualB (fileV l n).src = true := by show qualB sName = true; decide
  have := fileV_len l n
  rw [filE, if_neg (by rw [hn1, hq]; simp), if_neg (by omega), fileV_recs]

theorem fileV_E (l : List Int) (n : Int) : encFE (fileV l n) = 0 := by
  have h1 := recsB_len (fileV_recs l n)
  have h2 := fileV_len l n
  have h3 := wname_size n
  rw [encFE, if_neg (by rw [fileV_filE]; simp), if_neg ?_]
  have hi : (fileV l n).id.size ≤ 2 := h3
  have hs : (fileV l n).src.size = 11 := rfl
  simp only [filB, bodyB, headB, List.length_append, List.length_cons, List.length_nil, beN_length, bytesI_length]
  omega

theorem filB_inj {f g : Fil} (hf : encFE f = 0) (hg : encFE g = 0) (h : filB f = filB g) : f = g := by
  have h1 := (dec_enc hf).2.1
  have h2 := (dec_enc hg).2.1
  rw [← h1, ← h2, h]

theorem law_small (l : List Int) (n : Int) : (fileV l n).recs.length ≤ 1000000 ∧ ∀ r ∈ (fileV l n).recs, r.row.length ≤ 1000000 := filE_small (fileV_filE l n)

set_option maxRecDepth 20000 in
theorem law_BatchBack {P : Program} (F : F_warehouselaw24_BatchBack P) (l k : List Int) (n m : Int) :
    ACalls P F.id [.list false 1 (iC l), .list false 1 (iC k), .int .i64 n, .int .i64 m] [] (fun r _ => r = .bool true) := by
  have fin : ∀ H, ACalls P F.warehouselaw24_known.id [] H (fun r H' => r = .bool true ∧ H' = H) := known24_spec F.warehouselaw24_known
  refine acalls_of_body F.has ?_
  (conv => whnf); refine recA (fun h1 => ?_) (fun h1 => ?_)
  · (conv => whnf); refine ACalls.use (fin _) ?_
    conv => whnf
  simp [iC_length] at h1
  (conv => whnf); refine recA (fun h2 => ?_) (fun h2 => ?_)
  · (conv => whnf); refine ACalls.use (fin _) ?_
    conv => whnf
  simp [iC_length] at h2
  have hw := wname_size n
  have hw2 := wname_size m
  have c1 := fun H => batch_Encode_spec F.batch_Encode (fileV l n) (by show (wname n).size ≤ _; omega) (by show sName.size ≤ _; decide) H
  have c2 := fun H => batch_Encode_spec F.batch_Encode (fileV k m) (by show (wname m).size ≤ _; omega) (by show sName.size ≤ _; decide) H
  rw [encFR, if_pos (fileV_E l n)] at c1
  rw [encFR, if_pos (fileV_E k m)] at c2
  have c3 := fun H => batch_Decode_spec F.batch_Decode (filB (fileV l n)) (filB_byt _) H
  rw [(dec_enc (fileV_E l n)).1, (dec_enc (fileV_E l n)).2.1] at c3
  (conv => whnf); refine ACalls.use (file24_spec F.warehouselaw24_file l n (by omega) _) ?_
  (conv => whnf); refine ACalls.use (file24_spec F.warehouselaw24_file k m (by omega) _) ?_
  (conv => whnf); refine ACalls.use (c1 _) ?_
  (conv => whnf); refine ACalls.use (c2 _) ?_
  (conv => whnf); refine ACalls.use (c3 _) ?_
  (conv => whnf); refine ⟨_, SameFile_refl F.warehouseref24_SameFile (fileV l n) (law_small l n).1 (law_small l n).2 _, ?_⟩
  (conv => whnf); refine ⟨_, SameBytes_spec F.warehouseworld_SameBytes false false (filB (fileV l n)) (filB (fileV k m)) (filB_byt _) (filB_byt _) _, ?_⟩
  (conv => whnf); refine ⟨_, SameFile_spec F.warehouseref24_SameFile (fileV l n) (fileV k m) (law_small l n).1 (law_small l n).2 _, ?_⟩
  have hfin : ((filB (fileV l n) == filB (fileV k m)) == eqD (fileV l n) (fileV k m)) = true := by
    by_cases he : fileV l n = fileV k m
    · rw [eqD_true he, he]; simp
    · rw [eqD_false he]
      have : filB (fileV l n) ≠ filB (fileV k m) := fun h => he (filB_inj (fileV_E l n) (fileV_E k m) h)
      simp [this]
  (conv => whnf); refine recT (hfin) ?_
  (conv => whnf); refine ⟨_, fin _, ?_⟩
  conv => whnf

end Go.AW

namespace Go.AW
attribute [local irreducible] ACalls
theorem u8w_byt (x : Int) : 0 ≤ IntKind.u8.wrap x ∧ IntKind.u8.wrap x ≤ 255 := by
  have := u8_eq x
  show 0 ≤ u8 x ∧ u8 x ≤ 255
  omega

theorem set_byt {l : List Int} (h : Byt l) (k : Nat) {v : Int} (hv : 0 ≤ v ∧ v ≤ 255) : Byt (l.set k v) := fun x hx => by
  rcases List.mem_or_eq_of_mem_set hx with h1 | h1
  · exact h x h1
  · rw [h1]; exact hv

theorem filB_pos (f : Fil) : 0 < (filB f).length := by
  simp only [filB, bodyB, headB, List.length_append, List.length_cons, beN_length]; omega

def tO (x y z : List Int) : AObj := .arr 1 [[.list false 1 (bC x)], [.list false 1 (bC y)], [.list false 1 (bC z)]]

set_option maxRecDepth 20000 in
theorem law_BatchTurned {P : Program} (F : F_warehouselaw24_BatchTurned P) (l : List Int) (n at1 by1 cut more : Int) (_ : l.length ≤ maxLen) (_ : ∀ x ∈ l, (Lit.int .i64 x).wf = true) (_ : (Lit.int .i64 n).wf = true) (_ : (Lit.int .i64 at1).wf = true) (_ : (Lit.int .u8 by1).wf = true) (_ : (Lit.int .i64 cut).wf = true) (hmw : (Lit.int .u8 more).wf = true) :
    ACalls P F.id [.list false 1 (iC l), .int .i64 n, .int .i64 at1, .int .u8 by1, .int .i64 cut, .int .u8 more] [] (fun r _ => r = .bool true) := by
  have fin : ∀ H, ACalls P F.warehouselaw24_known.id [] H (fun r H' => r = .bool true ∧ H' = H) := known24_spec F.warehouselaw24_known
  refine acalls_of_body F.has ?_
  (conv => whnf); refine recA (fun h1 => ?_) (fun h1 => ?_)
  · (conv => whnf); refine ACalls.use (fin _) ?_
    conv => whnf
  simp [iC_length] at h1
  have hw := wname_size n
  have c1 := fun H => batch_Encode_spec F.batch_Encode (fileV l n) (by show (wname n).size ≤ _; omega) (by show sName.size ≤ _; decide) H
  rw [encFR, if_pos (fileV_E l n)] at c1
  obtain ⟨b, hb⟩ : ∃ b, filB (fileV l n) = b := ⟨_, rfl⟩
  have hpos := filB_pos (fileV l n)
  have hlen := (encFE_zero (fileV_E l n)).2
  have hby : Byt b := hb ▸ filB_byt _
  rw [hb] at c1 hpos hlen
  (conv => whnf); refine ACalls.use (file24_spec F.warehouselaw24_file l n (by omega) _) ?_
  (conv => whnf); refine ACalls.use (c1 _) ?_
  (conv => whnf); refine recF (by rw [bC_length]; exact beq_eq_false_iff_ne.2 (by omega)) ?_
  (conv => whnf); refine And.intro (⟨roomB_le1 (by rw [bC_length]; omega), roomB_le (by rw [bC_length]; omega)⟩) ?_
  have hp1 := Int.emod_nonneg at1 (show ((b.length : Int)) ≠ 0 by omega)
  have hp2 := Int.emod_lt_of_pos at1 (show (0 : Int) < (b.length : Int) by omega)
  have hq1 := Int.emod_nonneg cut (show ((b.length : Int)) ≠ 0 by omega)
  have hq2 := Int.emod_lt_of_pos cut (show (0 : Int) < (b.length : Int) by omega)
  conv => whnf
  rw [bC_length]
  (conv => whnf); refine ACalls.use (Place_spec F.warehouseworld_Place at1 b.length (by omega) (by omega) _) ?_
  have hbb : Nat.beq b.length (bC b).length = true := by rw [bC_length]; exact Nat.beq_refl _
  have hidx : (bC b)[0 + (at1 % b.length).toNat]? = some [.int .u8 (b[(at1 % b.length).toNat]'(by omega))] := by
    rw [Nat.zero_add, bC, List.getElem?_map, List.getElem?_eq_getElem (by omega)]; rfl
  (conv => whnf); refine recT (hbb) ?_
  (conv => whnf); refine And.intro (⟨hp1, hp2⟩) ?_
  (conv => whnf); refine recT (hbb) ?_
  (conv => whnf); refine recO (hidx) ?_
  (conv => whnf); refine recT (hbb) ?_
  (conv => whnf); refine And.intro (⟨hp1, hp2⟩) ?_
  (conv => whnf); refine recT (hbb) ?_
  (conv => whnf); refine recO (hidx) ?_
  conv => whnf
  rw [bC_length]
  (conv => whnf); refine ACalls.use (Place_spec F.warehouseworld_Place cut b.length (by omega) (by omega) _) ?_
  (conv => whnf); refine And.intro (⟨hq1, by rw [bC_length]; omega⟩) ?_
  have htk : ((bC b).take (cut % b.length).toNat).drop 0 = bC (b.take (cut % b.length).toNat) := by rw [List.drop_zero, bC_take]
  have htl : (bC (b.take (cut % b.length).toNat)).length ≤ 65536 := by rw [bC_length, List.length_take]; omega
  conv => whnf
  rw [htk]
  (conv => whnf); refine And.intro (⟨roomB_le1 (by omega), roomB_le (by omega)⟩) ?_
  (conv => whnf); refine And.intro (⟨roomB_le1 (by rw [bC_length]; omega), roomB_le (by rw [bC_length]; omega)⟩) ?_
  try ((conv => whnf); refine recT (Nat.beq_refl _) ?_)
  (conv => whnf); refine And.intro (⟨roomB_le1 (by simp [bC_length]; omega), roomB_le (by simp [bC_length]; omega), rfl, rfl⟩) ?_
  conv => whnf
  obtain ⟨v, hv⟩ : ∃ v, IntKind.u8.wrap ↑(BitVec.ofInt IntKind.u8.bits (b[(at1 % b.length).toNat]'(by omega)) ^^^ BitVec.ofInt IntKind.u8.bits by1).toNat = v := ⟨_, rfl⟩
  have hvb : 0 ≤ v ∧ v ≤ 255 := hv ▸ u8w_byt _
  rw [hv]
  have e0 : bC (b.set (at1 % b.length).toNat v) = setEs (bC b) (0 + (at1 % b.length).toNat) [.int .u8 v] := by rw [Nat.zero_add, setEs_bC]
  have e2 : bC (b ++ [more]) = bC b ++ [[AVal.int .u8 more]] := bC_append _ _
  have hx : Byt (b.set (at1 % b.length).toNat v) := set_byt hby _ hvb
  have hy : Byt (b.take (cut % b.length).toNat) := fun a ha => hby a (List.mem_of_mem_take ha)
  have hz : Byt (b ++ [more]) := fun a ha => (List.mem_append.1 ha).elim (hby a) (fun h => by rw [List.mem_singleton.1 h]; exact bounds_u8 hmw)
  have hxl : (bC (b.set (at1 % b.length).toNat v)).length = b.length := by rw [bC_length, List.length_set]
  refine Ghost.some (n := 94) (live := [(67, .sl 0 3 0 3), (68, .int .i64 3), (69, .int .i64 0)]) (H1 := [.arr 1 [[.list false 1 (bC (b.set (at1 % b.length).toNat v))], [.list false 1 (bC (b.take (cut % b.length).toNat))], [.list false 1 (bC (b ++ [more]))]]]) [3] (by simp) ⟨⟨_, rfl, ?_⟩, trivial⟩ rfl ⟨.keep 3 3 0 3 0 rfl, .closed _ rfl, .closed _ rfl, trivial⟩ ?_
  · refine ob1s [_, _, _] [.list false 1 (bC (b.set (at1 % b.length).toNat v)), .list false 1 (bC (b.take (cut % b.length).toNat)), .list false 1 (bC (b ++ [more]))] rfl fun i x y h1 h2 => ?_
    rcases i with _ | _ | _ | i
    · cases h1; cases h2
      refine ⟨?_, rfl⟩
      rw [e0]
      exact pubFI (by simp) rfl (by rw [← e0, hxl]) (by rw [← e0, hxl]) (by rw [← e0]; exact pureEs_bC _)
    · cases h1; cases h2
      exact ⟨pubFI (by simp) rfl rfl rfl (pureEs_bC _), rfl⟩
    · cases h1; cases h2
      refine ⟨?_, rfl⟩
      rw [e2]
      exact pubFI (by simp) rfl rfl rfl (by rw [← e2]; exact pureEs_bC _)
    · simp at h1
  obtain ⟨X, hX⟩ : ∃ X, b.set (at1 % b.length).toNat v = X := ⟨_, rfl⟩
  obtain ⟨Y, hY⟩ : ∃ X, b.take (cut % b.length).toNat = X := ⟨_, rfl⟩
  obtain ⟨Z, hZ⟩ : ∃ X, b ++ [more] = X := ⟨_, rfl⟩
  rw [hX] at hx
  rw [hY] at hy
  rw [hZ] at hz
  rw [hX, hY, hZ]
  rintro ρ1 ⟨d, rfl⟩
  conv => whnf
  refine ⟨fun m ρ H1 => ∃ k : Nat, k + m = 3 ∧ H1 = [.arr 1 [[.list false 1 (bC X)], [.list false 1 (bC Y)], [.list false 1 (bC Z)]]] ∧ Sv 94 [(67, .sl 0 3 0 3), (68, .int .i64 3), (69, .int .i64 k)] ρ, 3, [], ?_, ?_⟩
  · exact ⟨0, by omega, rfl, Sv.intro rfl ⟨rfl, rfl, rfl, trivial⟩⟩
  rintro m ρ H1 ⟨k, hk, rfl, d, rfl⟩
  have hk3 : k = 0 ∨ k = 1 ∨ k = 2 ∨ k = 3 := by omega
  rcases hk3 with rfl | rfl | rfl | rfl
  · (conv => whnf); refine And.intro (⟨by decide, by decide⟩) ?_
    (conv => whnf); refine ACalls.mono (batch_Decode_spec F.batch_Decode (X) (hx) _) ?_
    rintro r H' ⟨rfl, rfl⟩
    (conv => whnf); refine ACalls.mono (ref24_Decode_spec F.warehouseref24_Decode (X) (hx) _) ?_
    rintro r H' ⟨rfl, rfl⟩
    rw [(dec_same (X)).1, (dec_same (X)).2]
    (conv => whnf); refine recF (by simp) ?_
    (conv => whnf); refine ACalls.use (SameFile_refl F.warehouseref24_SameFile (decFV (X)) (decFV_small _).1 (decFV_small _).2 _) ?_
    conv => whnf
    refine ⟨m - 1, by omega, Gp.first 1 [.arr 1 [[.list false 1 (bC X)], [.list false 1 (bC Y)], [.list false 1 (bC Z)]]] rfl rfl rfl rfl ?_ fun ρ1 h => ⟨1, by omega, rfl, h⟩⟩
    exact ⟨.keep 0 3 0 3 0 rfl, .closed _ rfl, .closed _ rfl, trivial⟩
  · (conv => whnf); refine And.intro (⟨by decide, by decide⟩) ?_
    (conv => whnf); refine ACalls.mono (batch_Decode_spec F.batch_Decode (Y) (hy) _) ?_
    rintro r H' ⟨rfl, rfl⟩
    (conv => whnf); refine ACalls.mono (ref24_Decode_spec F.warehouseref24_Decode (Y) (hy) _) ?_
    rintro r H' ⟨rfl, rfl⟩
    rw [(dec_same (Y)).1, (dec_same (Y)).2]
    (conv => whnf); refine recF (by simp) ?_
    (conv => whnf); refine ACalls.use (SameFile_refl F.warehouseref24_SameFile (decFV (Y)) (decFV_small _).1 (decFV_small _).2 _) ?_
    conv => whnf
    refine ⟨m - 1, by omega, Gp.first 1 [.arr 1 [[.list false 1 (bC X)], [.list false 1 (bC Y)], [.list false 1 (bC Z)]]] rfl rfl rfl rfl ?_ fun ρ1 h => ⟨2, by omega, rfl, h⟩⟩
    exact ⟨.keep 0 3 0 3 0 rfl, .closed _ rfl, .closed _ rfl, trivial⟩
  · (conv => whnf); refine And.intro (⟨by decide, by decide⟩) ?_
    (conv => whnf); refine ACalls.mono (batch_Decode_spec F.batch_Decode (Z) (hz) _) ?_
    rintro r H' ⟨rfl, rfl⟩
    (conv => whnf); refine ACalls.mono (ref24_Decode_spec F.warehouseref24_Decode (Z) (hz) _) ?_
    rintro r H' ⟨rfl, rfl⟩
    rw [(dec_same (Z)).1, (dec_same (Z)).2]
    (conv => whnf); refine recF (by simp) ?_
    (conv => whnf); refine ACalls.use (SameFile_refl F.warehouseref24_SameFile (decFV (Z)) (decFV_small _).1 (decFV_small _).2 _) ?_
    conv => whnf
    refine ⟨m - 1, by omega, Gp.first 1 [.arr 1 [[.list false 1 (bC X)], [.list false 1 (bC Y)], [.list false 1 (bC Z)]]] rfl rfl rfl rfl ?_ fun ρ1 h => ⟨3, by omega, rfl, h⟩⟩
    exact ⟨.keep 0 3 0 3 0 rfl, .closed _ rfl, .closed _ rfl, trivial⟩
  · (conv => whnf); refine ACalls.use (fin _) ?_
    conv => whnf

end Go.AW

