/-
  The laws of chapter 5: rows that fit columns.
  No condition: contracts over any program that has this code.
-/
import Derived.Test.YtikifhfpiahnoaaWhLaw5
import Derived.Test.YtikifhfpiahnoaaWhLaw1e
namespace Go.AW
attribute [local irreducible] ACalls

set_option maxRecDepth 20000 in
theorem law_SchemaRows {P : Program} (F : F_warehouselaw5_SchemaRows P) (c : List Col) (row : List V) (l : List Int) (n : Int) :
    ACalls P F.id [.list false 3 (cC c), .list false 3 (vC row), .list false 1 (iC l), .int .i64 n] [] (fun r _ => r = .bool true) := by
  have e7 := and_7 n
  have fin : ∀ H, ACalls P F.warehouselaw5_known.id [] H (fun r H' => r = .bool true ∧ H' = H) := known5_spec F.warehouselaw5_known
  refine acalls_of_body F.has ?_
  (conv => whnf); refine recA (fun h0 => ?_) (fun h0 => ?_)
  · conv => whnf
    refine ACalls.use (fin _) ?_
    conv => whnf
  simp [cC_length] at h0
  (conv => whnf); refine recA (fun h1 => ?_) (fun h1 => ?_)
  · conv => whnf
    refine ACalls.use (fin _) ?_
    conv => whnf
  simp [vC_length] at h1
  conv => whnf
  have hx : (colsK l (and64 n 7).toNat).length = (and64 n 7).toNat := colsK_length _ _
  refine ACalls.use (Columns_spec F.warehousebase_Columns false l (and64 n 7) (by omega) _) ?_
  conv => whnf
  refine ACalls.retH (Row_own F.warehousebase_Row false false (colsK l (and64 n 7).toNat) l 3 (by omega) (by omega) _) ?_
  have hR : (rowC (colsK l (and64 n 7).toNat) l 3).length = (colsK l (and64 n 7).toNat).length := rowC_length _ _ _
  (conv => whnf); refine recT (by rw [vC_length, rowC_length]; exact Nat.beq_refl _) ?_
  (conv => whnf); refine recA (fun h2 => ?_) (fun h2 => ?_)
  · replace h2 : decide (((colsK l (and64 n 7).toNat).length : Int) > 0) = true := h2
    simp at h2
    have hpos : 0 < (colsK l (and64 n 7).toNat).length := h2
    (conv => whnf); refine And.intro (by decide) ?_
    (conv => whnf); refine recA (fun h3 => ?_) (fun h3 => ?_)
    · have e75 := and_7 (shrI n 5)
      have hmod : 0 ≤ (and64 (shrI n 5) 7).tmod (colsK l (and64 n 7).toNat).length ∧ (and64 (shrI n 5) 7).tmod (colsK l (and64 n 7).toNat).length < (colsK l (and64 n 7).toNat).length :=
        ⟨Int.tmod_nonneg _ (by omega), Int.tmod_lt_of_pos _ (by omega)⟩
      have hlen : (vC (rowC (colsK l (and64 n 7).toNat) l 3)).length = (colsK l (and64 n 7).toNat).length := by rw [vC_length, rowC_length]
      have hlt : ((and64 (shrI n 5) 7).tmod (colsK l (and64 n 7).toNat).length).toNat < (rowC (colsK l (and64 n 7).toNat) l 3).length := by rw [rowC_length]; omega
      obtain ⟨v0, hv0, _, _⟩ := get_drop hlt
      (conv => whnf); refine And.intro (by decide) ?_
      (conv => whnf); refine recT (by rw [hlen]; exact Nat.beq_refl _) ?_
      (conv => whnf); refine And.intro (by omega) ?_
      (conv => whnf); refine And.intro (by decide) ?_
      (conv => whnf); refine ⟨_, Any_spec F.warehousebase_Any _ _, ?_⟩
      (conv => whnf); refine recT (by rw [hlen]; exact Nat.beq_refl _) ?_
      (conv => whnf); refine And.intro hmod ?_
      (conv => whnf); refine recT (by rw [hlen]; exact Nat.beq_refl _) ?_
      conv => whnf
      have hidx : (vC (rowC (colsK l (and64 n 7).toNat) l 3))[0 + ((and64 (shrI n 5) 7).tmod (colsK l (and64 n 7).toNat).length).toNat]? = some (valC v0) := by
        rw [Nat.zero_add]
        exact vC_at hv0
      refine recO hidx ?_
      conv => whnf
      have hR2 : ((rowC (colsK l (and64 n 7).toNat) l 3).set (0 + ((and64 (shrI n 5) 7).tmod (colsK l (and64 n 7).toNat).length).toNat) (anyV (shrI n 8))).length = (colsK l (and64 n 7).toNat).length := by rw [List.length_set, hR]
      refine ACalls.use (schema_CheckRow_spec F.schema_CheckRow false false c row (by omega) _) ?_
      (conv => whnf); refine ACalls.use (ref5_CheckRow_spec F.warehouseref5_CheckRow false false c row (by omega) _) ?_
      (conv => whnf); refine recT (by simp) ?_
      (conv => whnf); refine ACalls.use (schema_CheckRow_spec F.schema_CheckRow false false (colsK l (and64 n 7).toNat) row (by omega) _) ?_
      (conv => whnf); refine ACalls.use (ref5_CheckRow_spec F.warehouseref5_CheckRow false false (colsK l (and64 n 7).toNat) row (by omega) _) ?_
      (conv => whnf); refine recT (by simp) ?_
      conv => whnf
      refine ACalls.use (ACalls.bor (R := .int .i64 (chkRow (colsK l (and64 n 7).toNat) ((rowC (colsK l (and64 n 7).toNat) l 3).set (0 + ((and64 (shrI n 5) 7).tmod (colsK l (and64 n 7).toNat).length).toNat) (anyV (shrI n 8))))) rfl ((schema_CheckRow_spec F.schema_CheckRow false false (colsK l (and64 n 7).toNat) ((rowC (colsK l (and64 n 7).toNat) l 3).set (0 + ((and64 (shrI n 5) 7).tmod (colsK l (and64 n 7).toNat).length).toNat) (anyV (shrI n 8))) (by rw [hR2]; omega) []).mono fun _ _ h => h.1) (.cons (.same _ (by simp [AVal.closed, AVal.isPure])) (.cons (lentSl (by first | rfl | (rw [← setEs_vC]; rfl)) (by rw [vC_length, hR2]) (by rw [vC_length, hR2]) (pureEs_vC _)) .nil))) ?_
      conv => whnf
      refine ACalls.use (ACalls.bor (R := .int .i64 (chkRow (colsK l (and64 n 7).toNat) ((rowC (colsK l (and64 n 7).toNat) l 3).set (0 + ((and64 (shrI n 5) 7).tmod (colsK l (and64 n 7).toNat).length).toNat) (anyV (shrI n 8))))) rfl ((ref5_CheckRow_spec F.warehouseref5_CheckRow false false (colsK l (and64 n 7).toNat) ((rowC (colsK l (and64 n 7).toNat) l 3).set (0 + ((and64 (shrI n 5) 7).tmod (colsK l (and64 n 7).toNat).length).toNat) (anyV (shrI n 8))) (by rw [hR2]; omega) []).mono fun _ _ h => h.1) (.cons (.same _ (by simp [AVal.closed, AVal.isPure])) (.cons (lentSl (by first | rfl | (rw [← setEs_vC]; rfl)) (by rw [vC_length, hR2]) (by rw [vC_length, hR2]) (pureEs_vC _)) .nil))) ?_
      (conv => whnf); refine recT (by simp) ?_
      (conv => whnf); refine ACalls.use (fin _) ?_
      conv => whnf
    · conv => whnf
      refine ACalls.use (schema_CheckRow_spec F.schema_CheckRow false false c row (by omega) _) ?_
      (conv => whnf); refine ACalls.use (ref5_CheckRow_spec F.warehouseref5_CheckRow false false c row (by omega) _) ?_
      (conv => whnf); refine recT (by simp) ?_
      (conv => whnf); refine ACalls.use (schema_CheckRow_spec F.schema_CheckRow false false (colsK l (and64 n 7).toNat) row (by omega) _) ?_
      (conv => whnf); refine ACalls.use (ref5_CheckRow_spec F.warehouseref5_CheckRow false false (colsK l (and64 n 7).toNat) row (by omega) _) ?_
      (conv => whnf); refine recT (by simp) ?_
      conv => whnf
      refine ACalls.use (ACalls.bor (R := .int .i64 (chkRow (colsK l (and64 n 7).toNat) (rowC (colsK l (and64 n 7).toNat) l 3))) rfl ((schema_CheckRow_spec F.schema_CheckRow false false (colsK l (and64 n 7).toNat) (rowC (colsK l (and64 n 7).toNat) l 3) (by rw [hR]; omega) []).mono fun _ _ h => h.1) (.cons (.same _ (by simp [AVal.closed, AVal.isPure])) (.cons (lentSl (by first | rfl | (rw [← setEs_vC]; rfl)) (by rw [vC_length, hR]) (by rw [vC_length, hR]) (pureEs_vC _)) .nil))) ?_
      conv => whnf
      refine ACalls.use (ACalls.bor (R := .int .i64 (chkRow (colsK l (and64 n 7).toNat) (rowC (colsK l (and64 n 7).toNat) l 3))) rfl ((ref5_CheckRow_spec F.warehouseref5_CheckRow false false (colsK l (and64 n 7).toNat) (rowC (colsK l (and64 n 7).toNat) l 3) (by rw [hR]; omega) []).mono fun _ _ h => h.1) (.cons (.same _ (by simp [AVal.closed, AVal.isPure])) (.cons (lentSl (by first | rfl | (rw [← setEs_vC]; rfl)) (by rw [vC_length, hR]) (by rw [vC_length, hR]) (pureEs_vC _)) .nil))) ?_
      (conv => whnf); refine recT (by simp) ?_
      (conv => whnf); refine ACalls.use (fin _) ?_
      conv => whnf
  · conv => whnf
    refine ACalls.use (schema_CheckRow_spec F.schema_CheckRow false false c row (by omega) _) ?_
    (conv => whnf); refine ACalls.use (ref5_CheckRow_spec F.warehouseref5_CheckRow false false c row (by omega) _) ?_
    (conv => whnf); refine recT (by simp) ?_
    (conv => whnf); refine ACalls.use (schema_CheckRow_spec F.schema_CheckRow false false (colsK l (and64 n 7).toNat) row (by omega) _) ?_
    (conv => whnf); refine ACalls.use (ref5_CheckRow_spec F.warehouseref5_CheckRow false false (colsK l (and64 n 7).toNat) row (by omega) _) ?_
    (conv => whnf); refine recT (by simp) ?_
    conv => whnf
    refine ACalls.use (ACalls.bor (R := .int .i64 (chkRow (colsK l (and64 n 7).toNat) (rowC (colsK l (and64 n 7).toNat) l 3))) rfl ((schema_CheckRow_spec F.schema_CheckRow false false (colsK l (and64 n 7).toNat) (rowC (colsK l (and64 n 7).toNat) l 3) (by rw [hR]; omega) []).mono fun _ _ h => h.1) (.cons (.same _ (by simp [AVal.closed, AVal.isPure])) (.cons (lentSl (by first | rfl | (rw [← setEs_vC]; rfl)) (by rw [vC_length, hR]) (by rw [vC_length, hR]) (pureEs_vC _)) .nil))) ?_
    conv => whnf
    refine ACalls.use (ACalls.bor (R := .int .i64 (chkRow (colsK l (and64 n 7).toNat) (rowC (colsK l (and64 n 7).toNat) l 3))) rfl ((ref5_CheckRow_spec F.warehouseref5_CheckRow false false (colsK l (and64 n 7).toNat) (rowC (colsK l (and64 n 7).toNat) l 3) (by rw [hR]; omega) []).mono fun _ _ h => h.1) (.cons (.same _ (by simp [AVal.closed, AVal.isPure])) (.cons (lentSl (by first | rfl | (rw [← setEs_vC]; rfl)) (by rw [vC_length, hR]) (by rw [vC_length, hR]) (pureEs_vC _)) .nil))) ?_
    (conv => whnf); refine recT (by simp) ?_
    (conv => whnf); refine ACalls.use (fin _) ?_
    conv => whnf
end Go.AW
