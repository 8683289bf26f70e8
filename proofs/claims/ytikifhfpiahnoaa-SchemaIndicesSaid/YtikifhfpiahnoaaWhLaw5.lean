/-
  The laws of chapter 5: names, finding a column.
  No condition: contracts over any program that has this code.
-/
import Derived.Test.YtikifhfpiahnoaaWhCols
namespace Go.AW
attribute [local irreducible] ACalls

theorem nine_get (k : Nat) (h : k < 9) : ∃ a : ByteArray, a.size ≤ 6 ∧ ([[.str (bs [97])], [.str (bs [122])], [.str (bs [48])], [.str (bs [95])], [.str (bs [97, 98, 99, 100, 101, 102])], [.str (bs [65])], [.str (bs [46])], [.str (bs [45])], [.str (bs [255])]] : List (List AVal))[k]? = some [.str a] := by
  have h6 : ∀ l : List Nat, l.length ≤ 6 → (bs l).size ≤ 6 := by
    intro l hl
    show (l.map UInt8.ofNat).toArray.size ≤ 6
    simp; exact hl
  match k, h with
  | 0, _ => exact ⟨_, h6 _ (by decide), rfl⟩
  | 1, _ => exact ⟨_, h6 _ (by decide), rfl⟩
  | 2, _ => exact ⟨_, h6 _ (by decide), rfl⟩
  | 3, _ => exact ⟨_, h6 _ (by decide), rfl⟩
  | 4, _ => exact ⟨_, h6 _ (by decide), rfl⟩
  | 5, _ => exact ⟨_, h6 _ (by decide), rfl⟩
  | 6, _ => exact ⟨_, h6 _ (by decide), rfl⟩
  | 7, _ => exact ⟨_, h6 _ (by decide), rfl⟩
  | 8, _ => exact ⟨_, h6 _ (by decide), rfl⟩

set_option maxRecDepth 20000 in
theorem law_SchemaNames {P : Program} (F : F_warehouselaw5_SchemaNames P) (s : ByteArray) (l : List Int) (n : Int) :
    ACalls P F.id [.str s, .list false 1 (iC l), .int .i64 n] [] (fun r _ => r = .bool true) := by
  have e63 := and_63 n
  have fin : ∀ H, ACalls P F.warehouselaw5_known.id [] H (fun r H' => r = .bool true ∧ H' = H) := known5_spec F.warehouselaw5_known
  refine acalls_of_body F.has ?_
  (conv => whnf); refine recA (fun h0 => ?_) (fun h0 => ?_)
  · conv => whnf
    refine ACalls.use (fin _) ?_
    conv => whnf
  replace h0 : decide ((s.size : Int) > 200) = false := h0
  simp at h0
  conv => whnf
  refine ⟨fun m ρ H => ∃ (k : Nat) (t : ByteArray), k + m = (and64 n 63).toNat ∧ t.size ≤ 6 * k ∧ H = [] ∧ Sv 57 [(0, .str s), (1, .list false 1 (iC l)), (2, .int .i64 n), (7, .str t), (8, .int .i64 k)] ρ, (and64 n 63).toNat, [], ?_, ?_⟩
  · exact ⟨0, bs [], by omega, by decide, rfl, Sv.intro rfl ⟨rfl, rfl, rfl, rfl, rfl, trivial⟩⟩
  rintro m ρ H ⟨k, t, hk, ht, rfl, d, rfl⟩
  (conv => whnf); refine recA (fun hlt => ?_) (fun hlt => ?_)
  · replace hlt : decide ((k : Int) < and64 n 63) = true := hlt
    simp at hlt
    conv => whnf
    refine ACalls.use (At_spec F.warehousebase_At false l k _) ?_
    have hb := atV_bounds l k
    have hm : 0 ≤ (atV l k).tmod 9 ∧ (atV l k).tmod 9 < 9 := ⟨Int.tmod_nonneg _ (by omega), Int.tmod_lt_of_pos _ (by omega)⟩
    obtain ⟨a, ha, hget⟩ := nine_get ((atV l k).tmod 9).toNat (by omega)
    (conv => whnf); refine And.intro (by decide) ?_
    (conv => whnf); refine And.intro (by omega) ?_
    (conv => whnf); refine recO hget ?_
    (conv => whnf); refine And.intro (by omega) ?_
    conv => whnf
    refine ⟨m - 1, by omega, Gp.keep rfl ?_ fun ρ1 h => ⟨k + 1, t ++ a, by omega, by rw [ByteArray.size_append]; omega, rfl, h⟩⟩
    exact ⟨rfl, rfl, rfl, rfl, intEq (wrapI ((k : Int) + 1) (by omega) (by omega)), trivial⟩
  · conv => whnf
    refine ACalls.use (schema_IsName_spec F.schema_IsName s _) ?_
    (conv => whnf); refine ACalls.use (ref5_IsName_spec F.warehouseref5_IsName s _) ?_
    (conv => whnf); refine recT (by simp) ?_
    (conv => whnf); refine ACalls.use (schema_IsQualified_spec F.schema_IsQualified s (by omega) _) ?_
    (conv => whnf); refine ACalls.use (ref5_IsQualified_spec F.warehouseref5_IsQualified s (by omega) _) ?_
    (conv => whnf); refine recT (by simp) ?_
    (conv => whnf); refine ACalls.use (schema_IsName_spec F.schema_IsName t _) ?_
    (conv => whnf); refine ACalls.use (ref5_IsName_spec F.warehouseref5_IsName t _) ?_
    (conv => whnf); refine recT (by simp) ?_
    (conv => whnf); refine ACalls.use (schema_IsQualified_spec F.schema_IsQualified t (by omega) _) ?_
    (conv => whnf); refine ACalls.use (ref5_IsQualified_spec F.warehouseref5_IsQualified t (by omega) _) ?_
    (conv => whnf); refine recT (by simp) ?_
    (conv => whnf); refine ACalls.use (fin _) ?_
    conv => whnf

set_option maxRecDepth 20000 in
theorem law_SchemaFinds {P : Program} (F : F_warehouselaw5_SchemaFinds P) (c : List Col) (name : ByteArray) (l : List Int) (n : Int) :
    ACalls P F.id [.list false 3 (cC c), .str name, .list false 1 (iC l), .int .i64 n] [] (fun r _ => r = .bool true) := by
  have e7 := and_7 n
  have fin : ∀ H, ACalls P F.warehouselaw5_known.id [] H (fun r H' => r = .bool true ∧ H' = H) := known5_spec F.warehouselaw5_known
  refine acalls_of_body F.has ?_
  (conv => whnf); refine recA (fun h0 => ?_) (fun h0 => ?_)
  · conv => whnf
    refine ACalls.use (fin _) ?_
    conv => whnf
  simp [cC_length] at h0
  conv => whnf
  refine ACalls.use (Columns_spec F.warehousebase_Columns false l (and64 n 7) (by omega) _) ?_
  (conv => whnf); refine And.intro (by decide) ?_
  (conv => whnf); refine ⟨_, rfl, ?_⟩
  (conv => whnf); refine ACalls.use (schema_Index_spec F.schema_Index false c (by omega) name _) ?_
  (conv => whnf); refine ACalls.use (ref5_Index_spec F.warehouseref5_Index false c (by omega) name _) ?_
  (conv => whnf); refine recT (by simp) ?_
  (conv => whnf); refine ACalls.use (schema_Index_spec F.schema_Index false (colsK l (and64 n 7).toNat) (by rw [colsK_length]; omega) _ _) ?_
  (conv => whnf); refine ACalls.use (ref5_Index_spec F.warehouseref5_Index false (colsK l (and64 n 7).toNat) (by rw [colsK_length]; omega) _ _) ?_
  (conv => whnf); refine recT (by simp) ?_
  (conv => whnf); refine ACalls.use (fin _) ?_
  conv => whnf
end Go.AW
