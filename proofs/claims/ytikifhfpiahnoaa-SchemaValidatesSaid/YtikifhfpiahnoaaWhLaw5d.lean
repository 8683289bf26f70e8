/-
  The laws of chapter 5: valid columns.
  No condition: contracts over any program that has this code.
-/
import Derived.Test.YtikifhfpiahnoaaWhLaw5
namespace Go.AW
attribute [local irreducible] ACalls

def vldGo (full : List Col) : List Col → Int → Int
  | [], _ => 0
  | c :: cs, i => if nameB c.name = false then 4 else if c.kind < 1 ∨ 4 < c.kind then 7 else if colIdx full c.name < i then 6 else vldGo full cs (i + 1)
def vldC (cs : List Col) : Int := if cs.length < 1 ∨ 12 < cs.length then 2 else vldGo cs cs 0

theorem idxOf_le {α : Type} (p : α → Bool) : ∀ (l : List α) (i : Int) (k : Nat) (x : α), l[k]? = some x → p x = true → idxOf p l i ≤ i + k
  | [], _, _, _, h, _ => by simp at h
  | c :: cs, i, 0, x, h, hp => by
    simp at h; subst h
    rw [idxOf, if_pos hp]; simp
  | c :: cs, i, k + 1, x, h, hp => by
    rw [idxOf]
    split
    · omega
    · have := idxOf_le p cs (i + 1) k x (by simpa using h) hp
      omega
theorem colIdx_le (cs : List Col) (k : Nat) (c : Col) (h : cs[k]? = some c) : colIdx cs c.name ≤ k := by
  have := idxOf_le (named c.name) cs 0 k c h (by simp [named])
  rw [colIdx]; omega

set_option maxRecDepth 20000 in
theorem schema_Validate_spec {P : Program} (F : F_schema_Validate P) (e1 : Bool) (cs : List Col) (hl : cs.length ≤ 1000000) (H : List AObj) :
    ACalls P F.id [.list e1 3 (cC cs)] H (fun r H' => r = .int .i64 (vldC cs) ∧ H' = H) := by
  refine ACalls.pure (by simp [AVal.closed, AVal.isPure]) (acalls_of_body F.has ?_)
  (conv => whnf); refine recA (fun h0 => ?_) (fun h0 => ?_)
  · simp [cC_length] at h0
    conv => whnf
    exact pubI (by rw [vldC, if_pos (by omega)])
  simp [cC_length] at h0
  (conv => whnf); refine recA (fun h1 => ?_) (fun h1 => ?_)
  · simp [cC_length] at h1
    conv => whnf
    exact pubI (by rw [vldC, if_pos (by omega)])
  simp [cC_length] at h1
  have h2 : 0 < cs.length := by omega
  have hR : vldC cs = vldGo cs cs 0 := by rw [vldC, if_neg (by omega)]
  conv => whnf
  refine ⟨fun m ρ H1 => ∃ k : Nat, k + m = cs.length ∧ vldGo cs (cs.drop k) k = vldC cs ∧ H1 = [] ∧
    Sv 42 [(0, .list e1 3 (cC cs)), (13, .list e1 3 (cC cs)), (14, .int .i64 cs.length), (15, .int .i64 k)] ρ, cs.length, [], ?_, ?_⟩
  · exact ⟨0, by omega, hR.symm, rfl, Sv.intro rfl ⟨rfl, rfl, intEq (by rw [cC_length]), rfl, trivial⟩⟩
  rintro m ρ H1 ⟨k, hk, hr, rfl, d, rfl⟩
  (conv => whnf); refine recA (fun hlt => ?_) (fun hlt => ?_)
  · simp at hlt
    obtain ⟨c, hc, hdc, _⟩ := get_drop (show k < cs.length by omega)
    rw [hdc, vldGo] at hr
    repeat' ((conv => whnf); first | refine And.intro (by omega) ?_ | refine recO (cC_at hc) ?_ | refine ACalls.use (schema_IsName_spec F.schema_IsName c.name _) ?_ | refine ACalls.use (schema_Index_spec F.schema_Index e1 cs hl c.name _) ?_ | refine recA (fun h => ?_) (fun h => ?_))
    all_goals (conv => whnf)
    all_goals first
      | refine ⟨m - 1, by omega, Gp.none rfl ?_ fun ρ1 h => ⟨k + 1, by omega, ?_, rfl, h⟩⟩
      | refine pubI ?_
    all_goals first
      | exact ⟨.closed _ rfl, .closed _ rfl, .closed _ rfl, pub_int (wrapI ((k : Int) + 1) (by omega) (by omega)), trivial⟩
      | skip
    all_goals first
      | (rw [← hr]; simp_all; done)
      | (rw [← hr, if_neg (by simp_all), if_neg (by simp_all <;> omega), if_neg (by simp_all <;> omega)]; rfl)
  · simp at hlt
    conv => whnf
    rw [List.drop_eq_nil_of_le (show cs.length ≤ k by omega)] at hr
    exact pubI hr

set_option maxRecDepth 20000 in
theorem ref5_Validate_spec {P : Program} (F : F_warehouseref5_Validate P) (e1 : Bool) (cs : List Col) (hl : cs.length ≤ 1000000) (H : List AObj) :
    ACalls P F.id [.list e1 3 (cC cs)] H (fun r H' => r = .int .i64 (vldC cs) ∧ H' = H) := by
  refine ACalls.pure (by simp [AVal.closed, AVal.isPure]) (acalls_of_body F.has ?_)
  (conv => whnf); refine recA (fun h0 => ?_) (fun h0 => ?_)
  · simp [cC_length] at h0
    conv => whnf
    exact pubI (by rw [vldC, if_pos (by omega)])
  simp [cC_length] at h0
  (conv => whnf); refine recA (fun h1 => ?_) (fun h1 => ?_)
  · simp [cC_length] at h1
    conv => whnf
    exact pubI (by rw [vldC, if_pos (by omega)])
  simp [cC_length] at h1
  have h2 : 0 < cs.length := by omega
  have hR : vldC cs = vldGo cs cs 0 := by rw [vldC, if_neg (by omega)]
  conv => whnf
  refine ⟨fun m ρ H1 => ∃ k : Nat, k + m = cs.length ∧ vldGo cs (cs.drop k) k = vldC cs ∧ H1 = [] ∧
    Sv 48 [(0, .list e1 3 (cC cs)), (3, .int .i64 k)] ρ, cs.length, [], ?_, ?_⟩
  · exact ⟨0, by omega, hR.symm, rfl, Sv.intro rfl ⟨rfl, rfl, trivial⟩⟩
  rintro m ρ H1 ⟨k, hk, hr, rfl, d, rfl⟩
  (conv => whnf); refine recA (fun hlt => ?_) (fun hlt => ?_)
  · simp [cC_length] at hlt
    obtain ⟨c, hc, hdc, _⟩ := get_drop (show k < cs.length by omega)
    have hle := colIdx_le cs k c hc
    have hiff : colIdx cs c.name < k ↔ ¬ colIdx cs c.name = k := by omega
    rw [hdc, vldGo] at hr
    repeat' ((conv => whnf); first | refine And.intro (by omega) ?_ | refine recO (cC_at hc) ?_ | refine ACalls.use (ref5_IsName_spec F.warehouseref5_IsName c.name _) ?_ | refine ACalls.use (ref5_Index_spec F.warehouseref5_Index e1 cs hl c.name _) ?_ | refine recA (fun h => ?_) (fun h => ?_))
    all_goals (conv => whnf)
    all_goals first
      | refine ⟨m - 1, by omega, Gp.none rfl ?_ fun ρ1 h => ⟨k + 1, by omega, ?_, rfl, h⟩⟩
      | refine pubI ?_
    all_goals first
      | exact ⟨.closed _ rfl, pub_int (wrapI ((k : Int) + 1) (by omega) (by omega)), trivial⟩
      | skip
    all_goals first
      | (rw [← hr]; simp_all; done)
      | (rw [← hr, if_neg (by simp_all), if_neg (by simp_all <;> omega), if_neg (by simp_all <;> omega)]; rfl)
  · simp [cC_length] at hlt
    conv => whnf
    rw [List.drop_eq_nil_of_le (show cs.length ≤ k by omega)] at hr
    exact pubI hr

set_option maxRecDepth 20000 in
theorem law_SchemaValidates {P : Program} (F : F_warehouselaw5_SchemaValidates P) (c : List Col) (l : List Int) (n : Int) :
    ACalls P F.id [.list false 3 (cC c), .list false 1 (iC l), .int .i64 n] [] (fun r _ => r = .bool true) := by
  have e15 := and_15 n
  have fin : ∀ H, ACalls P F.warehouselaw5_known.id [] H (fun r H' => r = .bool true ∧ H' = H) := known5_spec F.warehouselaw5_known
  refine acalls_of_body F.has ?_
  (conv => whnf); refine recA (fun h0 => ?_) (fun h0 => ?_)
  · conv => whnf
    refine ACalls.use (fin _) ?_
    conv => whnf
  simp [cC_length] at h0
  conv => whnf
  refine ACalls.use (Columns_spec F.warehousebase_Columns false l (and64 n 15) (by omega) _) ?_
  (conv => whnf); refine ACalls.use (schema_Validate_spec F.schema_Validate false c (by omega) _) ?_
  (conv => whnf); refine ACalls.use (ref5_Validate_spec F.warehouseref5_Validate false c (by omega) _) ?_
  (conv => whnf); refine recT (by simp) ?_
  (conv => whnf); refine ACalls.use (schema_Validate_spec F.schema_Validate false (colsK l (and64 n 15).toNat) (by rw [colsK_length]; omega) _) ?_
  (conv => whnf); refine ACalls.use (ref5_Validate_spec F.warehouseref5_Validate false (colsK l (and64 n 15).toNat) (by rw [colsK_length]; omega) _) ?_
  (conv => whnf); refine recT (by simp) ?_
  (conv => whnf); refine ACalls.use (fin _) ?_
  conv => whnf
end Go.AW
