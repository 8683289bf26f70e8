/-
  The laws of chapter 1: encodings, the order of rows.
  No condition: contracts over any program that has this code.
-/
import Derived.Test.YtikifhfpiahnoaaWhLaw1
namespace Go.AW
attribute [local irreducible] ACalls

theorem encR_cases (rs : List V) : encR rs = .tuple [.nil, .int .i64 2] ∨ encR rs = .tuple [.nil, .int .i64 8] ∨ encR rs = .tuple [.list false 1 (bC (encB rs)), .int .i64 0] := by
  unfold encR
  split
  · exact .inl rfl
  split
  · exact .inr (.inr rfl)
  · exact .inr (.inl rfl)

theorem encR_valid {rs : List V} (h : rs.length ≤ 12) (hv : ∀ v ∈ rs, validB v = true) : encR rs = .tuple [.list false 1 (bC (encB rs)), .int .i64 0] := by
  unfold encR
  rw [if_neg (by omega), if_pos (by simpa using hv)]

set_option maxRecDepth 20000 in
theorem law_ValueEncodes {P : Program} (F : F_warehouselaw1_ValueEncodes P) (rs : List V) (l : List Int) (n : Int) :
    ACalls P F.id [.list false 3 (vC rs), .list false 1 (iC l), .int .i64 n] [] (fun r _ => r = .bool true) := by
  have e15 := and_15 n
  refine acalls_of_body F.has ?_
  (conv => whnf); refine recA (fun h0 => ?_) (fun h0 => ?_)
  · conv => whnf
    refine ACalls.use (known_spec F.warehouselaw1_known _) ?_
    conv => whnf
  have hc := encR_cases rs
  have hd := encR_cases (rowK l (and64 n 15).toNat)
  rcases hc with hE | hE | hE <;> rcases hd with hG | hG | hG
  all_goals
    (conv => whnf); refine ACalls.use (encode_list F.value_Encode false rs _) ?_
    rw [hE]
    (conv => whnf); refine ACalls.use (ref1_Encode_spec F.warehouseref1_Encode false rs _) ?_
    rw [hE]
    (conv => whnf); refine ACalls.use (row_spec F.warehouselaw1_row false l (and64 n 15) (by omega) _) ?_
    (conv => whnf); refine ACalls.use (encode_list F.value_Encode false (rowK l (and64 n 15).toNat) _) ?_
    rw [hG]
    (conv => whnf); refine ACalls.use (row_spec F.warehouselaw1_row false l (and64 n 15) (by omega) _) ?_
    (conv => whnf); refine ACalls.use (ref1_Encode_spec F.warehouseref1_Encode false (rowK l (and64 n 15).toNat) _) ?_
    rw [hG]
    repeat' ((conv => whnf); first | refine ⟨_, bytesOf_bC _, ?_⟩ | refine ACalls.use (known_spec F.warehouselaw1_known _) ?_ | refine recT (by simp) ?_ | fail)
    try (conv => whnf)
end Go.AW
