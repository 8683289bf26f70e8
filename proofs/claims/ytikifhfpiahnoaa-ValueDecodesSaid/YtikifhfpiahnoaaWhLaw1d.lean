/-
  The law on decoding any bytes, and encodings with one changed byte.
  No condition: contracts over any program that has this code.
-/
import Derived.Test.YtikifhfpiahnoaaWhLaw1c
namespace Go.AW
attribute [local irreducible] ACalls

theorem decR_cases (l : List Int) : decR l = decErr ∨ ∃ rs : List V, rs.length ≤ 1000000 ∧ decR l = .tuple [.list false 3 (vC rs), .int .i64 0] := by
  have hlen : ∀ (n : Nat) (l : List Int) (rs : List V) (r : List Int), decN n l = some (rs, r) → rs.length = n := by
    intro n
    induction n with
    | zero => intro l rs r h; simp [decN] at h; rw [h.1]; rfl
    | succ n ih =>
      intro l rs r h
      rw [decN_succ] at h
      split at h
      · cases h
      split at h
      · rename_i rs' r' h'
        simp at h
        rw [← h.1, List.length_cons, ih _ _ _ h']
      · cases h
  unfold decR
  split
  · exact .inl rfl
  · rename_i h0
    split
    · rename_i rs hd
      exact .inr ⟨rs, by rw [hlen _ _ _ _ hd]; omega, rfl⟩
    · exact .inl rfl

def xorU8 (a b : Int) : Int := IntKind.u8.wrap (BitVec.ofInt IntKind.u8.bits a ^^^ BitVec.ofInt IntKind.u8.bits b).toNat

theorem byt_wrap (n : Int) : 0 ≤ IntKind.u8.wrap n ∧ IntKind.u8.wrap n ≤ 255 := byt_u8 n

theorem bC_set (l : List Int) (k : Nat) (x : Int) : (bC l).set k [.int .u8 x] = bC (l.set k x) := by simp [bC]

theorem sameRow_nil {P : Program} (F : F_warehouseref1_SameRow P) (H : List AObj) : ACalls P F.id [.nil, .nil] H (fun r H' => r = .bool true ∧ H' = H) :=
  (show ACalls P F.id [.list false 3 (vC []), .list false 3 (vC [])] H (fun r H' => r = .bool true ∧ H' = H) from ref1_SameRow_spec F false false [] [] (by simp) H).weak
    (.cons (.nil false 3) (.cons (.nil false 3) .nil))

set_option maxRecDepth 20000 in
theorem law_ValueDecodes {P : Program} (F : F_warehouselaw1_ValueDecodes P) (b l : List Int) (n i by' : Int) (_ : b.length ≤ maxLen) (hb : ∀ x ∈ b, (Lit.int .u8 x).wf = true) (_ : l.length ≤ maxLen) (_ : ∀ x ∈ l, (Lit.int .i64 x).wf = true)
    (_ : (Lit.int .i64 n).wf = true) (_ : (Lit.int .i64 i).wf = true) (_ : (Lit.int .u8 by').wf = true) :
    ACalls P F.id [.list false 1 (bC b), .list false 1 (iC l), .int .i64 n, .int .i64 i, .int .u8 by'] [] (fun r _ => r = .bool true) := by
  have e7 := and_7 n
  have hbb : Byt b := fun x hx => bounds_u8 (hb x hx)
  refine acalls_of_body F.has ?_
  (conv => whnf); refine recA (fun h0 => ?_) (fun h0 => ?_)
  · conv => whnf
    refine ACalls.use (known_spec F.warehouselaw1_known _) ?_
    conv => whnf
  simp [bC_length] at h0
  generalize hr : rowK l (and64 n 7).toNat = r
  have hrl : r.length ≤ 12 := by rw [← hr, rowK_length]; omega
  have hrv : ∀ v ∈ r, validB v = true := by rw [← hr]; exact rowK_valid _ _
  have lr : (encB r).length ≤ 1000 := by
    rw [encB, List.length_cons]
    have := encK_len r r.length (by rw [List.take_length]; simpa using hrv)
    simp only [encK, List.take_length, List.length_cons] at this
    omega
  have hbc := byt_encB r
  have hE := encR_valid hrl hrv
  have hpos : 0 < (encB r).length := by simp [encB]
  conv => whnf
  refine ACalls.use (row_spec F.warehouselaw1_row false l (and64 n 7) (by omega) _) ?_
  rw [hr]
  conv => whnf
  refine ACalls.retH (ref1_Encode_own F.warehouseref1_Encode false r hE _) ?_
  generalize hc : encB r = c at lr hbc hpos
  have hlen : (bC c).length = c.length := bC_length c
  have hf := and_ffff i
  have hk0 : 0 ≤ (and64 i 65535).tmod ((bC c).length : Nat) := by rw [hf]; exact Int.tmod_nonneg _ (by omega)
  have hk1 : (and64 i 65535).tmod ((bC c).length : Nat) < (bC c).length := Int.tmod_lt_of_pos _ (by omega)
  conv => whnf
  refine recT (Nat.beq_refl _) ?_
  conv => whnf
  refine And.intro (by omega) ?_
  conv => whnf
  refine recT (Nat.beq_refl _) ?_
  conv => whnf
  refine And.intro ⟨hk0, hk1⟩ ?_
  obtain ⟨x, hx, _, hxm⟩ := get_drop (show ((and64 i 65535).tmod ((bC c).length : Nat)).toNat < c.length by omega)
  have hidx : (bC c)[0 + ((and64 i 65535).tmod ((bC c).length : Nat)).toNat]? = some [.int .u8 x] := by rw [Nat.zero_add]; exact bC_at hx
  conv => whnf
  refine recT (Nat.beq_refl _) ?_
  (conv => whnf); refine recO hidx ?_
  conv => whnf
  refine recT (Nat.beq_refl _) ?_
  (conv => whnf); refine And.intro ⟨hk0, hk1⟩ ?_
  conv => whnf
  refine recT (Nat.beq_refl _) ?_
  (conv => whnf); refine recO hidx ?_
  conv => whnf
  generalize hc' : c.set (0 + ((and64 i 65535).tmod ((bC c).length : Nat)).toNat) (xorU8 x by') = c'
  have hset : setEs (bC c) (0 + ((and64 i 65535).tmod ((bC c).length : Nat)).toNat) [.int .u8 (xorU8 x by')] = bC c' := by rw [setEs_eq, bC_set, hc']
  have hcl : c'.length = c.length := by rw [← hc']; simp
  have hcb : Byt c' := by
    intro y hy
    rw [← hc'] at hy
    rcases List.mem_or_eq_of_mem_set hy with h | rfl
    · exact hbc y h
    · exact byt_wrap _
  refine Ghost.none (n := 85) (live := [(0, .list false 1 (bC b)), (11, .list false 1 (bC c'))]) rfl ?_ ?_
  · refine ⟨.closed _ rfl, ?_, trivial⟩
    refine pubF (es := bC c') ?_ ?_ ?_ (pureEs_bC _)
    · rw [← hset]; rfl
    · show (bC c).length = _; rw [bC_length, bC_length, hcl]
    · show (bC c).length = _; rw [bC_length, bC_length, hcl]
  rintro ρ1 ⟨d, rfl⟩
  conv => whnf
  refine ACalls.use (value_Decode_spec F.value_Decode false b hbb (by omega) _) ?_
  have db := decR_cases b
  have dc := decR_cases c'
  rcases db with hD | ⟨r1, l1, hD⟩ <;> rcases dc with hG | ⟨r2, l2, hG⟩
  all_goals
    rw [hD]
    (conv => whnf); refine ACalls.use (ref1_Decode_spec F.warehouseref1_Decode false b hbb (by omega) _) ?_
    rw [hD]
    (conv => whnf); refine ACalls.use (value_Decode_spec F.value_Decode false c' hcb (by omega) _) ?_
    rw [hG]
    (conv => whnf); refine ACalls.use (ref1_Decode_spec F.warehouseref1_Decode false c' hcb (by omega) _) ?_
    rw [hG]
    repeat' ((conv => whnf); first | refine ACalls.use (sameRow_nil F.warehouseref1_SameRow _) ?_ | refine ACalls.use (ref1_SameRow_spec F.warehouseref1_SameRow false false _ _ (by assumption) _) ?_ | refine ACalls.use (known_spec F.warehouselaw1_known _) ?_ | refine recT (by simp [rowsCmp_zero]) ?_ | fail)
    try (conv => whnf)
end Go.AW
