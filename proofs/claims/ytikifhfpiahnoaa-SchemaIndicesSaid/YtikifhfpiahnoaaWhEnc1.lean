/-
  The reference's encoding of rows.
  No condition: contracts over any program that has this code.
-/
import Derived.Test.YtikifhfpiahnoaaWhRow
namespace Go.AW
attribute [local irreducible] ACalls

theorem w4_len (n : Int) : (bC (w4 n)).length = 4 := rfl

theorem four_spec {P : Program} (F : F_warehouseref1_four P) (n : Int) (H : List AObj) :
    ACalls P F.id [.int .i64 n] H (fun r H' => r = .list true 1 (bC (w4 n)) ∧ H' = H) := by
  refine ACalls.pure rfl (acalls_of_body F.has ?_)
  repeat' ((conv => whnf); refine And.intro (by decide) ?_)
  conv => whnf
  exact .closed _ rfl

/-- What Encode leaves: an error, or an object with the encoding. -/
def RawE (rs : List V) (r : AVal) (H1 : List AObj) : Prop :=
  (∃ e, r = .tuple [.nil, .int .i64 e] ∧ encR rs = .tuple [.nil, .int .i64 e]) ∨
  (∃ n, n = (bC (encB rs)).length ∧ r = .tuple [.sl 0 n 0 n, .int .i64 0] ∧ H1 = [.arr 1 (bC (encB rs))] ∧ encR rs = .tuple [.list false 1 (bC (encB rs)), .int .i64 0])

set_option maxRecDepth 20000 in
theorem ref1_Encode_raw {P : Program} (F : F_warehouseref1_Encode P) (ex : Bool) (rs : List V) :
    ACalls P F.id [.list ex 3 (vC rs)] [] (RawE rs) := by
  refine acalls_of_body F.has ?_
  (conv => whnf); refine recA (fun hlt => ?_) (fun hlt => ?_)
  · conv => whnf
    simp [vC_length] at hlt
    exact .inl ⟨2, rfl, if_pos (by omega)⟩
  conv => whnf
  simp [vC_length] at hlt
  refine ⟨fun n ρ H => ∃ k : Nat, k + n = rs.length ∧ (rs.take k).all validB = true ∧ H = [.arr 1 (bC (encK rs k))] ∧
    Sv 71 [(0, .list ex 3 (vC rs)), (4, .sl 0 (bC (encK rs k)).length 0 (bC (encK rs k)).length), (5, .int .i64 k)] ρ, rs.length, [], ⟨0, by simp, by simp, ?_, ?_⟩, ?_⟩
  · simp [encK, bC, u8, vC_length]
  · exact Sv.intro rfl ⟨rfl, rfl, rfl, trivial⟩
  rintro n ρ H ⟨k, hk, hz, rfl, d, rfl⟩
  conv => whnf
  refine recA (fun hlt2 => ?_) (fun hlt2 => ?_)
  · simp [vC_length] at hlt2
    conv => whnf
    refine ⟨by omega, ?_⟩
    obtain ⟨v, hv0, hdrop, hmem⟩ := get_drop hlt2
    (conv => whnf); refine recO (vC_at hv0) ?_
    conv => whnf
    have hb : (bC (encK rs k)).length ≤ 1000 := by rw [bC_length]; exact Nat.le_trans (encK_len rs k hz) (by omega)
    have hsnoc : rs.take (k + 1) = rs.take k ++ [v] := by rw [List.take_add_one, hv0]; rfl
    refine ACalls.use (ref1_Valid_spec F.warehouseref1_Valid v _) ?_
    (conv => whnf); refine recA (fun hv => ?_) (fun hv => ?_)
    · conv => whnf
      have hall : rs.all validB = false := by
        apply Bool.eq_false_iff.2
        intro hall
        rw [List.all_eq_true.1 hall v hmem] at hv
        cases hv
      exact .inl ⟨8, rfl, by unfold encR; rw [if_neg (by omega), hall]; rfl⟩
    have hz2 : (rs.take (k + 1)).all validB = true := by rw [hsnoc]; simp at hv; simp [hz, hv]
    have hsz : (byteCells v.str.data.toList).length ≤ 64 := valid_str v (by simpa using hv)
    have hkey : bC (encK rs (k + 1)) = bC (encK rs k) ++ bC (encV v) := by rw [← bC_append]; congr 1; simp [encK, hsnoc]
    have e1 := wrapI ((k : Int) + 1) (by omega) (by omega)
    repeat' ((conv => whnf); first
      | refine recT (Nat.beq_refl _) ?_
      | refine And.intro ⟨roomB_le1 (by simp [w4_len]; omega), roomB_le (by simp [w4_len]; omega), rfl, rfl⟩ ?_
      | refine And.intro (by decide) ?_
      | refine recA (fun _ => ?_) (fun _ => ?_)
      | refine ACalls.use (four_spec F.warehouseref1_four _ _) ?_
      | refine And.intro rfl ?_)
    all_goals (conv => whnf)
    all_goals refine ⟨n - 1, by omega, Gp.one 0 1 (bC (encK rs (k + 1))) ?_ (pureEs_bC _) rfl ?_ fun ρ1 h => ⟨k + 1, by omega, hz2, rfl, h⟩⟩
    all_goals try (refine ⟨.closed _ rfl, pubSl (k := 0) rfl rfl ?_ ?_, pub_int e1, trivial⟩)
    all_goals (rw [hkey]; simp_all [encV, bC, u8, w4, bytesI, byteCells])
  · conv => whnf
    simp [vC_length] at hlt2
    have e : rs.take k = rs := List.take_of_length_le hlt2
    rw [e] at hz
    have e2 : encK rs k = encB rs := by simp [encK, encB, e]
    rw [e2]
    exact .inr ⟨_, rfl, rfl, rfl, by unfold encR; rw [if_neg (by omega), hz]; rfl⟩

theorem ref1_Encode_spec {P : Program} (F : F_warehouseref1_Encode P) (ex : Bool) (rs : List V) (H : List AObj) :
    ACalls P F.id [.list ex 3 (vC rs)] H (fun r H' => r = encR rs ∧ H' = H) := by
  refine ACalls.pure (by simp [AVal.closed, AVal.isPure]) ((ref1_Encode_raw F ex rs).mono ?_)
  rintro r H1 (⟨e, rfl, h⟩ | ⟨n, hn, rfl, rfl, h⟩)
  · rw [h]; exact pub2 (.closed _ rfl) (.closed _ rfl)
  · rw [h]; exact pub2 (pubF rfl hn hn (pureEs_bC _)) (.closed _ rfl)

/-- The same, the encoding handed over as an object. -/
theorem ref1_Encode_own {P : Program} (F : F_warehouseref1_Encode P) (ex : Bool) (rs : List V) (hr : encR rs = .tuple [.list false 1 (bC (encB rs)), .int .i64 0]) (H : List AObj) :
    ACalls P F.id [.list ex 3 (vC rs)] H (fun r H' => r = .tuple [.sl H.length (bC (encB rs)).length 0 (bC (encB rs)).length, .int .i64 0] ∧ H' = H ++ [.arr 1 (bC (encB rs))]) := by
  refine ACalls.lift (by simp [AVal.closed, AVal.isPure]) (ref1_Encode_raw F ex rs) ?_
  rintro r H1 (⟨e, rfl, h⟩ | ⟨n, rfl, rfl, rfl, h⟩)
  · rw [hr] at h; simp at h
  · exact ⟨[0], _, [.arr 1 (bC (encB rs))], pub2 (pubSl (k := 0) rfl (Nat.add_zero _).symm rfl rfl) (.closed _ rfl), by simp, rfl, fun k id hk => by
      cases k with
      | zero => simp at hk; subst hk; exact ⟨rfl, 1, _, rfl, pureEs_bC _⟩
      | succ k => simp at hk, rfl, rfl⟩
end Go.AW
