/-
  Picking elements by numbers; equal columns.
  No condition: contracts over any program that has this code.
-/
import Derived.Test.YtikifhfpiahnoaaWhCols
import Derived.Test.YtikifhfpiahnoaaWhLaw1e
namespace Go.AW
attribute [local irreducible] ACalls

def zC : Col := ⟨bs [], 0, false⟩
theorem setEs_cC (l : List Col) (k : Nat) (v : Col) : setEs (cC l) k (colC v) = cC (l.set k v) := by rw [setEs_eq]; simp [cC]

/-- The elements with given numbers. -/
def pickL {α : Type} (z : α) (l : List α) (is : List Int) : List α := is.map fun i => if 0 ≤ i ∧ i < (l.length : Int) then l.getD i.toNat z else z
theorem pickL_length {α : Type} (z : α) (l : List α) (is : List Int) : (pickL z l is).length = is.length := by simp [pickL]
theorem pickL_in {α : Type} (z : α) (l : List α) (is : List Int) (k : Nat) (i : Int) (x : α) (h : is[k]? = some i) (h0 : 0 ≤ i) (hx : l[i.toNat]? = some x) : (pickL z l is)[k]? = some x := by
  have hi := (List.getElem?_eq_some_iff.1 hx).1
  rw [pickL, List.getElem?_map, h, Option.map_some, if_pos ⟨h0, by omega⟩, List.getD_eq_getElem?_getD, hx]; rfl
theorem pickL_out {α : Type} (z : α) (l : List α) (is : List Int) (k : Nat) (i : Int) (h : is[k]? = some i) (h0 : ¬ (0 ≤ i ∧ i < (l.length : Int))) : (pickL z l is)[k]? = some z := by
  rw [pickL, List.getElem?_map, h, Option.map_some, if_neg h0]
theorem fillUp_skip {α : Type} (W : List α) (z : α) (k : Nat) (h : W[k]? = some z) : fillUp W z k = fillUp W z (k + 1) := by
  rw [← fillUp_set W z k z h]
  have hg := fillUp_get W z k (List.getElem?_eq_some_iff.1 h).1
  obtain ⟨hl, he⟩ := List.getElem?_eq_some_iff.1 hg
  conv => lhs; rw [← List.set_getElem_self hl]
  rw [he]
theorem iC_at {l : List Int} {k : Nat} {x : Int} (h : l[k]? = some x) : (iC l)[k]? = some [.int .i64 x] := by simp [iC, h]

set_option maxRecDepth 20000 in
theorem pick_Value_raw {P : Program} (F : F_schema_pick_Value P) (e1 e2 : Bool) (r : List V) (is : List Int) (hr : r.length ≤ 1000000) (hl : is.length ≤ 1000000) :
    ACalls P F.id [.list e1 3 (vC r), .list e2 1 (iC is)] [] (fun q H' => q = .sl 0 is.length 0 is.length ∧ H' = [.arr 3 (vC (pickL zV r is))]) := by
  refine acalls_of_body F.has ?_
  conv => whnf
  refine And.intro ⟨by omega, by omega, by rw [iC_length]; show (is.length : Int) * 32 ≤ 1099511627776; omega, by rw [iC_length]; show (is.length : Int) ≤ 1099511627776; omega⟩ ?_
  conv => whnf
  refine ⟨fun m ρ H => ∃ k : Nat, k + m = is.length ∧ H = [.arr 3 (vC (fillUp (pickL zV r is) zV k))] ∧ Sv 35 [(0, .list e1 3 (vC r)), (5, .sl 0 is.length 0 is.length), (11, .list e2 1 (iC is)), (12, .int .i64 is.length), (13, .int .i64 k)] ρ, is.length, [], ?_, ?_⟩
  · refine ⟨0, by omega, ?_, Sv.intro rfl ⟨rfl, slEq ?_ ?_, rfl, intEq (by rw [iC_length]), rfl, trivial⟩⟩
    · rw [fillUp_zero, pickL_length]
      simp [vC, iC_length]; exact .inr rfl
    · simp [iC_length]
    · simp [iC_length]
  rintro m ρ H ⟨k, hk, rfl, d, rfl⟩
  (conv => whnf); refine recA (fun hlt => ?_) (fun hlt => ?_)
  · simp at hlt
    obtain ⟨i, hi, _, _⟩ := get_drop hlt
    have hlen : (vC (fillUp (pickL zV r is) zV k)).length = is.length := by rw [vC_length, fillUp_length _ _ _ (by rw [pickL_length]; omega), pickL_length]
    have e1 := wrapI ((k : Int) + 1) (by omega) (by omega)
    conv => whnf
    refine And.intro (by omega) ?_
    (conv => whnf); refine recO (iC_at hi) ?_
    conv => whnf
    refine recA (fun h0 => ?_) (fun h0 => ?_)
    · replace h0 : decide (i ≥ 0) = true := h0
      simp at h0
      (conv => whnf); refine recA (fun h1 => ?_) (fun h1 => ?_)
      · replace h1 : decide (i < ((vC r).length : Int)) = true := h1
        simp [vC_length] at h1
        obtain ⟨x, hx, _, _⟩ := get_drop (l := r) (k := i.toNat) (by omega)
        have hw := pickL_in zV r is k i x hi h0 hx
        conv => whnf
        refine And.intro h0 ?_
        (conv => whnf); refine recO (vC_at hx) ?_
        (conv => whnf); refine recT (by rw [hlen]; exact Nat.beq_refl _) ?_
        conv => whnf
        refine And.intro ⟨by omega, by omega⟩ ?_
        (conv => whnf); refine recT (by rw [hlen]; exact Nat.beq_refl _) ?_
        conv => whnf
        have hidx : (vC (fillUp (pickL zV r is) zV k))[0 + (k : Int).toNat]? = some (valC zV) := by
          rw [Nat.zero_add, Int.toNat_natCast]
          exact vC_at (fillUp_get _ _ _ (by rw [pickL_length]; omega))
        refine recO hidx ?_
        conv => whnf
        refine ⟨m - 1, by omega, Gp.keep rfl ?_ fun ρ1 h => ⟨k + 1, by omega, ?_, h⟩⟩
        · exact ⟨rfl, rfl, rfl, rfl, intEq e1, trivial⟩
        · rw [← fillUp_set _ _ _ _ hw, ← setEs_vC]
          show [AObj.arr 3 (setEs (vC (fillUp (pickL zV r is) zV k)) (0 + (k : Int).toNat) (valC x))] = _
          rw [Nat.zero_add, Int.toNat_natCast]
      · replace h1 : decide (i < ((vC r).length : Int)) = false := h1
        simp [vC_length] at h1
        conv => whnf
        refine ⟨m - 1, by omega, Gp.keep rfl ?_ fun ρ1 h => ⟨k + 1, by omega, ?_, h⟩⟩
        · exact ⟨rfl, rfl, rfl, rfl, intEq e1, trivial⟩
        · rw [← fillUp_skip _ _ _ (pickL_out zV r is k i hi (by omega))]
    · replace h0 : decide (i ≥ 0) = false := h0
      simp at h0
      conv => whnf
      refine ⟨m - 1, by omega, Gp.keep rfl ?_ fun ρ1 h => ⟨k + 1, by omega, ?_, h⟩⟩
      · exact ⟨rfl, rfl, rfl, rfl, intEq e1, trivial⟩
      · rw [← fillUp_skip _ _ _ (pickL_out zV r is k i hi (by omega))]
  · simp at hlt
    have : k = is.length := by omega
    subst this
    conv => whnf
    refine ⟨rfl, ?_⟩
    rw [← pickL_length zV r is, fillUp_all]
theorem pick_Value_spec {P : Program} (F : F_schema_pick_Value P) (e1 e2 : Bool) (r : List V) (is : List Int) (hr : r.length ≤ 1000000) (hl : is.length ≤ 1000000) (H : List AObj) :
    ACalls P F.id [.list e1 3 (vC r), .list e2 1 (iC is)] H (fun q H' => q = .list false 3 (vC (pickL zV r is)) ∧ H' = H) :=
  ACalls.frz1 (by simp [AVal.closed, AVal.isPure]) (pick_Value_raw F e1 e2 r is hr hl) (by rw [vC_length, pickL_length]) (pureEs_vC _)
theorem schema_Pick_spec {P : Program} (F : F_schema_Pick P) (e1 e2 : Bool) (r : List V) (is : List Int) (hr : r.length ≤ 1000000) (hl : is.length ≤ 1000000) (H : List AObj) :
    ACalls P F.id [.list e1 3 (vC r), .list e2 1 (iC is)] H (fun q H' => q = .list false 3 (vC (pickL zV r is)) ∧ H' = H) := by
  refine ACalls.pure (by simp [AVal.closed, AVal.isPure]) (acalls_of_body F.has ?_)
  (conv => whnf); refine ACalls.use (pick_Value_spec F.schema_pick_Value e1 e2 r is hr hl _) ?_
  conv => whnf
  exact .closed _ rfl

set_option maxRecDepth 20000 in
theorem ref5_Pick_raw {P : Program} (F : F_warehouseref5_Pick P) (e1 e2 : Bool) (r : List V) (is : List Int) (hr : r.length ≤ 1000000) (hl : is.length ≤ 1000000) :
    ACalls P F.id [.list e1 3 (vC r), .list e2 1 (iC is)] [] (fun q H' => q = .sl 0 is.length 0 is.length ∧ H' = [.arr 3 (vC (pickL zV r is))]) := by
  refine acalls_of_body F.has ?_
  conv => whnf
  refine And.intro ⟨by omega, by omega, by rw [iC_length]; show (is.length : Int) * 32 ≤ 1099511627776; omega, by rw [iC_length]; show (is.length : Int) ≤ 1099511627776; omega⟩ ?_
  conv => whnf
  refine ⟨fun m ρ H => ∃ k : Nat, k + m = is.length ∧ H = [.arr 3 (vC (fillUp (pickL zV r is) zV k))] ∧ Sv 41 [(0, .list e1 3 (vC r)), (1, .list e2 1 (iC is)), (5, .sl 0 is.length 0 is.length), (6, .int .i64 k)] ρ, is.length, [], ?_, ?_⟩
  · refine ⟨0, by omega, ?_, Sv.intro rfl ⟨rfl, rfl, slEq ?_ ?_, rfl, trivial⟩⟩
    · rw [fillUp_zero, pickL_length]
      simp [vC, iC_length]; exact .inr rfl
    · simp [iC_length]
    · simp [iC_length]
  rintro m ρ H ⟨k, hk, rfl, d, rfl⟩
  (conv => whnf); refine recA (fun hlt => ?_) (fun hlt => ?_)
  · simp [iC_length] at hlt
    obtain ⟨i, hi, _, _⟩ := get_drop hlt
    have hlen : (vC (fillUp (pickL zV r is) zV k)).length = is.length := by rw [vC_length, fillUp_length _ _ _ (by rw [pickL_length]; omega), pickL_length]
    have e1 := wrapI ((k : Int) + 1) (by omega) (by omega)
    conv => whnf
    refine And.intro (by omega) ?_
    (conv => whnf); refine recO (iC_at hi) ?_
    conv => whnf
    refine recA (fun h0 => ?_) (fun h0 => ?_)
    · replace h0 : decide (i ≥ 0) = true := h0
      simp at h0
      conv => whnf
      refine And.intro (by omega) ?_
      (conv => whnf); refine recO (iC_at hi) ?_
      (conv => whnf); refine recA (fun h1 => ?_) (fun h1 => ?_)
      · replace h1 : decide (i < ((vC r).length : Int)) = true := h1
        simp [vC_length] at h1
        obtain ⟨x, hx, _, _⟩ := get_drop (l := r) (k := i.toNat) (by omega)
        have hw := pickL_in zV r is k i x hi h0 hx
        conv => whnf
        refine And.intro (by omega) ?_
        (conv => whnf); refine recO (iC_at hi) ?_
        (conv => whnf); refine And.intro h0 ?_
        (conv => whnf); refine recO (vC_at hx) ?_
        (conv => whnf); refine recT (by rw [hlen]; exact Nat.beq_refl _) ?_
        conv => whnf
        refine And.intro ⟨by omega, by omega⟩ ?_
        (conv => whnf); refine recT (by rw [hlen]; exact Nat.beq_refl _) ?_
        conv => whnf
        have hidx : (vC (fillUp (pickL zV r is) zV k))[0 + (k : Int).toNat]? = some (valC zV) := by
          rw [Nat.zero_add, Int.toNat_natCast]
          exact vC_at (fillUp_get _ _ _ (by rw [pickL_length]; omega))
        refine recO hidx ?_
        conv => whnf
        refine ⟨m - 1, by omega, Gp.keep rfl ?_ fun ρ1 h => ⟨k + 1, by omega, ?_, h⟩⟩
        · exact ⟨rfl, rfl, rfl, intEq e1, trivial⟩
        · rw [← fillUp_set _ _ _ _ hw, ← setEs_vC]
          show [AObj.arr 3 (setEs (vC (fillUp (pickL zV r is) zV k)) (0 + (k : Int).toNat) (valC x))] = _
          rw [Nat.zero_add, Int.toNat_natCast]
      · replace h1 : decide (i < ((vC r).length : Int)) = false := h1
        simp [vC_length] at h1
        conv => whnf
        refine ⟨m - 1, by omega, Gp.keep rfl ?_ fun ρ1 h => ⟨k + 1, by omega, ?_, h⟩⟩
        · exact ⟨rfl, rfl, rfl, intEq e1, trivial⟩
        · rw [← fillUp_skip _ _ _ (pickL_out zV r is k i hi (by omega))]
    · replace h0 : decide (i ≥ 0) = false := h0
      simp at h0
      conv => whnf
      refine ⟨m - 1, by omega, Gp.keep rfl ?_ fun ρ1 h => ⟨k + 1, by omega, ?_, h⟩⟩
      · exact ⟨rfl, rfl, rfl, intEq e1, trivial⟩
      · rw [← fillUp_skip _ _ _ (pickL_out zV r is k i hi (by omega))]
  · simp [iC_length] at hlt
    have : k = is.length := by omega
    subst this
    conv => whnf
    refine ⟨rfl, ?_⟩
    rw [← pickL_length zV r is, fillUp_all]
theorem ref5_Pick_spec {P : Program} (F : F_warehouseref5_Pick P) (e1 e2 : Bool) (r : List V) (is : List Int) (hr : r.length ≤ 1000000) (hl : is.length ≤ 1000000) (H : List AObj) :
    ACalls P F.id [.list e1 3 (vC r), .list e2 1 (iC is)] H (fun q H' => q = .list false 3 (vC (pickL zV r is)) ∧ H' = H) :=
  ACalls.frz1 (by simp [AVal.closed, AVal.isPure]) (ref5_Pick_raw F e1 e2 r is hr hl) (by rw [vC_length, pickL_length]) (pureEs_vC _)

set_option maxRecDepth 20000 in
theorem pick_Column_raw {P : Program} (F : F_schema_pick_Column P) (e1 e2 : Bool) (r : List Col) (is : List Int) (hr : r.length ≤ 1000000) (hl : is.length ≤ 1000000) :
    ACalls P F.id [.list e1 3 (cC r), .list e2 1 (iC is)] [] (fun q H' => q = .sl 0 is.length 0 is.length ∧ H' = [.arr 3 (cC (pickL zC r is))]) := by
  refine acalls_of_body F.has ?_
  conv => whnf
  refine And.intro ⟨by omega, by omega, by rw [iC_length]; show (is.length : Int) * 32 ≤ 1099511627776; omega, by rw [iC_length]; show (is.length : Int) ≤ 1099511627776; omega⟩ ?_
  conv => whnf
  refine ⟨fun m ρ H => ∃ k : Nat, k + m = is.length ∧ H = [.arr 3 (cC (fillUp (pickL zC r is) zC k))] ∧ Sv 35 [(0, .list e1 3 (cC r)), (5, .sl 0 is.length 0 is.length), (11, .list e2 1 (iC is)), (12, .int .i64 is.length), (13, .int .i64 k)] ρ, is.length, [], ?_, ?_⟩
  · refine ⟨0, by omega, ?_, Sv.intro rfl ⟨rfl, slEq ?_ ?_, rfl, intEq (by rw [iC_length]), rfl, trivial⟩⟩
    · rw [fillUp_zero, pickL_length]
      simp [cC, iC_length]; exact .inr rfl
    · simp [iC_length]
    · simp [iC_length]
  rintro m ρ H ⟨k, hk, rfl, d, rfl⟩
  (conv => whnf); refine recA (fun hlt => ?_) (fun hlt => ?_)
  · simp at hlt
    obtain ⟨i, hi, _, _⟩ := get_drop hlt
    have hlen : (cC (fillUp (pickL zC r is) zC k)).length = is.length := by rw [cC_length, fillUp_length _ _ _ (by rw [pickL_length]; omega), pickL_length]
    have e1 := wrapI ((k : Int) + 1) (by omega) (by omega)
    conv => whnf
    refine And.intro (by omega) ?_
    (conv => whnf); refine recO (iC_at hi) ?_
    conv => whnf
    refine recA (fun h0 => ?_) (fun h0 => ?_)
    · replace h0 : decide (i ≥ 0) = true := h0
      simp at h0
      (conv => whnf); refine recA (fun h1 => ?_) (fun h1 => ?_)
      · replace h1 : decide (i < ((cC r).length : Int)) = true := h1
        simp [cC_length] at h1
        obtain ⟨x, hx, _, _⟩ := get_drop (l := r) (k := i.toNat) (by omega)
        have hw := pickL_in zC r is k i x hi h0 hx
        conv => whnf
        refine And.intro h0 ?_
        (conv => whnf); refine recO (cC_at hx) ?_
        (conv => whnf); refine recT (by rw [hlen]; exact Nat.beq_refl _) ?_
        conv => whnf
        refine And.intro ⟨by omega, by omega⟩ ?_
        (conv => whnf); refine recT (by rw [hlen]; exact Nat.beq_refl _) ?_
        conv => whnf
        have hidx : (cC (fillUp (pickL zC r is) zC k))[0 + (k : Int).toNat]? = some (colC zC) := by
          rw [Nat.zero_add, Int.toNat_natCast]
          exact cC_at (fillUp_get _ _ _ (by rw [pickL_length]; omega))
        refine recO hidx ?_
        conv => whnf
        refine ⟨m - 1, by omega, Gp.keep rfl ?_ fun ρ1 h => ⟨k + 1, by omega, ?_, h⟩⟩
        · exact ⟨rfl, rfl, rfl, rfl, intEq e1, trivial⟩
        · rw [← fillUp_set _ _ _ _ hw, ← setEs_cC]
          show [AObj.arr 3 (setEs (cC (fillUp (pickL zC r is) zC k)) (0 + (k : Int).toNat) (colC x))] = _
          rw [Nat.zero_add, Int.toNat_natCast]
      · replace h1 : decide (i < ((cC r).length : Int)) = false := h1
        simp [cC_length] at h1
        conv => whnf
        refine ⟨m - 1, by omega, Gp.keep rfl ?_ fun ρ1 h => ⟨k + 1, by omega, ?_, h⟩⟩
        · exact ⟨rfl, rfl, rfl, rfl, intEq e1, trivial⟩
        · rw [← fillUp_skip _ _ _ (pickL_out zC r is k i hi (by omega))]
    · replace h0 : decide (i ≥ 0) = false := h0
      simp at h0
      conv => whnf
      refine ⟨m - 1, by omega, Gp.keep rfl ?_ fun ρ1 h => ⟨k + 1, by omega, ?_, h⟩⟩
      · exact ⟨rfl, rfl, rfl, rfl, intEq e1, trivial⟩
      · rw [← fillUp_skip _ _ _ (pickL_out zC r is k i hi (by omega))]
  · simp at hlt
    have : k = is.length := by omega
    subst this
    conv => whnf
    refine ⟨rfl, ?_⟩
    rw [← pickL_length zC r is, fillUp_all]
theorem pick_Column_spec {P : Program} (F : F_schema_pick_Column P) (e1 e2 : Bool) (r : List Col) (is : List Int) (hr : r.length ≤ 1000000) (hl : is.length ≤ 1000000) (H : List AObj) :
    ACalls P F.id [.list e1 3 (cC r), .list e2 1 (iC is)] H (fun q H' => q = .list false 3 (cC (pickL zC r is)) ∧ H' = H) :=
  ACalls.frz1 (by simp [AVal.closed, AVal.isPure]) (pick_Column_raw F e1 e2 r is hr hl) (by rw [cC_length, pickL_length]) (pureEs_cC _)
theorem schema_Select_spec {P : Program} (F : F_schema_Select P) (e1 e2 : Bool) (r : List Col) (is : List Int) (hr : r.length ≤ 1000000) (hl : is.length ≤ 1000000) (H : List AObj) :
    ACalls P F.id [.list e1 3 (cC r), .list e2 1 (iC is)] H (fun q H' => q = .list false 3 (cC (pickL zC r is)) ∧ H' = H) := by
  refine ACalls.pure (by simp [AVal.closed, AVal.isPure]) (acalls_of_body F.has ?_)
  (conv => whnf); refine ACalls.use (pick_Column_spec F.schema_pick_Column e1 e2 r is hr hl _) ?_
  conv => whnf
  exact .closed _ rfl

set_option maxRecDepth 20000 in
theorem ref5_Select_raw {P : Program} (F : F_warehouseref5_Select P) (e1 e2 : Bool) (r : List Col) (is : List Int) (hr : r.length ≤ 1000000) (hl : is.length ≤ 1000000) :
    ACalls P F.id [.list e1 3 (cC r), .list e2 1 (iC is)] [] (fun q H' => q = .sl 0 is.length 0 is.length ∧ H' = [.arr 3 (cC (pickL zC r is))]) := by
  refine acalls_of_body F.has ?_
  conv => whnf
  refine And.intro ⟨by omega, by omega, by rw [iC_length]; show (is.length : Int) * 32 ≤ 1099511627776; omega, by rw [iC_length]; show (is.length : Int) ≤ 1099511627776; omega⟩ ?_
  conv => whnf
  refine ⟨fun m ρ H => ∃ k : Nat, k + m = is.length ∧ H = [.arr 3 (cC (fillUp (pickL zC r is) zC k))] ∧ Sv 41 [(0, .list e1 3 (cC r)), (1, .list e2 1 (iC is)), (5, .sl 0 is.length 0 is.length), (6, .int .i64 k)] ρ, is.length, [], ?_, ?_⟩
  · refine ⟨0, by omega, ?_, Sv.intro rfl ⟨rfl, rfl, slEq ?_ ?_, rfl, trivial⟩⟩
    · rw [fillUp_zero, pickL_length]
      simp [cC, iC_length]; exact .inr rfl
    · simp [iC_length]
    · simp [iC_length]
  rintro m ρ H ⟨k, hk, rfl, d, rfl⟩
  (conv => whnf); refine recA (fun hlt => ?_) (fun hlt => ?_)
  · simp [iC_length] at hlt
    obtain ⟨i, hi, _, _⟩ := get_drop hlt
    have hlen : (cC (fillUp (pickL zC r is) zC k)).length = is.length := by rw [cC_length, fillUp_length _ _ _ (by rw [pickL_length]; omega), pickL_length]
    have e1 := wrapI ((k : Int) + 1) (by omega) (by omega)
    conv => whnf
    refine And.intro (by omega) ?_
    (conv => whnf); refine recO (iC_at hi) ?_
    conv => whnf
    refine recA (fun h0 => ?_) (fun h0 => ?_)
    · replace h0 : decide (i ≥ 0) = true := h0
      simp at h0
      conv => whnf
      refine And.intro (by omega) ?_
      (conv => whnf); refine recO (iC_at hi) ?_
      (conv => whnf); refine recA (fun h1 => ?_) (fun h1 => ?_)
      · replace h1 : decide (i < ((cC r).length : Int)) = true := h1
        simp [cC_length] at h1
        obtain ⟨x, hx, _, _⟩ := get_drop (l := r) (k := i.toNat) (by omega)
        have hw := pickL_in zC r is k i x hi h0 hx
        conv => whnf
        refine And.intro (by omega) ?_
        (conv => whnf); refine recO (iC_at hi) ?_
        (conv => whnf); refine And.intro h0 ?_
        (conv => whnf); refine recO (cC_at hx) ?_
        (conv => whnf); refine recT (by rw [hlen]; exact Nat.beq_refl _) ?_
        conv => whnf
        refine And.intro ⟨by omega, by omega⟩ ?_
        (conv => whnf); refine recT (by rw [hlen]; exact Nat.beq_refl _) ?_
        conv => whnf
        have hidx : (cC (fillUp (pickL zC r is) zC k))[0 + (k : Int).toNat]? = some (colC zC) := by
          rw [Nat.zero_add, Int.toNat_natCast]
          exact cC_at (fillUp_get _ _ _ (by rw [pickL_length]; omega))
        refine recO hidx ?_
        conv => whnf
        refine ⟨m - 1, by omega, Gp.keep rfl ?_ fun ρ1 h => ⟨k + 1, by omega, ?_, h⟩⟩
        · exact ⟨rfl, rfl, rfl, intEq e1, trivial⟩
        · rw [← fillUp_set _ _ _ _ hw, ← setEs_cC]
          show [AObj.arr 3 (setEs (cC (fillUp (pickL zC r is) zC k)) (0 + (k : Int).toNat) (colC x))] = _
          rw [Nat.zero_add, Int.toNat_natCast]
      · replace h1 : decide (i < ((cC r).length : Int)) = false := h1
        simp [cC_length] at h1
        conv => whnf
        refine ⟨m - 1, by omega, Gp.keep rfl ?_ fun ρ1 h => ⟨k + 1, by omega, ?_, h⟩⟩
        · exact ⟨rfl, rfl, rfl, intEq e1, trivial⟩
        · rw [← fillUp_skip _ _ _ (pickL_out zC r is k i hi (by omega))]
    · replace h0 : decide (i ≥ 0) = false := h0
      simp at h0
      conv => whnf
      refine ⟨m - 1, by omega, Gp.keep rfl ?_ fun ρ1 h => ⟨k + 1, by omega, ?_, h⟩⟩
      · exact ⟨rfl, rfl, rfl, intEq e1, trivial⟩
      · rw [← fillUp_skip _ _ _ (pickL_out zC r is k i hi (by omega))]
  · simp [iC_length] at hlt
    have : k = is.length := by omega
    subst this
    conv => whnf
    refine ⟨rfl, ?_⟩
    rw [← pickL_length zC r is, fillUp_all]
theorem ref5_Select_spec {P : Program} (F : F_warehouseref5_Select P) (e1 e2 : Bool) (r : List Col) (is : List Int) (hr : r.length ≤ 1000000) (hl : is.length ≤ 1000000) (H : List AObj) :
    ACalls P F.id [.list e1 3 (cC r), .list e2 1 (iC is)] H (fun q H' => q = .list false 3 (cC (pickL zC r is)) ∧ H' = H) :=
  ACalls.frz1 (by simp [AVal.closed, AVal.isPure]) (ref5_Select_raw F e1 e2 r is hr hl) (by rw [cC_length, pickL_length]) (pureEs_cC _)
end Go.AW
