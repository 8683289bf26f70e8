/-
  Rows out of numbers; the order of rows.
  No condition: contracts over any program that has this code.
-/
import Derived.Test.YtikifhfpiahnoaaWhBase
namespace Go.AW
attribute [local irreducible] ACalls

def rowK (l : List Int) (k : Nat) : List V := (List.range k).map fun i : Nat => anyV (atV l (i : Int))
theorem rowK_length (l : List Int) (k : Nat) : (rowK l k).length = k := by simp [rowK]
theorem rowK_succ (l : List Int) (k : Nat) : rowK l (k + 1) = rowK l k ++ [anyV (atV l k)] := by simp [rowK, List.range_succ]
theorem rowK_valid (l : List Int) (k : Nat) : ∀ v ∈ rowK l k, validB v = true := by
  intro v hv
  obtain ⟨i, _, rfl⟩ := List.mem_map.1 hv
  exact anyV_valid _
/-- Values as elements. -/
def vC (rs : List V) : List (List AVal) := rs.map valC
theorem vC_length (l : List V) : (vC l).length = l.length := List.length_map ..
theorem vC_append (a b : List V) : vC (a ++ b) = vC a ++ vC b := List.map_append
theorem pureEs_vC (l : List V) : pureEs (vC l) = true := by simp [pureEs, vC, valC, AVal.isPure]

theorem roomMul {n b : Nat} (h : n ≤ 1000000) (hb : b ≤ 1000000) : n * b ≤ roomB :=
  Nat.le_trans (Nat.mul_le_mul h hb) (by show 1000000 * 1000000 ≤ 1099511627776; omega)

theorem row_raw {P : Program} (F : F_warehouselaw1_row P) (ex : Bool) (l : List Int) (n : Int) (hn : n ≤ 1000) :
    ACalls P F.id [.list ex 1 (iC l), .int .i64 n] [] (fun r H' => r = .sl 0 n.toNat 0 n.toNat ∧ H' = [.arr 3 (vC (rowK l n.toNat))]) := by
  refine acalls_of_body F.has ?_
  conv => whnf
  refine ⟨fun m ρ H => ∃ k : Nat, k + m = n.toNat ∧ H = [.arr 3 (vC (rowK l k))] ∧ Sv 20 [(0, .list ex 1 (iC l)), (1, .int .i64 n), (5, .sl 0 k 0 k), (6, .int .i64 k)] ρ, n.toNat, [(5, 3)], ?_, ?_⟩
  · exact ⟨0, by omega, by rfl, Sv.intro rfl ⟨rfl, rfl, rfl, rfl, trivial⟩⟩
  rintro m ρ H ⟨k, hk, rfl, d, rfl⟩
  (conv => whnf); refine recA (fun hlt => ?_) (fun hlt => ?_)
  · simp at hlt
    conv => whnf
    refine ACalls.use (At_spec F.warehousebase_At ex l k _) ?_
    conv => whnf
    refine ACalls.use (Any_spec F.warehousebase_Any _ _) ?_
    (conv => whnf); refine recT (by simp [vC_length, rowK_length]) ?_
    conv => whnf
    refine And.intro ⟨roomMul (by simp; omega) (by omega), roomB_le (by simp; omega), rfl, by simp [vC_length, rowK_length]⟩ ?_
    conv => whnf
    have hkey : vC (rowK l (k + 1)) = vC (rowK l k) ++ [valC (anyV (atV l k))] := by rw [rowK_succ, vC_append]; rfl
    have hlen : (vC (rowK l k) ++ [valC (anyV (atV l k))]).length = k + 1 := by simp [vC_length, rowK_length]
    refine ⟨m - 1, by omega, Gp.keep rfl ?_ fun ρ1 h => ⟨k + 1, by omega, by rw [hkey]; rfl, h⟩⟩
    exact ⟨rfl, rfl, slEq hlen hlen, intEq (wrapI ((k : Int) + 1) (by omega) (by omega)), trivial⟩
  · simp at hlt
    have : k = n.toNat := by omega
    subst this
    conv => whnf
    exact ⟨rfl, rfl⟩
theorem row_spec {P : Program} (F : F_warehouselaw1_row P) (ex : Bool) (l : List Int) (n : Int) (hn : n ≤ 1000) (H : List AObj) :
    ACalls P F.id [.list ex 1 (iC l), .int .i64 n] H (fun r H' => r = .list false 3 (vC (rowK l n.toNat)) ∧ H' = H) := by
  refine ACalls.pure (by simp [AVal.closed, AVal.isPure]) ((row_raw F ex l n hn).mono ?_)
  rintro r H1 ⟨rfl, rfl⟩
  exact pubF rfl (by simp [vC_length, rowK_length]) (by simp [vC_length, rowK_length]) (pureEs_vC _)

theorem vC_get {l : List V} {k : Nat} (h : k < l.length) : (vC l)[k]? = some (valC l[k]) := by
  rw [vC, List.getElem?_map, List.getElem?_eq_getElem h]; rfl

theorem vC_at {l : List V} {k : Nat} {x : V} (h : l[k]? = some x) : (vC l)[k]? = some (valC x) := by
  rw [vC, List.getElem?_map, h]; rfl
theorem get_drop {α : Type} {l : List α} {k : Nat} (h : k < l.length) : ∃ x, l[k]? = some x ∧ l.drop k = x :: l.drop (k + 1) ∧ x ∈ l :=
  ⟨l[k], List.getElem?_eq_getElem h, List.drop_eq_getElem_cons h, List.getElem_mem h⟩

def rowsCmp : List V → List V → Int
  | [], [] => 0
  | [], _ :: _ => -1
  | _ :: _, [] => 1
  | x :: xs, y :: ys => if valCmp x y = 0 then rowsCmp xs ys else valCmp x y

set_option maxRecDepth 20000 in
theorem CompareFunc_spec {P : Program} (F : F_slices_CompareFunc_LValue_Value P) (g : FuncId) (hg : ∀ (a b : V) (H : List AObj), ACalls P g [.agg (valC a), .agg (valC b)] H (fun r H' => r = .int .i64 (valCmp a b) ∧ H' = H))
    (e1 e2 : Bool) (a b : List V) (ha : a.length ≤ 1000000) (H : List AObj) :
    ACalls P F.id [.list e1 3 (vC a), .list e2 3 (vC b), .fn g []] H (fun r H' => r = .int .i64 (rowsCmp a b) ∧ H' = H) := by
  refine ACalls.pure rfl (acalls_of_body F.has ?_)
  conv => whnf
  refine ⟨fun m ρ H => ∃ k : Nat, k + m = a.length ∧ rowsCmp (a.drop k) (b.drop k) = rowsCmp a b ∧ H = [] ∧
    Sv 39 [(0, .list e1 3 (vC a)), (1, .list e2 3 (vC b)), (2, .fn g []), (11, .list e1 3 (vC a)), (12, .int .i64 a.length), (13, .int .i64 k)] ρ, a.length, [], ?_, ?_⟩
  · exact ⟨0, by omega, rfl, rfl, Sv.intro rfl ⟨rfl, rfl, rfl, rfl, intEq (by rw [vC_length]), rfl, trivial⟩⟩
  rintro m ρ H ⟨k, hk, hr, rfl, d, rfl⟩
  (conv => whnf); refine recA (fun hlt => ?_) (fun hlt => ?_)
  · simp at hlt
    conv => whnf
    refine And.intro (by omega) ?_
    obtain ⟨x, hx, hda, _⟩ := get_drop hlt
    rw [hda] at hr
    (conv => whnf); refine recO (vC_at hx) ?_
    (conv => whnf); refine recA (fun hlt2 => ?_) (fun hlt2 => ?_)
    · simp [vC_length] at hlt2
      conv => whnf
      rw [List.drop_eq_nil_of_le hlt2] at hr
      exact pubI hr
    simp [vC_length] at hlt2
    conv => whnf
    refine And.intro (by omega) ?_
    obtain ⟨y, hy, hdb, _⟩ := get_drop hlt2
    rw [hdb] at hr
    (conv => whnf); refine recO (vC_at hy) ?_
    conv => whnf
    refine ACalls.use (hg x y _) ?_
    (conv => whnf); refine recA (fun hne => ?_) (fun hne => ?_)
    · conv => whnf
      refine pubI ?_
      rw [← hr, rowsCmp, if_neg (by simpa using hne)]
    · conv => whnf
      refine ⟨m - 1, by omega, Gp.none rfl ?_ fun ρ1 h => ⟨k + 1, by omega, ?_, rfl, h⟩⟩
      · exact ⟨.closed _ rfl, .closed _ rfl, .closed _ rfl, .closed _ rfl, .closed _ rfl, pub_int (wrapI ((k : Int) + 1) (by omega) (by omega)), trivial⟩
      · rw [← hr, rowsCmp, if_pos (by simpa using hne)]
  · simp at hlt
    rw [List.drop_eq_nil_of_le hlt] at hr
    (conv => whnf); refine recA (fun hlt2 => ?_) (fun hlt2 => ?_)
    · simp [vC_length] at hlt2
      conv => whnf
      have hdb : b.drop k = b[k]'(by omega) :: b.drop (k + 1) := List.drop_eq_getElem_cons (by omega)
      rw [hdb] at hr
      exact pubI hr
    · simp [vC_length] at hlt2
      conv => whnf
      rw [List.drop_eq_nil_of_le (by omega)] at hr
      exact pubI hr

theorem value_CompareRows_spec {P : Program} (F : F_value_CompareRows P) (e1 e2 : Bool) (a b : List V) (ha : a.length ≤ 1000000) (H : List AObj) :
    ACalls P F.id [.list e1 3 (vC a), .list e2 3 (vC b)] H (fun r H' => r = .int .i64 (rowsCmp a b) ∧ H' = H) := by
  refine ACalls.pure rfl (acalls_of_body F.has ?_)
  conv => whnf
  refine ACalls.use (CompareFunc_spec F.slices_CompareFunc_LValue_Value _ (value_Compare_spec F.value_Compare) e1 e2 a b ha _) ?_
  conv => whnf
  exact .closed _ rfl

set_option maxRecDepth 20000 in
theorem ref1_CompareRows_spec {P : Program} (F : F_warehouseref1_CompareRows P) (e1 e2 : Bool) (a b : List V) (ha : a.length ≤ 1000000) (H : List AObj) :
    ACalls P F.id [.list e1 3 (vC a), .list e2 3 (vC b)] H (fun r H' => r = .int .i64 (rowsCmp a b) ∧ H' = H) := by
  refine ACalls.pure rfl (acalls_of_body F.has ?_)
  conv => whnf
  refine ⟨fun m ρ H => ∃ k : Nat, k + m = a.length ∧ k ≤ b.length ∧ rowsCmp (a.drop k) (b.drop k) = rowsCmp a b ∧ H = [] ∧
    Sv 36 [(0, .list e1 3 (vC a)), (1, .list e2 3 (vC b)), (5, .int .i64 k)] ρ, a.length, [], ?_, ?_⟩
  · exact ⟨0, by omega, by omega, rfl, rfl, Sv.intro rfl ⟨rfl, rfl, rfl, trivial⟩⟩
  rintro m ρ H ⟨k, hk, hkb, hr, rfl, d, rfl⟩
  have fin : a.length ≤ k ∨ b.length ≤ k → cmpI (vC a).length (vC b).length = rowsCmp a b := by
    intro h
    rw [vC_length, vC_length, ← hr]
    by_cases h1 : a.length ≤ k
    · rw [List.drop_eq_nil_of_le h1]
      by_cases h2 : b.length ≤ k
      · rw [List.drop_eq_nil_of_le h2]
        have : a.length = b.length := by omega
        simp [cmpI, rowsCmp, this]
      · rw [show b.drop k = b[k]'(by omega) :: b.drop (k + 1) from List.drop_eq_getElem_cons (by omega), rowsCmp, cmpI, if_pos (by omega)]
    · rw [show a.drop k = a[k]'(by omega) :: a.drop (k + 1) from List.drop_eq_getElem_cons (by omega), List.drop_eq_nil_of_le (show b.length ≤ k by omega), rowsCmp, cmpI, if_neg (by omega), if_pos (by omega)]
  (conv => whnf); refine recA (fun hlt => ?_) (fun hlt => ?_)
  · simp [vC_length] at hlt
    (conv => whnf); refine recA (fun hlt2 => ?_) (fun hlt2 => ?_)
    · simp [vC_length] at hlt2
      conv => whnf
      refine And.intro (by omega) ?_
      obtain ⟨x, hx, hda, _⟩ := get_drop hlt
      obtain ⟨y, hy, hdb, _⟩ := get_drop hlt2
      rw [hda, hdb] at hr
      (conv => whnf); refine recO (vC_at hx) ?_
      conv => whnf
      refine And.intro (by omega) ?_
      (conv => whnf); refine recO (vC_at hy) ?_
      conv => whnf
      refine ⟨_, ref1_Compare_spec F.warehouseref1_Compare x y _, ?_⟩
      (conv => whnf); refine recA (fun hne => ?_) (fun hne => ?_)
      · conv => whnf
        refine pubI ?_
        rw [← hr, rowsCmp, if_neg (by simpa using hne)]
      · conv => whnf
        refine ⟨m - 1, by omega, Gp.none rfl ?_ fun ρ1 h => ⟨k + 1, by omega, by omega, ?_, rfl, h⟩⟩
        · exact ⟨.closed _ rfl, .closed _ rfl, pub_int (wrapI ((k : Int) + 1) (by omega) (by omega)), trivial⟩
        · rw [← hr, rowsCmp, if_pos (by simpa using hne)]
    · simp [vC_length] at hlt2
      conv => whnf
      refine ACalls.use (numbers_spec F.warehouseref1_numbers _ _ _) ?_
      conv => whnf
      exact pubI (fin (.inr hlt2))
  · simp [vC_length] at hlt
    conv => whnf
    refine ACalls.use (numbers_spec F.warehouseref1_numbers _ _ _) ?_
    conv => whnf
    exact pubI (fin (.inl hlt))

theorem ref1_SameRow_spec {P : Program} (F : F_warehouseref1_SameRow P) (e1 e2 : Bool) (a b : List V) (ha : a.length ≤ 1000000) (H : List AObj) :
    ACalls P F.id [.list e1 3 (vC a), .list e2 3 (vC b)] H (fun r H' => r = .bool (rowsCmp a b == 0) ∧ H' = H) := by
  refine ACalls.pure rfl (acalls_of_body F.has ?_)
  conv => whnf
  refine ACalls.use (ref1_CompareRows_spec F.warehouseref1_CompareRows e1 e2 a b ha _) ?_
  conv => whnf
  exact .closed _ rfl
end Go.AW
