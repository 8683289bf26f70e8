/-
  Columns with the same names and kinds; widened columns.
  No condition: contracts over any program that has this code.
-/
import Derived.Test.YtikifhfpiahnoaaWhLaw5c
import Derived.Test.YtikifhfpiahnoaaAwWeakR
namespace Go.AW
attribute [local irreducible] ACalls

def same1 (x y : Col) : Bool := (x.name.data.toList == y.name.data.toList) && (x.kind == y.kind)
def samB : List Col → List Col → Bool
  | [], [] => true
  | x :: a, y :: b => same1 x y && samB a b
  | _, _ => false
theorem samB_len : ∀ (a b : List Col), a.length ≠ b.length → samB a b = false
  | [], [], h => absurd rfl h
  | [], _ :: _, _ => rfl
  | _ :: _, [], _ => rfl
  | x :: a, y :: b, h => by rw [samB, samB_len a b (by simpa using h)]; simp
theorem samB_refl : ∀ a : List Col, samB a a = true
  | [] => rfl
  | x :: a => by rw [samB, samB_refl a]; simp [same1]

/-- The columns a, nullable where one of both is. -/
def widC : List Col → List Col → List Col
  | x :: a, y :: b => ⟨x.name, x.kind, x.nul || y.nul⟩ :: widC a b
  | a, [] => a
  | [], _ => []
theorem widC_length : ∀ (a b : List Col), (widC a b).length = a.length
  | x :: a, y :: b => by simp [widC, widC_length a b]
  | [], [] => rfl
  | _ :: _, [] => rfl
  | [], _ :: _ => rfl
theorem widC_get : ∀ (a b : List Col) (k : Nat) (x y : Col), a[k]? = some x → b[k]? = some y → (widC a b)[k]? = some ⟨x.name, x.kind, x.nul || y.nul⟩
  | [], _, _, _, _, h, _ => by simp at h
  | _ :: _, [], _, _, _, _, h => by simp at h
  | a0 :: a, b0 :: b, 0, x, y, h1, h2 => by simp at h1 h2; subst h1 h2; simp [widC]
  | a0 :: a, b0 :: b, k + 1, x, y, h1, h2 => by
    have := widC_get a b k x y (by simpa using h1) (by simpa using h2)
    rw [widC, List.getElem?_cons_succ]; exact this
theorem widC_drop : ∀ (a b : List Col) (k : Nat), (a.length ≤ k ∨ b.length ≤ k) → (widC a b).drop k = a.drop k
  | [], [], k, _ => rfl
  | [], _ :: _, k, _ => rfl
  | _ :: _, [], k, _ => rfl
  | x :: a, y :: b, 0, h => by simp at h
  | x :: a, y :: b, k + 1, h => by
    rw [widC, List.drop_succ_cons, List.drop_succ_cons]
    exact widC_drop a b k (by simpa using h)
theorem widC_same : ∀ (a b : List Col), samB a (widC a b) = true
  | x :: a, y :: b => by rw [widC, samB, widC_same a b]; simp [same1]
  | [], [] => rfl
  | x :: a, [] => samB_refl _
  | [], _ :: _ => rfl
theorem widC_nul : ∀ (a b : List Col) (k : Nat) (x w : Col), a[k]? = some x → (widC a b)[k]? = some w → x.nul = true → w.nul = true
  | [], _, _, _, _, h, _, _ => by simp at h
  | x0 :: a, [], k, x, w, h1, h2, h3 => by rw [widC, h1] at h2; cases h2; exact h3
  | x0 :: a, y0 :: b, 0, x, w, h1, h2, h3 => by
    rw [widC] at h2; simp at h1 h2; subst h1; rw [← h2]; simp [h3]
  | x0 :: a, y0 :: b, k + 1, x, w, h1, h2, h3 => by
    rw [widC, List.getElem?_cons_succ] at h2
    exact widC_nul a b k x w (by simpa using h1) h2 h3

/-- Partly widened columns. -/
def mixL (W a : List Col) (k : Nat) : List Col := W.take k ++ a.drop k
theorem mixL_length (W a : List Col) (k : Nat) (h : W.length = a.length) : (mixL W a k).length = a.length := by simp [mixL]; omega
theorem mixL_get (W a : List Col) (k : Nat) (x : Col) (h : W.length = a.length) (hx : a[k]? = some x) : (mixL W a k)[k]? = some x := by
  have hk := (List.getElem?_eq_some_iff.1 hx).1
  have h1 : (W.take k).length = k := by simp; omega
  rw [mixL, List.getElem?_append_right (by omega), h1, Nat.sub_self, List.getElem?_drop]
  simpa using hx
theorem mixL_set (W a : List Col) (k : Nat) (w : Col) (h : W.length = a.length) (hw : W[k]? = some w) : (mixL W a k).set k w = mixL W a (k + 1) := by
  have hk := (List.getElem?_eq_some_iff.1 hw).1
  have h1 : (W.take k).length = k := by simp; omega
  obtain ⟨x, hx, hd, _⟩ := get_drop (l := a) (k := k) (by omega)
  rw [mixL, mixL, List.set_append_right _ _ (by omega), h1, Nat.sub_self, hd, List.set_cons_zero, List.take_add_one, hw]
  simp
theorem mixL_end (a b : List Col) (k : Nat) (h : a.length ≤ k ∨ b.length ≤ k) : mixL (widC a b) a k = widC a b := by
  rw [mixL, ← widC_drop a b k h, List.take_append_drop]

set_option maxRecDepth 20000 in
theorem EqualFunc_spec {P : Program} (F : F_slices_EqualFunc_LColumn_Column P) (g : FuncId) (hg : ∀ (a b : Col) (H : List AObj), ACalls P g [.agg (colC a), .agg (colC b)] H (fun r H' => r = .bool (same1 a b) ∧ H' = H))
    (e1 e2 : Bool) (a b : List Col) (ha : a.length ≤ 1000000) (H : List AObj) :
    ACalls P F.id [.list e1 3 (cC a), .list e2 3 (cC b), .fn g []] H (fun r H' => r = .bool (samB a b) ∧ H' = H) := by
  refine ACalls.pure (by simp [AVal.closed, AVal.isPure]) (acalls_of_body F.has ?_)
  (conv => whnf); refine recA (fun h0 => ?_) (fun h0 => ?_)
  · simp [cC_length] at h0
    conv => whnf
    exact pubB (samB_len a b (by omega)).symm
  simp [cC_length] at h0
  conv => whnf
  refine ⟨fun m ρ H1 => ∃ k : Nat, k + m = a.length ∧ samB (a.drop k) (b.drop k) = samB a b ∧ H1 = [] ∧
    Sv 32 [(1, .list e2 3 (cC b)), (2, .fn g []), (15, .list e1 3 (cC a)), (16, .int .i64 a.length), (17, .int .i64 k)] ρ, a.length, [], ?_, ?_⟩
  · exact ⟨0, by omega, rfl, rfl, Sv.intro rfl ⟨rfl, rfl, rfl, intEq (by rw [cC_length]), rfl, trivial⟩⟩
  rintro m ρ H1 ⟨k, hk, hr, rfl, d, rfl⟩
  (conv => whnf); refine recA (fun hlt => ?_) (fun hlt => ?_)
  · simp at hlt
    obtain ⟨x, hx, hdx, _⟩ := get_drop hlt
    obtain ⟨y, hy, hdy, _⟩ := get_drop (show k < b.length by omega)
    rw [hdx, hdy, samB] at hr
    conv => whnf
    refine And.intro (by omega) ?_
    (conv => whnf); refine recO (cC_at hx) ?_
    (conv => whnf); refine And.intro (by omega) ?_
    (conv => whnf); refine recO (cC_at hy) ?_
    conv => whnf
    refine ACalls.use (hg x y _) ?_
    (conv => whnf); refine recA (fun h => ?_) (fun hf => ?_)
    · replace h : (!(same1 x y)) = true := h
      conv => whnf
      exact pubB (by rw [← hr]; simp_all)
    · replace hf : (!(same1 x y)) = false := hf
      conv => whnf
      refine ⟨m - 1, by omega, Gp.none rfl ?_ fun ρ1 h => ⟨k + 1, by omega, ?_, rfl, h⟩⟩
      · exact ⟨.closed _ rfl, .closed _ rfl, .closed _ rfl, .closed _ rfl, pub_int (wrapI ((k : Int) + 1) (by omega) (by omega)), trivial⟩
      · rw [← hr]; simp_all
  · simp at hlt
    conv => whnf
    rw [List.drop_eq_nil_of_le hlt, List.drop_eq_nil_of_le (show b.length ≤ k by omega)] at hr
    exact pubB hr

set_option maxRecDepth 20000 in
theorem Same_1_spec {P : Program} (F : F_schema_Same_1 P) (x y : Col) (H : List AObj) :
    ACalls P F.id [.agg (colC x), .agg (colC y)] H (fun r H' => r = .bool (same1 x y) ∧ H' = H) := by
  refine ACalls.pure rfl (acalls_of_body F.has ?_)
  (conv => whnf); refine recA (fun h => ?_) (fun h => ?_)
  · replace h : (x.name.data.toList == y.name.data.toList) = true := h
    conv => whnf
    exact pubB (by rw [same1, h]; simp)
  · replace h : (x.name.data.toList == y.name.data.toList) = false := h
    conv => whnf
    exact pubB (by rw [same1, h]; rfl)

theorem schema_Same_spec {P : Program} (F : F_schema_Same P) (e1 e2 : Bool) (a b : List Col) (ha : a.length ≤ 1000000) (H : List AObj) :
    ACalls P F.id [.list e1 3 (cC a), .list e2 3 (cC b)] H (fun r H' => r = .bool (samB a b) ∧ H' = H) := by
  refine ACalls.pure (by simp [AVal.closed, AVal.isPure]) (acalls_of_body F.has ?_)
  (conv => whnf); refine ACalls.use (EqualFunc_spec F.slices_EqualFunc_LColumn_Column _ (fun x y H => Same_1_spec F.schema_Same_1 x y H) e1 e2 a b ha _) ?_
  conv => whnf
  exact .closed _ rfl

set_option maxRecDepth 20000 in
theorem ref5_Same_spec {P : Program} (F : F_warehouseref5_Same P) (e1 e2 : Bool) (a b : List Col) (ha : a.length ≤ 1000000) (H : List AObj) :
    ACalls P F.id [.list e1 3 (cC a), .list e2 3 (cC b)] H (fun r H' => r = .bool (samB a b) ∧ H' = H) := by
  refine ACalls.pure (by simp [AVal.closed, AVal.isPure]) (acalls_of_body F.has ?_)
  (conv => whnf); refine recA (fun h0 => ?_) (fun h0 => ?_)
  · simp [cC_length] at h0
    conv => whnf
    exact pubB (samB_len a b (by omega)).symm
  simp [cC_length] at h0
  conv => whnf
  refine ⟨fun m ρ H1 => ∃ k : Nat, k + m = a.length ∧ samB (a.drop k) (b.drop k) = samB a b ∧ H1 = [] ∧
    Sv 41 [(0, .list e1 3 (cC a)), (1, .list e2 3 (cC b)), (5, .int .i64 k)] ρ, a.length, [], ?_, ?_⟩
  · exact ⟨0, by omega, rfl, rfl, Sv.intro rfl ⟨rfl, rfl, rfl, trivial⟩⟩
  rintro m ρ H1 ⟨k, hk, hr, rfl, d, rfl⟩
  (conv => whnf); refine recA (fun hlt => ?_) (fun hlt => ?_)
  · simp [cC_length] at hlt
    obtain ⟨x, hx, hdx, _⟩ := get_drop hlt
    obtain ⟨y, hy, hdy, _⟩ := get_drop (show k < b.length by omega)
    rw [hdx, hdy, samB] at hr
    repeat' ((conv => whnf); first | refine And.intro (by omega) ?_ | refine recO (cC_at hx) ?_ | refine recO (cC_at hy) ?_ | refine recA (fun h => ?_) (fun h => ?_))
    all_goals (conv => whnf)
    all_goals first
      | refine ⟨m - 1, by omega, Gp.none rfl ?_ fun ρ1 h => ⟨k + 1, by omega, ?_, rfl, h⟩⟩
      | refine pubB ?_
    all_goals first
      | exact ⟨.closed _ rfl, .closed _ rfl, pub_int (wrapI ((k : Int) + 1) (by omega) (by omega)), trivial⟩
      | skip
    all_goals
      rw [← hr]
      clear hr
      simp_all [same1]
  · simp [cC_length] at hlt
    conv => whnf
    rw [List.drop_eq_nil_of_le hlt, List.drop_eq_nil_of_le (show b.length ≤ k by omega)] at hr
    exact pubB hr

set_option maxRecDepth 20000 in
theorem Clone_raw {P : Program} (F : F_slices_Clone_LColumn_Column P) (ex : Bool) (cs : List Col) (hl : cs.length ≤ 1000000) :
    ACalls P F.id [.list ex 3 (cC cs)] [] (fun r H' => (r = .nil ∧ cs = [] ∧ H' = []) ∨ (r = .sl 0 cs.length 0 cs.length ∧ H' = [.arr 3 (cC cs)])) := by
  refine acalls_of_body F.has ?_
  conv => whnf
  refine And.intro (fun h => ?_) ?_
  · conv => whnf
    exact .inl ⟨rfl, by simpa [cC] using h, rfl⟩
  · conv => whnf
    refine And.intro ⟨roomMul (by simp [cC_length]; omega) (by omega), roomB_le (by simp [cC_length]; omega), .inr rfl⟩ ?_
    conv => whnf
    refine .inr ⟨slEq ?_ ?_, rfl⟩
    · simp [cC_length]
    · simp [cC_length]

set_option maxRecDepth 20000 in
theorem Widen_raw {P : Program} (F : F_schema_Widen P) (e1 e2 : Bool) (a b : List Col) (hl : a.length ≤ 1000000) (hl2 : b.length ≤ 1000000) :
    ACalls P F.id [.list e1 3 (cC a), .list e2 3 (cC b)] [] (fun r H' => r = .sl 0 a.length 0 a.length ∧ H' = [.arr 3 (cC (widC a b))]) := by
  refine acalls_of_body F.has ?_
  conv => whnf
  refine (Clone_raw F.slices_Clone_LColumn_Column e1 a hl).mono ?_
  rintro r H' (⟨rfl, ha, rfl⟩ | ⟨rfl, rfl⟩)
  · conv => whnf
    refine ⟨fun m ρ H => ∃ k : Nat, k + m = min a.length b.length ∧ H = [.arr 3 (cC (mixL (widC a b) a k))] ∧ Sv 35 [(0, .list e1 3 (cC a)), (1, .list e2 3 (cC b)), (5, .sl 0 a.length 0 a.length), (13, .int .i64 (min a.length b.length : Nat)), (14, .int .i64 k)] ρ, min a.length b.length, [(5, 3)], ?_, ?_⟩
    · refine ⟨0, by omega, ?_, Sv.intro rfl ⟨rfl, rfl, ?_, intEq ?_, rfl, trivial⟩⟩
      · have h0 : mixL (widC a b) a 0 = a := by rw [mixL, List.take_zero, List.drop_zero, List.nil_append]
        first | (rw [h0]; done) | (rw [h0, ha]; rfl)
      · first | rfl | (rw [ha]; rfl)
      · show (if ((cC b).length : Int) < ((cC a).length : Int) then ((cC b).length : Int) else ((cC a).length : Int)) = _
        rw [cC_length, cC_length]; split <;> omega
    rintro m ρ H ⟨k, hk, rfl, d, rfl⟩
    have hlen : (cC (mixL (widC a b) a k)).length = a.length := by rw [cC_length, mixL_length _ _ _ (widC_length a b)]
    (conv => whnf); refine recA (fun hlt => ?_) (fun hlt => ?_)
    · replace hlt : decide ((k : Int) < ((min a.length b.length : Nat) : Int)) = true := hlt
      simp at hlt
      obtain ⟨x, hx, _, _⟩ := get_drop (l := a) (k := k) (by omega)
      obtain ⟨y, hy, _, _⟩ := get_drop (l := b) (k := k) (by omega)
      have hw := widC_get a b k x y hx hy
      have hidx : (cC (mixL (widC a b) a k))[0 + (k : Int).toNat]? = some (colC x) := by
        rw [Nat.zero_add, Int.toNat_natCast]; exact cC_at (mixL_get _ _ _ _ (widC_length a b) hx)
      have ew := wrapI ((k : Int) + 1) (by omega) (by omega)
      have fin : ∀ q : Bool, (x.nul || y.nul) = q → [AObj.arr 3 (setEs (cC (mixL (widC a b) a k)) (0 + (k : Int).toNat) (colC ⟨x.name, x.kind, q⟩))] = [AObj.arr 3 (cC (mixL (widC a b) a (k + 1)))] := by
        intro q hq; subst hq
        rw [Nat.zero_add, Int.toNat_natCast, setEs_cC, mixL_set _ _ _ _ (widC_length a b) hw]
      (conv => whnf); refine And.intro (by omega) ?_
      (conv => whnf); refine recO (cC_at hx) ?_
      (conv => whnf); refine recA (fun g => ?_) (fun g => ?_)
      · (conv => whnf); refine recT (by rw [hlen]; exact Nat.beq_refl _) ?_
        (conv => whnf); refine And.intro ⟨by omega, by omega⟩ ?_
        (conv => whnf); refine recT (by rw [hlen]; exact Nat.beq_refl _) ?_
        conv => whnf
        refine recO hidx ?_
        conv => whnf
        refine ⟨m - 1, by omega, Gp.keep rfl ?_ fun ρ1 h => ⟨k + 1, by omega, ?_, h⟩⟩
        · exact ⟨rfl, rfl, rfl, rfl, intEq ew, trivial⟩
        · rw [← fin true (by rw [g]; rfl)]; rfl
      · (conv => whnf); refine And.intro (by omega) ?_
        (conv => whnf); refine recO (cC_at hy) ?_
        (conv => whnf); refine recT (by rw [hlen]; exact Nat.beq_refl _) ?_
        (conv => whnf); refine And.intro ⟨by omega, by omega⟩ ?_
        (conv => whnf); refine recT (by rw [hlen]; exact Nat.beq_refl _) ?_
        conv => whnf
        refine recO hidx ?_
        conv => whnf
        refine ⟨m - 1, by omega, Gp.keep rfl ?_ fun ρ1 h => ⟨k + 1, by omega, ?_, h⟩⟩
        · exact ⟨rfl, rfl, rfl, rfl, intEq ew, trivial⟩
        · rw [← fin y.nul (by rw [g]; rfl)]; rfl
    · replace hlt : decide ((k : Int) < ((min a.length b.length : Nat) : Int)) = false := hlt
      simp at hlt
      conv => whnf
      refine ⟨rfl, ?_⟩
      rw [mixL_end a b k (by omega)]
  · conv => whnf
    refine ⟨fun m ρ H => ∃ k : Nat, k + m = min a.length b.length ∧ H = [.arr 3 (cC (mixL (widC a b) a k))] ∧ Sv 35 [(0, .list e1 3 (cC a)), (1, .list e2 3 (cC b)), (5, .sl 0 a.length 0 a.length), (13, .int .i64 (min a.length b.length : Nat)), (14, .int .i64 k)] ρ, min a.length b.length, [], ?_, ?_⟩
    · refine ⟨0, by omega, ?_, Sv.intro rfl ⟨rfl, rfl, ?_, intEq ?_, rfl, trivial⟩⟩
      · have h0 : mixL (widC a b) a 0 = a := by rw [mixL, List.take_zero, List.drop_zero, List.nil_append]
        first | (rw [h0]; done) | (rw [h0, ha]; rfl)
      · first | rfl | (rw [ha]; rfl)
      · show (if ((cC b).length : Int) < ((cC a).length : Int) then ((cC b).length : Int) else ((cC a).length : Int)) = _
        rw [cC_length, cC_length]; split <;> omega
    rintro m ρ H ⟨k, hk, rfl, d, rfl⟩
    have hlen : (cC (mixL (widC a b) a k)).length = a.length := by rw [cC_length, mixL_length _ _ _ (widC_length a b)]
    (conv => whnf); refine recA (fun hlt => ?_) (fun hlt => ?_)
    · replace hlt : decide ((k : Int) < ((min a.length b.length : Nat) : Int)) = true := hlt
      simp at hlt
      obtain ⟨x, hx, _, _⟩ := get_drop (l := a) (k := k) (by omega)
      obtain ⟨y, hy, _, _⟩ := get_drop (l := b) (k := k) (by omega)
      have hw := widC_get a b k x y hx hy
      have hidx : (cC (mixL (widC a b) a k))[0 + (k : Int).toNat]? = some (colC x) := by
        rw [Nat.zero_add, Int.toNat_natCast]; exact cC_at (mixL_get _ _ _ _ (widC_length a b) hx)
      have ew := wrapI ((k : Int) + 1) (by omega) (by omega)
      have fin : ∀ q : Bool, (x.nul || y.nul) = q → [AObj.arr 3 (setEs (cC (mixL (widC a b) a k)) (0 + (k : Int).toNat) (colC ⟨x.name, x.kind, q⟩))] = [AObj.arr 3 (cC (mixL (widC a b) a (k + 1)))] := by
        intro q hq; subst hq
        rw [Nat.zero_add, Int.toNat_natCast, setEs_cC, mixL_set _ _ _ _ (widC_length a b) hw]
      (conv => whnf); refine And.intro (by omega) ?_
      (conv => whnf); refine recO (cC_at hx) ?_
      (conv => whnf); refine recA (fun g => ?_) (fun g => ?_)
      · (conv => whnf); refine recT (by rw [hlen]; exact Nat.beq_refl _) ?_
        (conv => whnf); refine And.intro ⟨by omega, by omega⟩ ?_
        (conv => whnf); refine recT (by rw [hlen]; exact Nat.beq_refl _) ?_
        conv => whnf
        refine recO hidx ?_
        conv => whnf
        refine ⟨m - 1, by omega, Gp.keep rfl ?_ fun ρ1 h => ⟨k + 1, by omega, ?_, h⟩⟩
        · exact ⟨rfl, rfl, rfl, rfl, intEq ew, trivial⟩
        · rw [← fin true (by rw [g]; rfl)]; rfl
      · (conv => whnf); refine And.intro (by omega) ?_
        (conv => whnf); refine recO (cC_at hy) ?_
        (conv => whnf); refine recT (by rw [hlen]; exact Nat.beq_refl _) ?_
        (conv => whnf); refine And.intro ⟨by omega, by omega⟩ ?_
        (conv => whnf); refine recT (by rw [hlen]; exact Nat.beq_refl _) ?_
        conv => whnf
        refine recO hidx ?_
        conv => whnf
        refine ⟨m - 1, by omega, Gp.keep rfl ?_ fun ρ1 h => ⟨k + 1, by omega, ?_, h⟩⟩
        · exact ⟨rfl, rfl, rfl, rfl, intEq ew, trivial⟩
        · rw [← fin y.nul (by rw [g]; rfl)]; rfl
    · replace hlt : decide ((k : Int) < ((min a.length b.length : Nat) : Int)) = false := hlt
      simp at hlt
      conv => whnf
      refine ⟨rfl, ?_⟩
      rw [mixL_end a b k (by omega)]
theorem Widen_spec {P : Program} (F : F_schema_Widen P) (e1 e2 : Bool) (a b : List Col) (hl : a.length ≤ 1000000) (hl2 : b.length ≤ 1000000) (H : List AObj) :
    ACalls P F.id [.list e1 3 (cC a), .list e2 3 (cC b)] H (fun r H' => r = .list false 3 (cC (widC a b)) ∧ H' = H) :=
  ACalls.frz1 (by simp [AVal.closed, AVal.isPure]) (Widen_raw F e1 e2 a b hl hl2) (by rw [cC_length, widC_length]) (pureEs_cC _)

set_option maxRecDepth 20000 in
theorem ref5_Widen_raw {P : Program} (F : F_warehouseref5_Widen P) (e1 e2 : Bool) (a b : List Col) (hl : a.length ≤ 1000000) (hl2 : b.length ≤ 1000000) :
    ACalls P F.id [.list e1 3 (cC a), .list e2 3 (cC b)] [] (fun r H' => r = .sl 0 a.length 0 a.length ∧ H' = [.arr 3 (cC (widC a b))]) := by
  refine acalls_of_body F.has ?_
  conv => whnf
  refine And.intro ⟨roomMul (by simp [cC_length]; omega) (by omega), roomB_le (by simp [cC_length]; omega)⟩ ?_
  conv => whnf
  refine ⟨fun m ρ H => ∃ k : Nat, k + m = min a.length b.length ∧ H = [.arr 3 (cC (mixL (widC a b) a k))] ∧ Sv 38 [(1, .list e2 3 (cC b)), (5, .sl 0 a.length 0 a.length), (6, .int .i64 k)] ρ, min a.length b.length, [], ?_, ?_⟩
  · refine ⟨0, by omega, ?_, Sv.intro rfl ⟨rfl, slEq (cC_length a) (cC_length a), rfl, trivial⟩⟩
    have h0 : mixL (widC a b) a 0 = a := by rw [mixL, List.take_zero, List.drop_zero, List.nil_append]
    rw [h0]
  rintro m ρ H ⟨k, hk, rfl, d, rfl⟩
  have hlen : (cC (mixL (widC a b) a k)).length = a.length := by rw [cC_length, mixL_length _ _ _ (widC_length a b)]
  (conv => whnf); refine recT (by rw [hlen]; exact Nat.beq_refl _) ?_
  (conv => whnf); refine recA (fun hlt => ?_) (fun hlt => ?_)
  · replace hlt : decide ((k : Int) < (a.length : Int)) = true := hlt
    simp at hlt
    (conv => whnf); refine recA (fun hlt2 => ?_) (fun hlt2 => ?_)
    · replace hlt2 : decide ((k : Int) < ((cC b).length : Int)) = true := hlt2
      simp [cC_length] at hlt2
      obtain ⟨x, hx, _, _⟩ := get_drop (l := a) (k := k) (by omega)
      obtain ⟨y, hy, _, _⟩ := get_drop (l := b) (k := k) (by omega)
      have hw := widC_get a b k x y hx hy
      have hidx : (cC (mixL (widC a b) a k))[0 + (k : Int).toNat]? = some (colC x) := by
        rw [Nat.zero_add, Int.toNat_natCast]; exact cC_at (mixL_get _ _ _ _ (widC_length a b) hx)
      have ew := wrapI ((k : Int) + 1) (by omega) (by omega)
      have fin : ∀ q : Bool, (x.nul || y.nul) = q → [AObj.arr 3 (setEs (cC (mixL (widC a b) a k)) (0 + (k : Int).toNat) (colC ⟨x.name, x.kind, q⟩))] = [AObj.arr 3 (cC (mixL (widC a b) a (k + 1)))] := by
        intro q hq; subst hq
        rw [Nat.zero_add, Int.toNat_natCast, setEs_cC, mixL_set _ _ _ _ (widC_length a b) hw]
      (conv => whnf); refine recT (by rw [hlen]; exact Nat.beq_refl _) ?_
      (conv => whnf); refine And.intro ⟨by omega, by omega⟩ ?_
      (conv => whnf); refine recT (by rw [hlen]; exact Nat.beq_refl _) ?_
      conv => whnf
      refine recO hidx ?_
      (conv => whnf); refine recA (fun g => ?_) (fun g => ?_)
      · (conv => whnf); refine recT (by rw [hlen]; exact Nat.beq_refl _) ?_
        (conv => whnf); refine And.intro ⟨by omega, by omega⟩ ?_
        (conv => whnf); refine recT (by rw [hlen]; exact Nat.beq_refl _) ?_
        conv => whnf
        refine recO hidx ?_
        conv => whnf
        refine ⟨m - 1, by omega, Gp.keep rfl ?_ fun ρ1 h => ⟨k + 1, by omega, ?_, h⟩⟩
        · exact ⟨rfl, rfl, intEq ew, trivial⟩
        · rw [← fin true (by rw [g]; rfl)]; rfl
      · (conv => whnf); refine And.intro (by omega) ?_
        (conv => whnf); refine recO (cC_at hy) ?_
        (conv => whnf); refine recT (by rw [hlen]; exact Nat.beq_refl _) ?_
        (conv => whnf); refine And.intro ⟨by omega, by omega⟩ ?_
        (conv => whnf); refine recT (by rw [hlen]; exact Nat.beq_refl _) ?_
        conv => whnf
        refine recO hidx ?_
        conv => whnf
        refine ⟨m - 1, by omega, Gp.keep rfl ?_ fun ρ1 h => ⟨k + 1, by omega, ?_, h⟩⟩
        · exact ⟨rfl, rfl, intEq ew, trivial⟩
        · rw [← fin y.nul (by rw [g]; rfl)]; rfl
    · replace hlt2 : decide ((k : Int) < ((cC b).length : Int)) = false := hlt2
      simp [cC_length] at hlt2
      conv => whnf
      refine ⟨rfl, ?_⟩
      rw [mixL_end a b k (by omega)]
  · replace hlt : decide ((k : Int) < (a.length : Int)) = false := hlt
    simp at hlt
    conv => whnf
    refine ⟨rfl, ?_⟩
    rw [mixL_end a b k (by omega)]
theorem ref5_Widen_spec {P : Program} (F : F_warehouseref5_Widen P) (e1 e2 : Bool) (a b : List Col) (hl : a.length ≤ 1000000) (hl2 : b.length ≤ 1000000) (H : List AObj) :
    ACalls P F.id [.list e1 3 (cC a), .list e2 3 (cC b)] H (fun r H' => r = .list false 3 (cC (widC a b)) ∧ H' = H) :=
  ACalls.frz1 (by simp [AVal.closed, AVal.isPure]) (ref5_Widen_raw F e1 e2 a b hl hl2) (by rw [cC_length, widC_length]) (pureEs_cC _)

set_option maxRecDepth 20000 in
theorem law_SchemaWidens {P : Program} (F : F_warehouselaw5_SchemaWidens P) (a b : List Col) (l m : List Int) (n : Int) :
    ACalls P F.id [.list false 3 (cC a), .list false 3 (cC b), .list false 1 (iC l), .list false 1 (iC m), .int .i64 n] [] (fun r _ => r = .bool true) := by
  have e3 := and_3 n
  have e3b := and_3 (shrI n 2)
  have fin : ∀ H, ACalls P F.warehouselaw5_known.id [] H (fun r H' => r = .bool true ∧ H' = H) := known5_spec F.warehouselaw5_known
  refine acalls_of_body F.has ?_
  (conv => whnf); refine recA (fun h0 => ?_) (fun h0 => ?_)
  · conv => whnf
    refine ACalls.use (fin _) ?_
    conv => whnf
  simp [cC_length] at h0
  (conv => whnf); refine recA (fun h1 => ?_) (fun h1 => ?_)
  · conv => whnf
    refine ACalls.use (fin _) ?_
    conv => whnf
  simp [cC_length] at h1
  conv => whnf
  refine ACalls.use (Columns_spec F.warehousebase_Columns false l (and64 n 3) (by omega) _) ?_
  (conv => whnf); refine And.intro (by decide) ?_
  conv => whnf
  refine ACalls.use (Columns_spec F.warehousebase_Columns false m (and64 (shrI n 2) 3) (by omega) _) ?_
  conv => whnf
  have hx : (colsK l (and64 n 3).toNat).length ≤ 1000 := by rw [colsK_length]; omega
  have hy : (colsK m (and64 (shrI n 2) 3).toNat).length ≤ 1000 := by rw [colsK_length]; omega
  refine ACalls.use (Widen_spec F.schema_Widen false false (colsK l (and64 n 3).toNat) (colsK m (and64 (shrI n 2) 3).toNat) (by omega) (by omega) _) ?_
  (conv => whnf); refine ACalls.use (schema_Same_spec F.schema_Same false false (colsK l (and64 n 3).toNat) _ (by omega) _) ?_
  rw [widC_same]
  (conv => whnf); refine recF (by simp [cC_length, widC_length]) ?_
  conv => whnf
  refine ⟨fun q ρ H => ∃ k : Nat, k + q = (colsK l (and64 n 3).toNat).length ∧ H = [] ∧
    Sv 106 [(0, .list false 3 (cC a)), (1, .list false 3 (cC b)), (11, .list false 3 (cC (colsK l (and64 n 3).toNat))), (12, .list false 3 (cC (colsK m (and64 (shrI n 2) 3).toNat))),
      (13, .list false 3 (cC (widC (colsK l (and64 n 3).toNat) (colsK m (and64 (shrI n 2) 3).toNat)))), (14, .int .i64 k)] ρ, (colsK l (and64 n 3).toNat).length, [], ?_, ?_⟩
  · exact ⟨0, by omega, rfl, Sv.intro rfl ⟨rfl, rfl, rfl, rfl, rfl, rfl, trivial⟩⟩
  rintro q ρ H ⟨k, hk, rfl, d, rfl⟩
  (conv => whnf); refine recA (fun hlt => ?_) (fun hlt => ?_)
  · simp [cC_length, widC_length] at hlt
    obtain ⟨x, hxx, _, _⟩ := get_drop hlt
    obtain ⟨w, hww, _, _⟩ := get_drop (l := widC (colsK l (and64 n 3).toNat) (colsK m (and64 (shrI n 2) 3).toNat)) (k := k) (by rw [widC_length]; omega)
    have hn := widC_nul _ _ _ _ _ hxx hww
    have ew := wrapI ((k : Int) + 1) (by omega) (by omega)
    (conv => whnf); refine And.intro (by omega) ?_
    (conv => whnf); refine recO (cC_at hxx) ?_
    (conv => whnf); refine recA (fun g => ?_) (fun g => ?_)
    · (conv => whnf); refine And.intro (by omega) ?_
      (conv => whnf); refine recO (cC_at hww) ?_
      (conv => whnf); refine recF (by rw [hn g]; rfl) ?_
      conv => whnf
      refine ⟨q - 1, by omega, Gp.keep rfl ?_ fun ρ1 h => ⟨k + 1, by omega, rfl, h⟩⟩
      exact ⟨rfl, rfl, rfl, rfl, rfl, intEq ew, trivial⟩
    · conv => whnf
      refine ⟨q - 1, by omega, Gp.keep rfl ?_ fun ρ1 h => ⟨k + 1, by omega, rfl, h⟩⟩
      exact ⟨rfl, rfl, rfl, rfl, rfl, intEq ew, trivial⟩
  · conv => whnf
    refine ACalls.use (schema_Same_spec F.schema_Same false false a b (by omega) _) ?_
    (conv => whnf); refine ACalls.use (ref5_Same_spec F.warehouseref5_Same false false a b (by omega) _) ?_
    (conv => whnf); refine recT (by simp) ?_
    (conv => whnf); refine ACalls.use (schema_Same_spec F.schema_Same false false (colsK l (and64 n 3).toNat) (colsK m (and64 (shrI n 2) 3).toNat) (by omega) _) ?_
    (conv => whnf); refine ACalls.use (ref5_Same_spec F.warehouseref5_Same false false (colsK l (and64 n 3).toNat) (colsK m (and64 (shrI n 2) 3).toNat) (by omega) _) ?_
    (conv => whnf); refine recT (by simp) ?_
    (conv => whnf); refine ACalls.use (schema_Same_spec F.schema_Same false false a a (by omega) _) ?_
    rw [samB_refl]
    (conv => whnf); refine ACalls.use (Widen_spec F.schema_Widen false false a b (by omega) (by omega) _) ?_
    (conv => whnf); refine ACalls.use (ref5_Widen_spec F.warehouseref5_Widen false false a b (by omega) (by omega) _) ?_
    (conv => whnf); refine ACalls.use (ref5_Equal_refl F.warehouseref5_Equal false false _ (by rw [widC_length]; omega) _) ?_
    (conv => whnf); refine ACalls.use (ref5_Widen_spec F.warehouseref5_Widen false false (colsK l (and64 n 3).toNat) (colsK m (and64 (shrI n 2) 3).toNat) (by omega) (by omega) _) ?_
    (conv => whnf); refine ACalls.use (ref5_Equal_refl F.warehouseref5_Equal false false _ (by rw [widC_length]; omega) _) ?_
    (conv => whnf); refine ACalls.use (fin _) ?_
    conv => whnf
end Go.AW
