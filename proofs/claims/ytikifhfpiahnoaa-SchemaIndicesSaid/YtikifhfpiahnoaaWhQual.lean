/-
  Qualified names.
  No condition: contracts over any program that has this code.
-/
import Derived.Test.YtikifhfpiahnoaaWhName
namespace Go.AW
attribute [local irreducible] ACalls
open Go.Lib (indexByte)

theorem ib_at : ∀ {l : List UInt8} {c : UInt8} {i : Nat}, l[i]? = some c → (∀ j, j < i → l[j]? ≠ some c) → indexByte l c = i
  | [], _, _, h, _ => by simp at h
  | b :: l, c, 0, h, _ => by simp at h; subst h; simp [indexByte]
  | b :: l, c, i + 1, h, hb => by
    have h0 := hb 0 (by omega)
    simp at h0
    have := ib_at (l := l) (i := i) (by simpa using h) fun j hj => by have := hb (j + 1) (by omega); simpa using this
    simp only [indexByte, this, beq_iff_eq, h0, if_false]
    rw [if_neg (by omega)]
    rfl
theorem ib_none : ∀ {l : List UInt8} {c : UInt8}, (∀ j : Nat, l[j]? ≠ some c) → indexByte l c = -1
  | [], _, _ => rfl
  | b :: l, c, h => by
    have h0 := h 0
    simp at h0
    have := ib_none (l := l) fun j => by have := h (j + 1); simpa using this
    simp [indexByte, this, h0]
theorem ib_cases : ∀ (l : List UInt8) (c : UInt8), indexByte l c = -1 ∨ ∃ i : Nat, indexByte l c = i ∧ i < l.length
  | [], _ => .inl rfl
  | b :: l, c => by
    simp only [indexByte]
    split
    · exact .inr ⟨0, rfl, by simp⟩
    · rcases ib_cases l c with h | ⟨i, h, hl⟩
      · rw [if_pos (by simp [h])]; exact .inl rfl
      · rw [if_neg (by simp [h]), h]; exact .inr ⟨i + 1, by omega, by simpa using hl⟩

def dotAt (s : ByteArray) : Int := indexByte s.data.toList 46
def qualB (s : ByteArray) : Bool :=
  if 0 ≤ dotAt s then nameB (s.extract 0 (dotAt s).toNat) && nameB (s.extract (dotAt s + 1).toNat s.size) else nameB s

set_option maxRecDepth 20000 in
theorem ref5_IsQualified_spec {P : Program} (F : F_warehouseref5_IsQualified P) (s : ByteArray) (hs : s.size ≤ 1000000) (H : List AObj) :
    ACalls P F.id [.str s] H (fun r H' => r = .bool (qualB s) ∧ H' = H) := by
  refine ACalls.pure rfl (acalls_of_body F.has ?_)
  conv => whnf
  refine ⟨fun m ρ H => ∃ k : Nat, k + m = s.size ∧ (∀ j, j < k → s.data.toList[j]? ≠ some 46) ∧ H = [] ∧ Sv 27 [(0, .str s), (3, .int .i64 k)] ρ, s.size, [], ?_, ?_⟩
  · exact ⟨0, by omega, by omega, rfl, Sv.intro rfl ⟨rfl, rfl, trivial⟩⟩
  rintro m ρ H ⟨k, hk, hr, rfl, d, rfl⟩
  (conv => whnf); refine recA (fun hlt => ?_) (fun hlt => ?_)
  · simp at hlt
    obtain ⟨b, hb, hd⟩ := str_get hlt
    conv => whnf
    refine And.intro (by omega) ?_
    (conv => whnf); refine recO (str_at hb (by rfl)) ?_
    (conv => whnf); refine recA (fun h => ?_) (fun hne => ?_)
    · have hbe : b = 46 := by
        have h : (b.toNat : Int) = 46 := by simpa using h
        apply UInt8.toNat_inj.1
        show b.toNat = 46
        omega
      subst hbe
      have hdot : dotAt s = k := ib_at hb hr
      have e1 : IntKind.i64.wrap ((k : Int) + 1) = k + 1 := wrapI _ (by omega) (by omega)
      conv => whnf
      refine And.intro (by omega) ?_
      (conv => whnf); refine ACalls.use (ref5_IsName_spec F.warehouseref5_IsName _ _) ?_
      (conv => whnf); refine recA (fun h1 => ?_) (fun h1 => ?_)
      · conv => whnf
        refine And.intro (by rw [e1]; omega) ?_
        (conv => whnf); refine ACalls.use (ref5_IsName_spec F.warehouseref5_IsName _ _) ?_
        conv => whnf
        refine pubB ?_
        replace h1 : nameB (s.extract 0 (k : Int).toNat) = true := h1
        rw [qualB, hdot, if_pos (by omega), h1, Bool.true_and]
        show nameB (s.extract (IntKind.i64.wrap ((k : Int) + 1)).toNat s.size) = _
        rw [e1]
      · conv => whnf
        refine pubB ?_
        replace h1 : nameB (s.extract 0 (k : Int).toNat) = false := h1
        rw [qualB, hdot, if_pos (by omega), h1]; rfl
    · conv => whnf
      refine ⟨m - 1, by omega, Gp.keep rfl ?_ fun ρ1 h => ⟨k + 1, by omega, fun j hj => ?_, rfl, h⟩⟩
      · exact ⟨rfl, intEq (wrapI ((k : Int) + 1) (by omega) (by omega)), trivial⟩
      · rcases Nat.lt_succ_iff_lt_or_eq.1 hj with h1 | rfl
        · exact hr j h1
        · rw [hb]
          intro h2
          cases h2
          exact absurd hne (by decide)
  · have hlt2 : ¬ (k : Int) < s.size := of_decide_eq_false hlt
    conv => whnf
    refine ACalls.use (ref5_IsName_spec F.warehouseref5_IsName _ _) ?_
    conv => whnf
    refine pubB ?_
    have : dotAt s = -1 := ib_none fun j => by
      by_cases hj : j < k
      · exact hr j hj
      · rw [List.getElem?_eq_none (by simp; omega)]; simp
    rw [qualB, this, if_neg (by omega)]

theorem sliteIndexByte_spec {P : Program} (F : F_stringslite_IndexByte P) (s : ByteArray) (c : Int) (H : List AObj) :
    ACalls P F.id [.str s, .int .u8 c] H (fun r H' => r = .int .i64 (indexByte s.data.toList c.toNat.toUInt8) ∧ H' = H) := by
  refine ACalls.pure rfl (acalls_of_body F.has ?_)
  conv => whnf
  refine ACalls.use (indexByteString_spec F.bytealg_IndexByteString.has s c _) ?_
  conv => whnf
  exact .closed _ rfl

set_option maxRecDepth 20000 in
theorem sliteIndex_spec {P : Program} (F : F_stringslite_Index P) (s : ByteArray) (H : List AObj) :
    ACalls P F.id [.str s, .str (bs [46])] H (fun r H' => r = .int .i64 (dotAt s) ∧ H' = H) := by
  refine ACalls.pure rfl (acalls_of_body F.has ?_)
  (conv => whnf); refine recA (fun h => ?_) (fun h => ?_)
  · conv => whnf
    refine pubI ?_
    have h : (bs [46]).data.toList = s.data.toList := by simpa using h
    rw [dotAt, ← h]; rfl
  · conv => whnf
    refine And.intro (by decide) ?_
    conv => whnf
    refine ACalls.use (sliteIndexByte_spec F.stringslite_IndexByte s _ _) ?_
    conv => whnf
    exact pubI rfl

/-- What Cut returns. -/
def cutR (s : ByteArray) : AVal :=
  if 0 ≤ dotAt s then .tuple [.str (s.extract 0 (dotAt s).toNat), .str (s.extract (dotAt s + 1).toNat s.size), .bool true] else .tuple [.str s, .str (bs []), .bool false]

theorem pub3 {H1 : List AObj} {n : Nat} {ids : List Nat} {a b c r s t : AVal} (h1 : Pub H1 n ids a r) (h2 : Pub H1 n ids b s) (h3 : Pub H1 n ids c t) : Pub H1 n ids (.tuple [a, b, c]) (.tuple [r, s, t]) := by
  refine .tuple _ _ rfl fun i v u h4 h5 => ?_
  rcases i with _ | _ | _ | i
  · cases h4; cases h5; exact h1
  · cases h4; cases h5; exact h2
  · cases h4; cases h5; exact h3
  · simp at h4

set_option maxRecDepth 20000 in
theorem sliteCut_spec {P : Program} (F : F_stringslite_Cut P) (s : ByteArray) (hs : s.size ≤ 1000000) (H : List AObj) :
    ACalls P F.id [.str s, .str (bs [46])] H (fun r H' => r = cutR s ∧ H' = H) := by
  refine ACalls.pure rfl (acalls_of_body F.has ?_)
  conv => whnf
  refine ACalls.use (sliteIndex_spec F.stringslite_Index s _) ?_
  have hl0 : s.data.toList.length = s.size := by simp
  have hc := ib_cases s.data.toList 46
  (conv => whnf); refine recA (fun h => ?_) (fun h => ?_)
  · have h : 0 ≤ dotAt s := of_decide_eq_true h
    have hlt : dotAt s < s.size := by
      rcases hc with h1 | ⟨i, h1, h2⟩
      · have : dotAt s = -1 := h1
        omega
      · have : dotAt s = i := h1
        omega
    have e1 : IntKind.i64.wrap (dotAt s + ((bs [46]).size : Nat)) = dotAt s + 1 := wrapI _ (by show -9223372036854775808 ≤ dotAt s + 1; omega) (by show dotAt s + 1 ≤ _; omega)
    conv => whnf
    refine And.intro (by omega) ?_
    conv => whnf
    refine And.intro (by rw [e1]; omega) ?_
    conv => whnf
    rw [cutR, if_pos h]
    refine pub3 (.closed _ rfl) (pubEq ?_ rfl) (.closed _ rfl)
    rw [e1]
  · have h : ¬ 0 ≤ dotAt s := of_decide_eq_false h
    conv => whnf
    rw [cutR, if_neg h]
    exact pub3 (.closed _ rfl) (.closed _ rfl) (.closed _ rfl)

set_option maxRecDepth 20000 in
theorem stringsCut_spec {P : Program} (F : F_strings_Cut P) (s : ByteArray) (hs : s.size ≤ 1000000) (H : List AObj) :
    ACalls P F.id [.str s, .str (bs [46])] H (fun r H' => r = cutR s ∧ H' = H) := by
  refine ACalls.pure rfl (acalls_of_body F.has ?_)
  conv => whnf
  refine ACalls.use (sliteCut_spec F.stringslite_Cut s hs _) ?_
  unfold cutR
  split
  all_goals
    conv => whnf
    exact pub3 (.closed _ rfl) (.closed _ rfl) (.closed _ rfl)

set_option maxRecDepth 20000 in
theorem schema_IsQualified_spec {P : Program} (F : F_schema_IsQualified P) (s : ByteArray) (hs : s.size ≤ 1000000) (H : List AObj) :
    ACalls P F.id [.str s] H (fun r H' => r = .bool (qualB s) ∧ H' = H) := by
  refine ACalls.pure rfl (acalls_of_body F.has ?_)
  conv => whnf
  refine ACalls.use (stringsCut_spec F.strings_Cut s hs _) ?_
  unfold cutR
  split
  · rename_i h
    conv => whnf
    refine ACalls.use (schema_IsName_spec F.schema_IsName _ _) ?_
    (conv => whnf); refine recA (fun h1 => ?_) (fun h1 => ?_)
    · conv => whnf
      refine ACalls.use (schema_IsName_spec F.schema_IsName _ _) ?_
      conv => whnf
      exact pubB (by rw [qualB, if_pos h, h1, Bool.true_and])
    · conv => whnf
      exact pubB (by rw [qualB, if_pos h, h1]; rfl)
  · rename_i h
    conv => whnf
    refine ACalls.use (schema_IsName_spec F.schema_IsName _ _) ?_
    (conv => whnf); refine recA (fun h1 => ?_) (fun h1 => ?_)
    · conv => whnf
      exact pubB (by rw [qualB, if_neg h, h1])
    · conv => whnf
      exact pubB (by rw [qualB, if_neg h, h1])
end Go.AW
