/-
  Names: which strings are names.
  No condition: contracts over any program that has this code.
-/
import Derived.Test.YtikifhfpiahnoaaWhLaw1
namespace Go.AW
attribute [local irreducible] ACalls

def letterB (b : UInt8) : Bool := decide (97 ≤ b.toNat ∧ b.toNat ≤ 122)
def restB (b : UInt8) : Bool := decide (97 ≤ b.toNat ∧ b.toNat ≤ 122 ∨ 48 ≤ b.toNat ∧ b.toNat ≤ 57 ∨ b.toNat = 95)

def nameL : List UInt8 → Bool
  | [] => false
  | b :: r => letterB b && r.all restB
def nameB (s : ByteArray) : Bool := decide (s.size ≤ 24) && nameL s.data.toList

theorem get!_of {s : ByteArray} {p : Nat} {b : UInt8} (h : s.data.toList[p]? = some b) : s.get! p = b := by
  obtain ⟨⟨l⟩⟩ := s
  simp at h
  simp [ByteArray.get!, h]

theorem decode_ascii {s : ByteArray} {p : Nat} {b : UInt8} (h : s.data.toList[p]? = some b) (hb : b.toNat < 128) : Utf8.decode s p = (b.toNat, 1) := by
  unfold Utf8.decode
  simp only [Nat.add_zero, get!_of h]
  rw [if_pos hb]

theorem decode_big {s : ByteArray} {p : Nat} {b : UInt8} (h : s.data.toList[p]? = some b) (hb : ¬ b.toNat < 128) : 128 ≤ (Utf8.decode s p).1 := by
  unfold Utf8.decode
  simp only [Nat.add_zero, get!_of h]
  rw [if_neg hb]
  (repeat' split) <;> simp only [Utf8.runeError, Bool.and_eq_true, decide_eq_true_eq] at * <;> omega

theorem str_get {s : ByteArray} {p : Nat} (h : p < s.size) : ∃ b, s.data.toList[p]? = some b ∧ s.data.toList.drop p = b :: s.data.toList.drop (p + 1) := by
  have hl : p < s.data.toList.length := by simpa using h
  exact ⟨_, List.getElem?_eq_getElem hl, List.drop_eq_getElem_cons hl⟩

set_option maxRecDepth 20000 in
theorem schema_IsName_spec {P : Program} (F : F_schema_IsName P) (s : ByteArray) (H : List AObj) :
    ACalls P F.id [.str s] H (fun r H' => r = .bool (nameB s) ∧ H' = H) := by
  refine ACalls.pure rfl (acalls_of_body F.has ?_)
  (conv => whnf); refine recA (fun h0 => ?_) (fun h0 => ?_)
  · simp at h0
    conv => whnf
    exact pubB (by simp [nameB]; omega)
  simp at h0
  conv => whnf
  refine ⟨fun m ρ H => ∃ p : Nat, p + m = s.size ∧ (0 < p → nameB s = (s.data.toList.drop p).all restB) ∧ H = [.iter s p] ∧ Sv 41 [(0, .str s), (10, .it 0)] ρ, s.size, [], ?_, ?_⟩
  · exact ⟨0, by omega, by omega, rfl, Sv.intro rfl ⟨rfl, rfl, trivial⟩⟩
  rintro m ρ H ⟨p, hp, hr, rfl, d, rfl⟩
  (conv => whnf); refine recA (fun hlt => ?_) (fun hlt => ?_)
  · simp at hlt
    obtain ⟨b, hb, hd⟩ := str_get hlt
    -- what the rest says
    have h0n : p = 0 → nameB s = (letterB b && (s.data.toList.drop (p + 1)).all restB) := by
      rintro rfl
      rw [List.drop_zero] at hd
      have : nameL s.data.toList = (letterB b && (s.data.toList.drop (0 + 1)).all restB) := by
        conv => lhs; rw [hd]
        rfl
      rw [nameB, this, decide_eq_true (by omega), Bool.true_and]
    have hno : (if p = 0 then letterB b else restB b) = false → nameB s = false := by
      intro h
      by_cases h1 : p = 0
      · rw [if_pos h1] at h
        rw [h0n h1, h]; rfl
      · rw [if_neg h1] at h
        rw [hr (by omega), hd, List.all_cons, h]; rfl
    have hyes : (if p = 0 then letterB b else restB b) = true → nameB s = (s.data.toList.drop (p + 1)).all restB := by
      intro h
      by_cases h1 : p = 0
      · rw [if_pos h1] at h
        rw [h0n h1, h]; rfl
      · rw [if_neg h1] at h
        rw [hr (by omega), hd, List.all_cons, h]; rfl
    by_cases hb1 : b.toNat < 128
    · have hdec := decode_ascii hb hb1
      have e1 : ((Utf8.decode s p).1 : Int) = b.toNat := by rw [hdec]
      have e2 : p + (Utf8.decode s p).2 = p + 1 := by rw [hdec]
      repeat' ((conv => whnf); refine recA (fun h => ?_) (fun h => ?_))
      all_goals conv => whnf
      all_goals first
        | refine ⟨m - 1, by omega, Gp.keep rfl ?_ fun ρ1 h => ⟨p + 1, by omega, fun _ => hyes ?_, by rw [e2], h⟩⟩
        | refine pubB (hno ?_).symm
      all_goals first
        | exact ⟨rfl, rfl, trivial⟩
        | skip
      all_goals
        (simp only [e1] at *)
        clear hno hyes h0n hr hd
        by_cases hp0 : p = 0 <;> simp [letterB, restB, hp0] at * <;> omega
    · have hdec := decode_big hb hb1
      have hn1 : letterB b = false := by simp [letterB]; omega
      have hn2 : restB b = false := by simp [restB]; omega
      have hz : nameB s = false := hno (by split; exact hn1; exact hn2)
      repeat' ((conv => whnf); refine recA (fun h => ?_) (fun h => ?_))
      all_goals conv => whnf
      all_goals first
        | exact pubB hz.symm
        | (exfalso; simp at *; omega)
  · have hlt2 : ¬ p < s.size := of_decide_eq_false hlt
    have hl0 : s.data.toList.length = s.size := by simp
    conv => whnf
    refine pubB ?_
    show (!(s.data.toList == [])) = _
    by_cases h1 : p = 0
    · have : s.data.toList = [] := List.eq_nil_of_length_eq_zero (by omega)
      simp [nameB, this, nameL]
    · rw [hr (by omega), List.drop_eq_nil_of_le (by omega)]
      cases hs : s.data.toList with
      | nil => rw [hs] at hl0; simp at hl0; omega
      | cons b r => rfl

theorem str_at {s : ByteArray} {p : Nat} {b : UInt8} {q : Nat} (h : s.data.toList[p]? = some b) (hq : q = p) : s.data.toList[q]? = some b := by subst hq; exact h

set_option maxRecDepth 20000 in
theorem ref5_IsName_spec {P : Program} (F : F_warehouseref5_IsName P) (s : ByteArray) (H : List AObj) :
    ACalls P F.id [.str s] H (fun r H' => r = .bool (nameB s) ∧ H' = H) := by
  refine ACalls.pure rfl (acalls_of_body F.has ?_)
  have hl0 : s.data.toList.length = s.size := by simp
  (conv => whnf); refine recA (fun h0 => ?_) (fun h0 => ?_)
  · have h0 := of_decide_eq_true h0
    conv => whnf
    have : s.data.toList = [] := List.eq_nil_of_length_eq_zero (by omega)
    exact pubB (by simp [nameB, this, nameL])
  have h0 := of_decide_eq_false h0
  (conv => whnf); refine recA (fun h1 => ?_) (fun h1 => ?_)
  · have h1 := of_decide_eq_true h1
    conv => whnf
    exact pubB (by rw [nameB, decide_eq_false (by omega)]; rfl)
  have h1 := of_decide_eq_false h1
  obtain ⟨a, ha, hd0⟩ := str_get (show 0 < s.size by omega)
  have hn : nameB s = (letterB a && (s.data.toList.drop 1).all restB) := by
    rw [List.drop_zero] at hd0
    have : nameL s.data.toList = (letterB a && (s.data.toList.drop (0 + 1)).all restB) := by
      conv => lhs; rw [hd0]
      rfl
    rw [nameB, this, decide_eq_true (by omega), Bool.true_and]
  conv => whnf
  refine And.intro (by decide) ?_
  (conv => whnf); refine recO ha ?_
  (conv => whnf); refine recA (fun h2 => ?_) (fun h2 => ?_)
  · have h2 := of_decide_eq_true h2
    conv => whnf
    exact pubB (by rw [hn]; simp [letterB]; omega)
  have h2 := of_decide_eq_false h2
  conv => whnf
  refine And.intro (by decide) ?_
  (conv => whnf); refine recO ha ?_
  (conv => whnf); refine recA (fun h3 => ?_) (fun h3 => ?_)
  · have h3 := of_decide_eq_true h3
    conv => whnf
    exact pubB (by rw [hn]; simp [letterB]; omega)
  have h3 := of_decide_eq_false h3
  have hla : letterB a = true := by simp [letterB]; omega
  have hra : restB a = true := by simp [restB]; omega
  have hn2 : nameB s = s.data.toList.all restB := by
    rw [hn, hla, Bool.true_and]
    rw [List.drop_zero] at hd0
    conv => rhs; rw [hd0, List.all_cons, hra, Bool.true_and]
  conv => whnf
  refine ⟨fun m ρ H => ∃ k : Nat, k + m = s.size ∧ nameB s = (s.data.toList.drop k).all restB ∧ H = [] ∧ Sv 58 [(0, .str s), (3, .int .i64 k)] ρ, s.size, [], ?_, ?_⟩
  · exact ⟨0, by omega, hn2, rfl, Sv.intro rfl ⟨rfl, rfl, trivial⟩⟩
  rintro m ρ H ⟨k, hk, hr, rfl, d, rfl⟩
  (conv => whnf); refine recA (fun hlt => ?_) (fun hlt => ?_)
  · simp at hlt
    obtain ⟨b, hb, hd⟩ := str_get hlt
    rw [hd, List.all_cons] at hr
    repeat' ((conv => whnf); first | refine And.intro (by omega) ?_ | refine recO (str_at hb (by rfl)) ?_ | refine recA (fun h => ?_) (fun h => ?_))
    all_goals conv => whnf
    all_goals first
      | refine ⟨m - 1, by omega, Gp.keep rfl ?_ fun ρ1 h => ⟨k + 1, by omega, ?_, rfl, h⟩⟩
      | refine pubB ?_
    all_goals first
      | exact ⟨rfl, intEq (wrapI ((k : Int) + 1) (by omega) (by omega)), trivial⟩
      | skip
    all_goals
      rw [hr]
      have hx : restB b = true ∨ restB b = false := by cases restB b <;> simp
      rcases hx with hx | hx <;> rw [hx] <;> (first | rfl | (exfalso; simp [restB] at *; omega))
  · have hlt2 : ¬ (k : Int) < s.size := of_decide_eq_false hlt
    conv => whnf
    rw [List.drop_eq_nil_of_le (by omega)] at hr
    exact pubB hr.symm
end Go.AW
