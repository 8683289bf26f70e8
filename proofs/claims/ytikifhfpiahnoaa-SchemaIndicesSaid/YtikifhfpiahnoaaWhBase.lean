/-
  The builders of small inputs: numbers out of lists, values.
  No condition: contracts over any program that has this code.
-/
import Derived.Test.YtikifhfpiahnoaaWhEnc
import Derived.Test.YtikifhfpiahnoaaAwExt
namespace Go.AW
attribute [local irreducible] ACalls

def and64 (a b : Int) : Int := IntKind.i64.wrap (BitVec.ofInt IntKind.i64.bits a &&& BitVec.ofInt IntKind.i64.bits b).toNat

theorem and64_mask (a : Int) (k : Nat) (hk : k ≤ 62) : and64 a (2 ^ k - 1) = a % 2 ^ k := by
  have h1 : BitVec.ofInt 64 ((2 : Int) ^ k - 1) = BitVec.ofNat 64 (2 ^ k - 1) := by
    have h2 : 1 ≤ 2 ^ k := Nat.one_le_two_pow
    rw [show ((2 : Int) ^ k - 1) = ((2 ^ k - 1 : Nat) : Int) by rw [Int.ofNat_sub h2]; simp, BitVec.ofInt_natCast]
  have h3 : (2 : Nat) ^ k ≤ 2 ^ 62 := Nat.pow_le_pow_right (by omega) hk
  have h4 : 1 ≤ 2 ^ k := Nat.one_le_two_pow
  show IntKind.i64.wrap ((BitVec.ofInt 64 a &&& BitVec.ofInt 64 (2 ^ k - 1)).toNat : Int) = _
  rw [h1, BitVec.toNat_and, BitVec.toNat_ofNat, Nat.mod_eq_of_lt (a := 2 ^ k - 1) (by omega), Nat.and_two_pow_sub_one_eq_mod, BitVec.toNat_ofInt]
  have h5 : ((a % ((2 ^ 64 : Nat) : Int)).toNat % 2 ^ k : Nat) < 2 ^ k := Nat.mod_lt _ (by omega)
  rw [wrapI _ (by omega) (by omega)]
  have h6 : 0 ≤ a % ((2 ^ 64 : Nat) : Int) := Int.emod_nonneg _ (by omega)
  rw [Int.natCast_emod, Int.toNat_of_nonneg h6]
  simp only [Int.natCast_pow]
  have : ((2 : Nat) : Int) ^ 64 = 2 ^ k * 2 ^ (64 - k) := by rw [← Int.pow_add]; congr 1; omega
  rw [show ((2 : Nat) : Int) ^ 64 = ((2 : Int)) ^ k * 2 ^ (64 - k) from this]
  exact Int.emod_emod_of_dvd a ⟨_, rfl⟩

theorem and_ffff (a : Int) : and64 a 65535 = a % 65536 := and64_mask a 16 (by omega)
theorem and_1 (a : Int) : and64 a 1 = a % 2 := and64_mask a 1 (by omega)
theorem and_3 (a : Int) : and64 a 3 = a % 4 := and64_mask a 2 (by omega)
theorem and_7 (a : Int) : and64 a 7 = a % 8 := and64_mask a 3 (by omega)
theorem and_15 (a : Int) : and64 a 15 = a % 16 := and64_mask a 4 (by omega)
theorem and_31 (a : Int) : and64 a 31 = a % 32 := and64_mask a 5 (by omega)
theorem and_63 (a : Int) : and64 a 63 = a % 64 := and64_mask a 6 (by omega)

/-- Integers as elements. -/
def iC (l : List Int) : List (List AVal) := l.map fun n => [.int .i64 n]
theorem iC_length (l : List Int) : (iC l).length = l.length := List.length_map ..
theorem iC_get {l : List Int} {k : Nat} (h : k < l.length) : (iC l)[k]? = some [.int .i64 (l.getD k 0)] := by
  rw [iC, List.getElem?_map, getElem?_getD h]; rfl

def atV (l : List Int) (i : Int) : Int :=
  if l.length = 0 then and64 i 65535 else IntKind.i64.wrap (and64 (l.getD ((and64 i 65535).tmod l.length).toNat 0) 65535 + IntKind.i64.wrap ((and64 i 65535).tdiv l.length))

set_option maxRecDepth 20000 in
theorem At_spec {P : Program} (F : F_warehousebase_At P) (ex : Bool) (l : List Int) (i : Int) (H : List AObj) :
    ACalls P F.id [.list ex 1 (iC l), .int .i64 i] H (fun r H' => r = .int .i64 (atV l i) ∧ H' = H) := by
  refine ACalls.pure rfl (acalls_of_body F.has ?_)
  (conv => whnf); refine recA (fun h0 => ?_) (fun h0 => ?_)
  · conv => whnf
    refine pubI ?_
    simp [iC_length] at h0
    simp [atV, h0, and64]
  · simp [iC_length] at h0
    have hb := and_ffff i
    have h1 : 0 ≤ (and64 i 65535).tmod l.length := by rw [hb]; exact Int.tmod_nonneg _ (by omega)
    have h2 : (and64 i 65535).tmod l.length < l.length := Int.tmod_lt_of_pos _ (by have := List.length_pos_iff.2 h0; omega)
    conv => whnf
    refine And.intro (by simpa [iC_length] using h0) ?_
    conv => whnf
    refine And.intro (by simp only [iC_length]; exact h1) ?_
    conv => whnf
    refine recO (e := [.int .i64 (l.getD ((and64 i 65535).tmod l.length).toNat 0)]) ?_ ?_
    · show (iC l)[((and64 i 65535).tmod ((iC l).length : Nat)).toNat]? = _
      rw [iC_length]
      exact iC_get (by omega)
    conv => whnf
    refine And.intro (by simpa [iC_length] using h0) ?_
    conv => whnf
    refine pubI ?_
    simp [atV, h0, and64, iC_length]

def shrI (a : Int) (k : Nat) : Int := a.fdiv (2 ^ (min k IntKind.i64.bits))
theorem shrI_eq (a : Int) (k : Nat) (hk : k ≤ 64) : shrI a k = a / 2 ^ k := by
  unfold shrI
  rw [Nat.min_eq_left (show k ≤ IntKind.i64.bits from hk)]
  exact Int.fdiv_eq_ediv_of_nonneg _ (Int.pow_nonneg (by omega))

def w64 (n : Int) : Int := IntKind.i64.wrap n

/-- An instant, out of a number below 65536. -/
def momN (n : Int) : Int :=
  if (n / 256) % 16 = 0 then [0, 1, 575999999, 575999998, 1439, 1440].getD (n % 6).toNat 0
  else 144000 + (n / 8) % 4 * 1440 + n % 7 * 200 + (n / 32) % 2 * 1439 - 600
def momentV (n : Int) : Int := momN (n % 65536)

theorem getD_cells (l : List Int) (k : Nat) (h : k < l.length) : (l.map fun n => [AVal.int .i64 n])[k]? = some [.int .i64 (l.getD k 0)] := by
  rw [List.getElem?_map, getElem?_getD h]; rfl

set_option maxRecDepth 20000 in
theorem Moment_spec {P : Program} (F : F_warehousebase_Moment P) (n : Int) (H : List AObj) :
    ACalls P F.id [.int .i64 n] H (fun r H' => r = .int .i64 (momentV n) ∧ H' = H) := by
  refine ACalls.pure rfl (acalls_of_body F.has ?_)
  have hn := and_ffff n
  have e8 := shrI_eq (and64 n 65535) 8 (by omega)
  have e3 := shrI_eq (and64 n 65535) 3 (by omega)
  have e5 := shrI_eq (and64 n 65535) 5 (by omega)
  have a8 := and_15 (shrI (and64 n 65535) 8)
  have a3 := and_3 (shrI (and64 n 65535) 3)
  have a5 := and_1 (shrI (and64 n 65535) 5)
  rw [e8] at a8; rw [e3] at a3; rw [e5] at a5
  rw [hn] at a8 a3 a5
  have m6 : (and64 n 65535).tmod 6 = (n % 65536) % 6 := by rw [hn]; exact Int.tmod_eq_emod_of_nonneg (by omega)
  have m7 : (and64 n 65535).tmod 7 = (n % 65536) % 7 := by rw [hn]; exact Int.tmod_eq_emod_of_nonneg (by omega)
  (conv => whnf); refine And.intro (by decide) ?_
  (conv => whnf); refine recA (fun h0 => ?_) (fun h0 => ?_)
  · replace h0 : (and64 (shrI (and64 n 65535) 8) 15 == 0) = true := h0
    rw [e8, hn, a8] at h0
    simp at h0
    (conv => whnf); refine And.intro (by decide) ?_
    (conv => whnf); refine And.intro (show 0 ≤ (and64 n 65535).tmod 6 by omega) ?_
    conv => whnf
    refine recO (e := [.int .i64 (momentV n)]) ?_ ?_
    · show (([0, 1, 575999999, 575999998, 1439, 1440] : List Int).map fun n => [AVal.int .i64 n])[((and64 n 65535).tmod 6).toNat]? = _
      rw [m6, getD_cells _ _ (by simp; omega)]
      simp [momentV, momN, h0]
    conv => whnf
    exact pubI rfl
  · replace h0 : (and64 (shrI (and64 n 65535) 8) 15 == 0) = false := h0
    rw [e8, hn, a8] at h0
    simp at h0
    repeat' ((conv => whnf); refine And.intro (by decide) ?_)
    conv => whnf
    refine pubI ?_
    show w64 (w64 (w64 (w64 (144000 + w64 (and64 (shrI (and64 n 65535) 3) 3 * 1440)) + w64 ((and64 n 65535).tmod 7 * 200)) + w64 (and64 (shrI (and64 n 65535) 5) 1 * 1439)) - 600) = momentV n
    rw [e3, e5, hn, a3, a5]
    rw [hn] at m7
    rw [m7]
    have q : ¬ (n % 65536 / 256) % 16 = 0 := by simpa using h0
    simp only [w64, momentV, momN]
    rw [if_neg q]
    have b3 : 0 ≤ n % 65536 / 2 ^ 3 % 4 ∧ n % 65536 / 2 ^ 3 % 4 ≤ 3 := by omega
    have b5 : 0 ≤ n % 65536 / 2 ^ 5 % 2 ∧ n % 65536 / 2 ^ 5 % 2 ≤ 1 := by omega
    have b7 : 0 ≤ n % 65536 % 7 ∧ n % 65536 % 7 ≤ 6 := by omega
    rw [wrapI (n % 65536 / 2 ^ 3 % 4 * 1440) (by omega) (by omega), wrapI (n % 65536 % 7 * 200) (by omega) (by omega), wrapI (n % 65536 / 2 ^ 5 % 2 * 1439) (by omega) (by omega)]
    rw [wrapI (144000 + _) (by omega) (by omega), wrapI (_ + n % 65536 % 7 * 200) (by omega) (by omega), wrapI (_ + n % 65536 / 2 ^ 5 % 2 * 1439) (by omega) (by omega), wrapI _ (by omega) (by omega)]
    rfl

theorem momN_bounds (n : Int) : 0 ≤ momentV n ∧ momentV n ≤ 575999999 := by
  unfold momentV
  generalize hm : n % 65536 = m
  have hm0 : 0 ≤ m := by omega
  unfold momN
  split
  · have : m % 6 = 0 ∨ m % 6 = 1 ∨ m % 6 = 2 ∨ m % 6 = 3 ∨ m % 6 = 4 ∨ m % 6 = 5 := by omega
    rcases this with h | h | h | h | h | h <;> rw [h] <;> decide
  · omega

def txtV (n : Int) : ByteArray := [bs [97], bs [98], bs [99], bs [], bs [105, 116, 39, 115], bs [97, 32, 98]].getD (n % 6).toNat (bs [])

def intN (n : Int) : Int := if (n / 256) % 32 = 0 then 1073741824 - n % 2 else if (n / 256) % 32 = 1 then n % 4 - 1073741824 else n % 7 - 2

def valueV (kind n : Int) : V :=
  if kind = 1 then ⟨1, (n % 65536) % 2, bs []⟩ else if kind = 2 then ⟨2, intN (n % 65536), bs []⟩ else if kind = 3 then ⟨3, 0, txtV (n % 65536)⟩ else if kind = 4 then ⟨4, momentV (n % 65536), bs []⟩ else ⟨0, 0, bs []⟩

theorem pubV {H1 : List AObj} {n : Nat} {ids : List Nat} {a b : Int} {s : ByteArray} {v : V} (h1 : a = v.kind) (h2 : b = v.num) (h3 : s = v.str) : Pub H1 n ids (.agg [.int .i64 a, .int .i64 b, .str s]) (.agg (valC v)) := by
  subst h1 h2 h3; exact .closed _ rfl

set_option maxRecDepth 20000 in
theorem Value_spec {P : Program} (F : F_warehousebase_Value P) (k n : Int) (H : List AObj) :
    ACalls P F.id [.int .i64 k, .int .i64 n] H (fun r H' => r = .agg (valC (valueV k n)) ∧ H' = H) := by
  refine ACalls.pure rfl (acalls_of_body F.has ?_)
  have hn := and_ffff n
  have e8 := shrI_eq (and64 n 65535) 8 (by omega)
  have a8 := and_31 (shrI (and64 n 65535) 8)
  have a1 := and_1 (and64 n 65535)
  have a3 := and_3 (and64 n 65535)
  rw [e8] at a8
  rw [hn] at a8 a1 a3
  have m6 : (and64 n 65535).tmod 6 = (n % 65536) % 6 := by rw [hn]; exact Int.tmod_eq_emod_of_nonneg (by omega)
  have m7 : (and64 n 65535).tmod 7 = (n % 65536) % 7 := by rw [hn]; exact Int.tmod_eq_emod_of_nonneg (by omega)
  (conv => whnf); refine recA (fun h1 => ?_) (fun h1 => ?_)
  · simp at h1
    subst h1
    conv => whnf
    refine pubV (v := valueV 1 n) rfl ?_ rfl
    show and64 (and64 n 65535) 1 = _
    rw [hn, a1]; rfl
  simp at h1
  (conv => whnf); refine recA (fun h2 => ?_) (fun h2 => ?_)
  · simp at h2
    subst h2
    (conv => whnf); refine And.intro (by decide) ?_
    (conv => whnf); refine And.intro (by decide) ?_
    (conv => whnf); refine recA (fun h0 => ?_) (fun h0 => ?_)
    · replace h0 : (and64 (shrI (and64 n 65535) 8) 31 == 0) = true := h0
      rw [e8, hn, a8] at h0
      conv => whnf
      refine pubV (v := valueV 2 n) rfl ?_ rfl
      show w64 (1073741824 - and64 (and64 n 65535) 1) = intN (n % 65536)
      have h0 : n % 65536 / 256 % 32 = 0 := by simpa using h0
      rw [hn, a1, w64, wrapI _ (by omega) (by omega), intN, if_pos h0]
    · replace h0 : (and64 (shrI (and64 n 65535) 8) 31 == 0) = false := h0
      rw [e8, hn, a8] at h0
      have h0 : ¬ n % 65536 / 256 % 32 = 0 := by simpa using h0
      (conv => whnf); refine recA (fun h5 => ?_) (fun h5 => ?_)
      · replace h5 : (and64 (shrI (and64 n 65535) 8) 31 == 1) = true := h5
        rw [e8, hn, a8] at h5
        have h5 : n % 65536 / 256 % 32 = 1 := by simpa using h5
        conv => whnf
        refine pubV (v := valueV 2 n) rfl ?_ rfl
        show w64 (and64 (and64 n 65535) 3 - 1073741824) = intN (n % 65536)
        rw [hn, a3, w64, wrapI _ (by omega) (by omega), intN, if_neg h0, if_pos h5]
      · replace h5 : (and64 (shrI (and64 n 65535) 8) 31 == 1) = false := h5
        rw [e8, hn, a8] at h5
        have h5 : ¬ n % 65536 / 256 % 32 = 1 := by simpa using h5
        conv => whnf
        refine pubV (v := valueV 2 n) rfl ?_ rfl
        show w64 ((and64 n 65535).tmod 7 - 2) = intN (n % 65536)
        rw [m7, w64, wrapI _ (by omega) (by omega), intN, if_neg h0, if_neg h5]
  simp at h2
  (conv => whnf); refine recA (fun h3 => ?_) (fun h3 => ?_)
  · simp at h3
    subst h3
    (conv => whnf); refine And.intro (by decide) ?_
    (conv => whnf); refine And.intro (show 0 ≤ (and64 n 65535).tmod 6 by omega) ?_
    conv => whnf
    refine recO (e := [.str (txtV (n % 65536))]) ?_ ?_
    · show (([bs [97], bs [98], bs [99], bs [], bs [105, 116, 39, 115], bs [97, 32, 98]]).map fun s => [AVal.str s])[((and64 n 65535).tmod 6).toNat]? = _
      rw [m6, List.getElem?_map, List.getElem?_eq_getElem (show (n % 65536 % 6).toNat < _ by simp; omega)]
      simp only [Option.map_some, txtV]
      rw [List.getD_eq_getElem?_getD, List.getElem?_eq_getElem (show (n % 65536 % 6).toNat < _ by simp; omega)]
      rfl
    conv => whnf
    exact pubV (v := valueV 3 n) rfl rfl rfl
  simp at h3
  (conv => whnf); refine recA (fun h4 => ?_) (fun h4 => ?_)
  · simp at h4
    subst h4
    conv => whnf
    refine ACalls.use (Moment_spec F.warehousebase_Moment _ _) ?_
    conv => whnf
    refine pubV (v := valueV 4 n) rfl ?_ rfl
    show momentV (and64 n 65535) = _
    rw [hn]; rfl
  simp at h4
  conv => whnf
  have e : valueV k n = ⟨0, 0, bs []⟩ := by unfold valueV; rw [if_neg h1, if_neg h2, if_neg h3, if_neg h4]
  rw [e]
  exact .closed _ rfl

def anyV (n : Int) : V := valueV (n.tmod 5) (w64 (n.tdiv 5))

set_option maxRecDepth 20000 in
theorem Any_spec {P : Program} (F : F_warehousebase_Any P) (n : Int) (H : List AObj) :
    ACalls P F.id [.int .i64 n] H (fun r H' => r = .agg (valC (anyV n)) ∧ H' = H) := by
  refine ACalls.pure rfl (acalls_of_body F.has ?_)
  (conv => whnf); refine And.intro (by decide) ?_
  (conv => whnf); refine And.intro (by decide) ?_
  conv => whnf
  refine ACalls.use (Value_spec F.warehousebase_Value _ _ _) ?_
  conv => whnf
  exact pubV (v := anyV n) rfl rfl rfl

/-- A value that the builders make is a value. -/
theorem valueV_valid (k n : Int) : validB (valueV k n) = true := by
  unfold valueV
  split
  · have := Int.emod_emod_of_dvd n (show (2 : Int) ∣ 65536 from ⟨32768, rfl⟩)
    rw [this]
    have : n % 2 = 0 ∨ n % 2 = 1 := by omega
    rcases this with h | h <;> rw [h] <;> decide
  split
  · have h : -1073741824 ≤ intN (n % 65536) ∧ intN (n % 65536) ≤ 1073741824 := by
      unfold intN
      split
      · omega
      split <;> omega
    simp [validB, h, bs_nil]
  split
  · have : n % 65536 % 6 = 0 ∨ n % 65536 % 6 = 1 ∨ n % 65536 % 6 = 2 ∨ n % 65536 % 6 = 3 ∨ n % 65536 % 6 = 4 ∨ n % 65536 % 6 = 5 := by omega
    unfold txtV
    rcases this with h | h | h | h | h | h <;> rw [h] <;> decide
  split
  · have h := momN_bounds (n % 65536)
    simp [validB, h, bs_nil]
  · decide
theorem anyV_valid (n : Int) : validB (anyV n) = true := valueV_valid _ _
end Go.AW
