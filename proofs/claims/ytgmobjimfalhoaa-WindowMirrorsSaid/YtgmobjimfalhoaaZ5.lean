/-
  An abstract machine over the model, the code of functions on it, and their contracts: what the claim needs.
  No condition: definitions, plain laws, contracts over any program that has this code.
-/
import Derived.Test.YtgmobjimfalhoaaZ4
set_option linter.all false
namespace Go.AW
variable [Draws]
attribute [local irreducible] ACalls
def and64 (a b : Int) : Int := IntKind.i64.wrap (BitVec.ofInt IntKind.i64.bits a &&& BitVec.ofInt IntKind.i64.bits b).toNat

theorem and64_mask (a : Int) (k : Nat) (hk : k ≤ 62) : and64 a (2 ^ k - 1) = a % 2 ^ k := by
  have h1 : BitVec.ofInt 64 ((2 : Int) ^ k - 1) = BitVec.ofNat 64 (2 ^ k - 1) := by
    have h2 : 1 ≤ 2 ^ k := Nat.one_le_two_pow
    rw [show ((2 : Int) ^ k - 1) = ((2 ^ k - 1 : Nat) : Int) by rw [Int.ofNat_sub h2]; simp, BitVec.ofInt_natCast]
  have h3 : (2 : Nat) ^ k ≤ 2 ^ 62 := Nat.pow_le_pow_right (by omega) hk
  have h4 : 1 ≤ 2 ^ k := Nat.one_le_two_pow
  show IntKind.i64.wrap ((BitVec.ofInt 64 a &&& BitVec.ofInt 64 (2 ^ k - 1)).toNat : Int) = _
  rw [h1, BitVec.toNat_and, BitVec.toNat_ofNat, Nat.mod_eq_of_lt (a := 2 ^ k - 1) (by omega), Nat.and_two_pow_sub_one_eq_mod, BitVec.toNat_ofInt]
  have h5 : ((a % ((2 ^ 64 : Nat) : Int)).toNat % 2 ^ k : Nat) < 2 ^ k := Nat.mod_lt _ (by omega)
  rw [wrapI _ (by omega) (by omega)]
  have h6 : 0 ≤ a % ((2 ^ 64 : Nat) : Int) := Int.emod_nonneg _ (by omega)
  rw [Int.natCast_emod, Int.toNat_of_nonneg h6]
  simp only [Int.natCast_pow]
  have : ((2 : Nat) : Int) ^ 64 = 2 ^ k * 2 ^ (64 - k) := by rw [← Int.pow_add]; congr 1; omega
  rw [show ((2 : Nat) : Int) ^ 64 = ((2 : Int)) ^ k * 2 ^ (64 - k) from this]
  exact Int.emod_emod_of_dvd a ⟨_, rfl⟩

theorem and_ffff (a : Int) : and64 a 65535 = a % 65536 := and64_mask a 16 (by omega)

theorem and_1 (a : Int) : and64 a 1 = a % 2 := and64_mask a 1 (by omega)

theorem and_3 (a : Int) : and64 a 3 = a % 4 := and64_mask a 2 (by omega)

theorem and_7 (a : Int) : and64 a 7 = a % 8 := and64_mask a 3 (by omega)

theorem and_15 (a : Int) : and64 a 15 = a % 16 := and64_mask a 4 (by omega)

theorem and_31 (a : Int) : and64 a 31 = a % 32 := and64_mask a 5 (by omega)

def iC (l : List Int) : List (List AVal) := l.map fun n => [.int .i64 n]

theorem iC_length (l : List Int) : (iC l).length = l.length := List.length_map ..

theorem iC_get {l : List Int} {k : Nat} (h : k < l.length) : (iC l)[k]? = some [.int .i64 (l.getD k 0)] := by
  rw [iC, List.getElem?_map, getElem?_getD h]; rfl

def atV (l : List Int) (i : Int) : Int :=
  if l.length = 0 then and64 i 65535 else IntKind.i64.wrap (and64 (l.getD ((and64 i 65535).tmod l.length).toNat 0) 65535 + IntKind.i64.wrap ((and64 i 65535).tdiv l.length))

set_option maxRecDepth 20000 in
theorem At_spec {P : Program} (F : F_warehousebase_At P) (ex : Bool) (l : List Int) (i : Int) (H : List AObj) :
    ACalls P F.id [.list ex 1 (iC l), .int .i64 i] H (fun r H' => r = .int .i64 (atV l i) ∧ H' = H) := by
  refine ACalls.pure rfl (acalls_of_body F.has ?_)
  (conv => whnf); refine recA (fun h0 => ?_) (fun h0 => ?_)
  · conv => whnf
    refine pubI ?_
    simp [iC_length] at h0
    simp [atV, h0, and64]
  · simp [iC_length] at h0
    have hb := and_ffff i
    have h1 : 0 ≤ (and64 i 65535).tmod l.length := by rw [hb]; exact Int.tmod_nonneg _ (by omega)
    have h2 : (and64 i 65535).tmod l.length < l.length := Int.tmod_lt_of_pos _ (by have := List.length_pos_iff.2 h0; omega)
    conv => whnf
    refine And.intro (by simpa [iC_length] using h0) ?_
    conv => whnf
    refine And.intro (by simp only [iC_length]; exact h1) ?_
    conv => whnf
    refine recO (e := [.int .i64 (l.getD ((and64 i 65535).tmod l.length).toNat 0)]) ?_ ?_
    · show (iC l)[((and64 i 65535).tmod ((iC l).length : Nat)).toNat]? = _
      rw [iC_length]
      exact iC_get (by omega)
    conv => whnf
    refine And.intro (by simpa [iC_length] using h0) ?_
    conv => whnf
    refine pubI ?_
    simp [atV, h0, and64, iC_length]

def shrI (a : Int) (k : Nat) : Int := a.fdiv (2 ^ (min k IntKind.i64.bits))

theorem shrI_eq (a : Int) (k : Nat) (hk : k ≤ 64) : shrI a k = a / 2 ^ k := by
  unfold shrI
  rw [Nat.min_eq_left (show k ≤ IntKind.i64.bits from hk)]
  exact Int.fdiv_eq_ediv_of_nonneg _ (Int.pow_nonneg (by omega))

def w64 (n : Int) : Int := IntKind.i64.wrap n

def momN (n : Int) : Int :=
  if (n / 256) % 16 = 0 then [0, 1, 575999999, 575999998, 1439, 1440].getD (n % 6).toNat 0
  else 144000 + (n / 8) % 4 * 1440 + n % 7 * 200 + (n / 32) % 2 * 1439 - 600

def momentV (n : Int) : Int := momN (n % 65536)

theorem getD_cells (l : List Int) (k : Nat) (h : k < l.length) : (l.map fun n => [AVal.int .i64 n])[k]? = some [.int .i64 (l.getD k 0)] := by
  rw [List.getElem?_map, getElem?_getD h]; rfl

set_option maxRecDepth 20000 in
theorem Moment_spec {P : Program} (F : F_warehousebase_Moment P) (n : Int) (H : List AObj) :
    ACalls P F.id [.int .i64 n] H (fun r H' => r = .int .i64 (momentV n) ∧ H' = H) := by
  refine ACalls.pure rfl (acalls_of_body F.has ?_)
  have hn := and_ffff n
  have e8 := shrI_eq (and64 n 65535) 8 (by omega)
  have e3 := shrI_eq (and64 n 65535) 3 (by omega)
  have e5 := shrI_eq (and64 n 65535) 5 (by omega)
  have a8 := and_15 (shrI (and64 n 65535) 8)
  have a3 := and_3 (shrI (and64 n 65535) 3)
  have a5 := and_1 (shrI (and64 n 65535) 5)
  rw [e8] at a8; rw [e3] at a3; rw [e5] at a5
  rw [hn] at a8 a3 a5
  have m6 : (and64 n 65535).tmod 6 = (n % 65536) % 6 := by rw [hn]; exact Int.tmod_eq_emod_of_nonneg (by omega)
  have m7 : (and64 n 65535).tmod 7 = (n % 65536) % 7 := by rw [hn]; exact Int.tmod_eq_emod_of_nonneg (by omega)
  (conv => whnf); refine And.intro (by decide) ?_
  (conv => whnf); refine recA (fun h0 => ?_) (fun h0 => ?_)
  · replace h0 : (and64 (shrI (and64 n 65535) 8) 15 == 0) = true := h0
    rw [e8, hn, a8] at h0
    simp at h0
    (conv => whnf); refine And.intro (by decide) ?_
    (conv => whnf); refine And.intro (show 0 ≤ (and64 n 65535).tmod 6 by omega) ?_
    conv => whnf
    refine recO (e := [.int .i64 (momentV n)]) ?_ ?_
    · show (([0, 1, 575999999, 575999998, 1439, 1440] : List Int).map fun n => [AVal.int .i64 n])[((and64 n 65535).tmod 6).toNat]? = _
      rw [m6, getD_cells _ _ (by simp; omega)]
      simp [momentV, momN, h0]
    conv => whnf
    exact pubI rfl
  · replace h0 : (and64 (shrI (and64 n 65535) 8) 15 == 0) = false := h0
    rw [e8, hn, a8] at h0
    simp at h0
    repeat' ((conv => whnf); refine And.intro (by decide) ?_)
    conv => whnf
    refine pubI ?_
    show w64 (w64 (w64 (w64 (144000 + w64 (and64 (shrI (and64 n 65535) 3) 3 * 1440)) + w64 ((and64 n 65535).tmod 7 * 200)) + w64 (and64 (shrI (and64 n 65535) 5) 1 * 1439)) - 600) = momentV n
    rw [e3, e5, hn, a3, a5]
    rw [hn] at m7
    rw [m7]
    have q : ¬ (n % 65536 / 256) % 16 = 0 := by simpa using h0
    simp only [w64, momentV, momN]
    rw [if_neg q]
    have b3 : 0 ≤ n % 65536 / 2 ^ 3 % 4 ∧ n % 65536 / 2 ^ 3 % 4 ≤ 3 := by omega
    have b5 : 0 ≤ n % 65536 / 2 ^ 5 % 2 ∧ n % 65536 / 2 ^ 5 % 2 ≤ 1 := by omega
    have b7 : 0 ≤ n % 65536 % 7 ∧ n % 65536 % 7 ≤ 6 := by omega
    rw [wrapI (n % 65536 / 2 ^ 3 % 4 * 1440) (by omega) (by omega), wrapI (n % 65536 % 7 * 200) (by omega) (by omega), wrapI (n % 65536 / 2 ^ 5 % 2 * 1439) (by omega) (by omega)]
    rw [wrapI (144000 + _) (by omega) (by omega), wrapI (_ + n % 65536 % 7 * 200) (by omega) (by omega), wrapI (_ + n % 65536 / 2 ^ 5 % 2 * 1439) (by omega) (by omega), wrapI _ (by omega) (by omega)]
    rfl

def txtV (n : Int) : ByteArray := [bs [97], bs [98], bs [99], bs [], bs [105, 116, 39, 115], bs [97, 32, 98]].getD (n % 6).toNat (bs [])

def intN (n : Int) : Int := if (n / 256) % 32 = 0 then 1073741824 - n % 2 else if (n / 256) % 32 = 1 then n % 4 - 1073741824 else n % 7 - 2

def valueV (kind n : Int) : V :=
  if kind = 1 then ⟨1, (n % 65536) % 2, bs []⟩ else if kind = 2 then ⟨2, intN (n % 65536), bs []⟩ else if kind = 3 then ⟨3, 0, txtV (n % 65536)⟩ else if kind = 4 then ⟨4, momentV (n % 65536), bs []⟩ else ⟨0, 0, bs []⟩

theorem pubV {H1 : List AObj} {n : Nat} {ids : List Nat} {a b : Int} {s : ByteArray} {v : V} (h1 : a = v.kind) (h2 : b = v.num) (h3 : s = v.str) : Pub H1 n ids (.agg [.int .i64 a, .int .i64 b, .str s]) (.agg (valC v)) := by
  subst h1 h2 h3; exact .closed _ rfl

set_option maxRecDepth 20000 in
theorem Value_spec {P : Program} (F : F_warehousebase_Value P) (k n : Int) (H : List AObj) :
    ACalls P F.id [.int .i64 k, .int .i64 n] H (fun r H' => r = .agg (valC (valueV k n)) ∧ H' = H) := by
  refine ACalls.pure rfl (acalls_of_body F.has ?_)
  have hn := and_ffff n
  have e8 := shrI_eq (and64 n 65535) 8 (by omega)
  have a8 := and_31 (shrI (and64 n 65535) 8)
  have a1 := and_1 (and64 n 65535)
  have a3 := and_3 (and64 n 65535)
  rw [e8] at a8
  rw [hn] at a8 a1 a3
  have m6 : (and64 n 65535).tmod 6 = (n % 65536) % 6 := by rw [hn]; exact Int.tmod_eq_emod_of_nonneg (by omega)
  have m7 : (and64 n 65535).tmod 7 = (n % 65536) % 7 := by rw [hn]; exact Int.tmod_eq_emod_of_nonneg (by omega)
  (conv => whnf); refine recA (fun h1 => ?_) (fun h1 => ?_)
  · simp at h1
    subst h1
    conv => whnf
    refine pubV (v := valueV 1 n) rfl ?_ rfl
    show and64 (and64 n 65535) 1 = _
    rw [hn, a1]; rfl
  simp at h1
  (conv => whnf); refine recA (fun h2 => ?_) (fun h2 => ?_)
  · simp at h2
    subst h2
    (conv => whnf); refine And.intro (by decide) ?_
    (conv => whnf); refine And.intro (by decide) ?_
    (conv => whnf); refine recA (fun h0 => ?_) (fun h0 => ?_)
    · replace h0 : (and64 (shrI (and64 n 65535) 8) 31 == 0) = true := h0
      rw [e8, hn, a8] at h0
      conv => whnf
      refine pubV (v := valueV 2 n) rfl ?_ rfl
      show w64 (1073741824 - and64 (and64 n 65535) 1) = intN (n % 65536)
      have h0 : n % 65536 / 256 % 32 = 0 := by simpa using h0
      rw [hn, a1, w64, wrapI _ (by omega) (by omega), intN, if_pos h0]
    · replace h0 : (and64 (shrI (and64 n 65535) 8) 31 == 0) = false := h0
      rw [e8, hn, a8] at h0
      have h0 : ¬ n % 65536 / 256 % 32 = 0 := by simpa using h0
      (conv => whnf); refine recA (fun h5 => ?_) (fun h5 => ?_)
      · replace h5 : (and64 (shrI (and64 n 65535) 8) 31 == 1) = true := h5
        rw [e8, hn, a8] at h5
        have h5 : n % 65536 / 256 % 32 = 1 := by simpa using h5
        conv => whnf
        refine pubV (v := valueV 2 n) rfl ?_ rfl
        show w64 (and64 (and64 n 65535) 3 - 1073741824) = intN (n % 65536)
        rw [hn, a3, w64, wrapI _ (by omega) (by omega), intN, if_neg h0, if_pos h5]
      · replace h5 : (and64 (shrI (and64 n 65535) 8) 31 == 1) = false := h5
        rw [e8, hn, a8] at h5
        have h5 : ¬ n % 65536 / 256 % 32 = 1 := by simpa using h5
        conv => whnf
        refine pubV (v := valueV 2 n) rfl ?_ rfl
        show w64 ((and64 n 65535).tmod 7 - 2) = intN (n % 65536)
        rw [m7, w64, wrapI _ (by omega) (by omega), intN, if_neg h0, if_neg h5]
  simp at h2
  (conv => whnf); refine recA (fun h3 => ?_) (fun h3 => ?_)
  · simp at h3
    subst h3
    (conv => whnf); refine And.intro (by decide) ?_
    (conv => whnf); refine And.intro (show 0 ≤ (and64 n 65535).tmod 6 by omega) ?_
    conv => whnf
    refine recO (e := [.str (txtV (n % 65536))]) ?_ ?_
    · show (([bs [97], bs [98], bs [99], bs [], bs [105, 116, 39, 115], bs [97, 32, 98]]).map fun s => [AVal.str s])[((and64 n 65535).tmod 6).toNat]? = _
      rw [m6, List.getElem?_map, List.getElem?_eq_getElem (show (n % 65536 % 6).toNat < _ by simp; omega)]
      simp only [Option.map_some, txtV]
      rw [List.getD_eq_getElem?_getD, List.getElem?_eq_getElem (show (n % 65536 % 6).toNat < _ by simp; omega)]
      rfl
    conv => whnf
    exact pubV (v := valueV 3 n) rfl rfl rfl
  simp at h3
  (conv => whnf); refine recA (fun h4 => ?_) (fun h4 => ?_)
  · simp at h4
    subst h4
    conv => whnf
    refine ACalls.use (Moment_spec F.warehousebase_Moment _ _) ?_
    conv => whnf
    refine pubV (v := valueV 4 n) rfl ?_ rfl
    show momentV (and64 n 65535) = _
    rw [hn]; rfl
  simp at h4
  conv => whnf
  have e : valueV k n = ⟨0, 0, bs []⟩ := by unfold valueV; rw [if_neg h1, if_neg h2, if_neg h3, if_neg h4]
  rw [e]
  exact .closed _ rfl

end Go.AW

namespace Go.AW
variable [Draws]
attribute [local irreducible] ACalls
def vC (rs : List V) : List (List AVal) := rs.map valC

theorem vC_length (l : List V) : (vC l).length = l.length := List.length_map ..

theorem vC_append (a b : List V) : vC (a ++ b) = vC a ++ vC b := List.map_append

theorem pureEs_vC (l : List V) : pureEs (vC l) = true := by simp [pureEs, vC, valC, AVal.isPure]

theorem roomMul {n b : Nat} (h : n ≤ 1000000) (hb : b ≤ 1000000) : n * b ≤ roomB :=
  Nat.le_trans (Nat.mul_le_mul h hb) (by show 1000000 * 1000000 ≤ 1099511627776; omega)

theorem vC_at {l : List V} {k : Nat} {x : V} (h : l[k]? = some x) : (vC l)[k]? = some (valC x) := by
  rw [vC, List.getElem?_map, h]; rfl

theorem get_drop {α : Type} {l : List α} {k : Nat} (h : k < l.length) : ∃ x, l[k]? = some x ∧ l.drop k = x :: l.drop (k + 1) ∧ x ∈ l :=
  ⟨l[k], List.getElem?_eq_getElem h, List.drop_eq_getElem_cons h, List.getElem_mem h⟩

def rowsCmp : List V → List V → Int
  | [], [] => 0
  | [], _ :: _ => -1
  | _ :: _, [] => 1
  | x :: xs, y :: ys => if valCmp x y = 0 then rowsCmp xs ys else valCmp x y

set_option maxRecDepth 20000 in
theorem CompareFunc_spec {P : Program} (F : F_slices_CompareFunc_LValue_Value P) (g : FuncId) (hg : ∀ (a b : V) (H : List AObj), ACalls P g [.agg (valC a), .agg (valC b)] H (fun r H' => r = .int .i64 (valCmp a b) ∧ H' = H))
    (e1 e2 : Bool) (a b : List V) (ha : a.length ≤ 1000000) (H : List AObj) :
    ACalls P F.id [.list e1 3 (vC a), .list e2 3 (vC b), .fn g []] H (fun r H' => r = .int .i64 (rowsCmp a b) ∧ H' = H) := by
  refine ACalls.pure rfl (acalls_of_body F.has ?_)
  conv => whnf
  refine ⟨fun m ρ H => ∃ k : Nat, k + m = a.length ∧ rowsCmp (a.drop k) (b.drop k) = rowsCmp a b ∧ H = [] ∧
    Sv 39 [(0, .list e1 3 (vC a)), (1, .list e2 3 (vC b)), (2, .fn g []), (11, .list e1 3 (vC a)), (12, .int .i64 a.length), (13, .int .i64 k)] ρ, a.length, [], ?_, ?_⟩
  · exact ⟨0, by omega, rfl, rfl, Sv.intro rfl ⟨rfl, rfl, rfl, rfl, intEq (by rw [vC_length]), rfl, trivial⟩⟩
  rintro m ρ H ⟨k, hk, hr, rfl, d, rfl⟩
  (conv => whnf); refine recA (fun hlt => ?_) (fun hlt => ?_)
  · simp at hlt
    conv => whnf
    refine And.intro (by omega) ?_
    obtain ⟨x, hx, hda, _⟩ := get_drop hlt
    rw [hda] at hr
    (conv => whnf); refine recO (vC_at hx) ?_
    (conv => whnf); refine recA (fun hlt2 => ?_) (fun hlt2 => ?_)
    · simp [vC_length] at hlt2
      conv => whnf
      rw [List.drop_eq_nil_of_le hlt2] at hr
      exact pubI hr
    simp [vC_length] at hlt2
    conv => whnf
    refine And.intro (by omega) ?_
    obtain ⟨y, hy, hdb, _⟩ := get_drop hlt2
    rw [hdb] at hr
    (conv => whnf); refine recO (vC_at hy) ?_
    conv => whnf
    refine ACalls.use (hg x y _) ?_
    (conv => whnf); refine recA (fun hne => ?_) (fun hne => ?_)
    · conv => whnf
      refine pubI ?_
      rw [← hr, rowsCmp, if_neg (by simpa using hne)]
    · conv => whnf
      refine ⟨m - 1, by omega, Gp.none rfl ?_ fun ρ1 h => ⟨k + 1, by omega, ?_, rfl, h⟩⟩
      · exact ⟨.closed _ rfl, .closed _ rfl, .closed _ rfl, .closed _ rfl, .closed _ rfl, pub_int (wrapI ((k : Int) + 1) (by omega) (by omega)), trivial⟩
      · rw [← hr, rowsCmp, if_pos (by simpa using hne)]
  · simp at hlt
    rw [List.drop_eq_nil_of_le hlt] at hr
    (conv => whnf); refine recA (fun hlt2 => ?_) (fun hlt2 => ?_)
    · simp [vC_length] at hlt2
      conv => whnf
      have hdb : b.drop k = b[k]'(by omega) :: b.drop (k + 1) := List.drop_eq_getElem_cons (by omega)
      rw [hdb] at hr
      exact pubI hr
    · simp [vC_length] at hlt2
      conv => whnf
      rw [List.drop_eq_nil_of_le (by omega)] at hr
      exact pubI hr

theorem value_CompareRows_spec {P : Program} (F : F_value_CompareRows P) (e1 e2 : Bool) (a b : List V) (ha : a.length ≤ 1000000) (H : List AObj) :
    ACalls P F.id [.list e1 3 (vC a), .list e2 3 (vC b)] H (fun r H' => r = .int .i64 (rowsCmp a b) ∧ H' = H) := by
  refine ACalls.pure rfl (acalls_of_body F.has ?_)
  conv => whnf
  refine ACalls.use (CompareFunc_spec F.slices_CompareFunc_LValue_Value _ (value_Compare_spec F.value_Compare) e1 e2 a b ha _) ?_
  conv => whnf
  exact .closed _ rfl

set_option maxRecDepth 20000 in
theorem ref1_CompareRows_spec {P : Program} (F : F_warehouseref1_CompareRows P) (e1 e2 : Bool) (a b : List V) (ha : a.length ≤ 1000000) (H : List AObj) :
    ACalls P F.id [.list e1 3 (vC a), .list e2 3 (vC b)] H (fun r H' => r = .int .i64 (rowsCmp a b) ∧ H' = H) := by
  refine ACalls.pure rfl (acalls_of_body F.has ?_)
  conv => whnf
  refine ⟨fun m ρ H => ∃ k : Nat, k + m = a.length ∧ k ≤ b.length ∧ rowsCmp (a.drop k) (b.drop k) = rowsCmp a b ∧ H = [] ∧
    Sv 36 [(0, .list e1 3 (vC a)), (1, .list e2 3 (vC b)), (5, .int .i64 k)] ρ, a.length, [], ?_, ?_⟩
  · exact ⟨0, by omega, by omega, rfl, rfl, Sv.intro rfl ⟨rfl, rfl, rfl, trivial⟩⟩
  rintro m ρ H ⟨k, hk, hkb, hr, rfl, d, rfl⟩
  have fin : a.length ≤ k ∨ b.length ≤ k → cmpI (vC a).length (vC b).length = rowsCmp a b := by
    intro h
    rw [vC_length, vC_length, ← hr]
    by_cases h1 : a.length ≤ k
    · rw [List.drop_eq_nil_of_le h1]
      by_cases h2 : b.length ≤ k
      · rw [List.drop_eq_nil_of_le h2]
        have : a.length = b.length := by omega
        simp [cmpI, rowsCmp, this]
      · rw [show b.drop k = b[k]'(by omega) :: b.drop (k + 1) from List.drop_eq_getElem_cons (by omega), rowsCmp, cmpI, if_pos (by omega)]
    · rw [show a.drop k = a[k]'(by omega) :: a.drop (k + 1) from List.drop_eq_getElem_cons (by omega), List.drop_eq_nil_of_le (show b.length ≤ k by omega), rowsCmp, cmpI, if_neg (by omega), if_pos (by omega)]
  (conv => whnf); refine recA (fun hlt => ?_) (fun hlt => ?_)
  · simp [vC_length] at hlt
    (conv => whnf); refine recA (fun hlt2 => ?_) (fun hlt2 => ?_)
    · simp [vC_length] at hlt2
      conv => whnf
      refine And.intro (by omega) ?_
      obtain ⟨x, hx, hda, _⟩ := get_drop hlt
      obtain ⟨y, hy, hdb, _⟩ := get_drop hlt2
      rw [hda, hdb] at hr
      (conv => whnf); refine recO (vC_at hx) ?_
      conv => whnf
      refine And.intro (by omega) ?_
      (conv => whnf); refine recO (vC_at hy) ?_
      conv => whnf
      refine ⟨_, ref1_Compare_spec F.warehouseref1_Compare x y _, ?_⟩
      (conv => whnf); refine recA (fun hne => ?_) (fun hne => ?_)
      · conv => whnf
        refine pubI ?_
        rw [← hr, rowsCmp, if_neg (by simpa using hne)]
      · conv => whnf
        refine ⟨m - 1, by omega, Gp.none rfl ?_ fun ρ1 h => ⟨k + 1, by omega, by omega, ?_, rfl, h⟩⟩
        · exact ⟨.closed _ rfl, .closed _ rfl, pub_int (wrapI ((k : Int) + 1) (by omega) (by omega)), trivial⟩
        · rw [← hr, rowsCmp, if_pos (by simpa using hne)]
    · simp [vC_length] at hlt2
      conv => whnf
      refine ACalls.use (numbers_spec F.warehouseref1_numbers _ _ _) ?_
      conv => whnf
      exact pubI (fin (.inr hlt2))
  · simp [vC_length] at hlt
    conv => whnf
    refine ACalls.use (numbers_spec F.warehouseref1_numbers _ _ _) ?_
    conv => whnf
    exact pubI (fin (.inl hlt))

end Go.AW

namespace Go.AW
variable [Draws]
attribute [local irreducible] ACalls
def Byt (l : List Int) : Prop := ∀ x ∈ l, 0 ≤ x ∧ x ≤ 255

def num (l : List Int) : Int := l.foldl (fun n x => n * 256 + x) 0

def strOf (l : List Int) : ByteArray := ⟨(l.map fun n => UInt8.ofNat n.toNat).toArray⟩

theorem bytesOf_bC : ∀ (l : List Int), bytesOf (bC l) = some (l.map fun n => UInt8.ofNat n.toNat)
  | [] => rfl
  | x :: l => by
    show (bytesOf (bC l)).map (UInt8.ofNat x.toNat :: ·) = _
    rw [bytesOf_bC l]; rfl

def decW (l : List Int) (k n : Int) : V × Int :=
  if l.length = 0 then (⟨0, 0, bs []⟩, 0)
  else if k = 0 then (⟨0, 0, bs []⟩, 1)
  else if k = 1 ∧ 2 ≤ l.length then (⟨1, n, bs []⟩, 2)
  else if k = 2 ∧ 5 ≤ l.length then (⟨2, num ((l.take 5).drop 1) - 1073741824, bs []⟩, 5)
  else if k = 4 ∧ 5 ≤ l.length then (⟨4, num ((l.take 5).drop 1), bs []⟩, 5)
  else if k = 3 ∧ 2 ≤ l.length ∧ 2 + n ≤ l.length then (⟨3, 0, strOf ((l.take (2 + n).toNat).drop 2)⟩, 2 + n)
  else (⟨0, 0, bs []⟩, 0)

def decV (l : List Int) : V × Int := decW l (l.getD 0 0) (l.getD 1 0)

theorem decW_0 {l : List Int} {n : Int} (h : 1 ≤ l.length) : decW l 0 n = (⟨0, 0, bs []⟩, 1) := by
  unfold decW; rw [if_neg (by omega), if_pos (Eq.refl (0 : Int))]

theorem decW_1 {l : List Int} {n : Int} (h : 2 ≤ l.length) : decW l 1 n = (⟨1, n, bs []⟩, 2) := by
  unfold decW; rw [if_neg (by omega), if_neg (by omega), if_pos ⟨Eq.refl (1 : Int), h⟩]

theorem decW_2 {l : List Int} {n : Int} (h : 5 ≤ l.length) : decW l 2 n = (⟨2, num ((l.take 5).drop 1) - 1073741824, bs []⟩, 5) := by
  unfold decW; rw [if_neg (by omega), if_neg (by omega), if_neg (by omega), if_pos ⟨Eq.refl (2 : Int), h⟩]

theorem decW_4 {l : List Int} {n : Int} (h : 5 ≤ l.length) : decW l 4 n = (⟨4, num ((l.take 5).drop 1), bs []⟩, 5) := by
  unfold decW; rw [if_neg (by omega), if_neg (by omega), if_neg (by omega), if_neg (by omega), if_pos ⟨Eq.refl (4 : Int), h⟩]

theorem decW_3 {l : List Int} {n : Int} (h : 2 ≤ l.length) (h2 : 2 + n ≤ l.length) : decW l 3 n = (⟨3, 0, strOf ((l.take (2 + n).toNat).drop 2)⟩, 2 + n) := by
  unfold decW; rw [if_neg (by omega), if_neg (by omega), if_neg (by omega), if_neg (by omega), if_neg (by omega), if_pos ⟨Eq.refl (3 : Int), h, h2⟩]

theorem Byt.sub {l m : List Int} (h : Byt l) (hm : ∀ x ∈ m, x ∈ l) : Byt m := fun x hx => h x (hm x hx)

theorem Byt.drop {l : List Int} (h : Byt l) (k : Nat) : Byt (l.drop k) := h.sub fun _ hx => List.mem_of_mem_drop hx

theorem Byt.take {l : List Int} (h : Byt l) (k : Nat) : Byt (l.take k) := h.sub fun _ hx => List.mem_of_mem_take hx

def decN : Nat → List Int → Option (List V × List Int)
  | 0, l => some ([], l)
  | n + 1, l => if (decV l).2 = 0 ∨ validB (decV l).1 = false then none else match decN n (l.drop (decV l).2.toNat) with
    | some (rs, r) => some ((decV l).1 :: rs, r)
    | none => none

theorem decN_succ (n : Nat) (l : List Int) : decN (n + 1) l = if (decV l).2 = 0 ∨ validB (decV l).1 = false then none else match decN n (l.drop (decV l).2.toNat) with
    | some (rs, r) => some ((decV l).1 :: rs, r)
    | none => none := rfl

end Go.AW

namespace Go.AW
variable [Draws]
attribute [local irreducible] ACalls
theorem bl_irrefl : ∀ (a : List UInt8), Op.bytesLess a a = false
  | [] => rfl
  | x :: a => by simp [Op.bytesLess, bl_irrefl a]

theorem bl_tri : ∀ (a b : List UInt8), Op.bytesLess a b = true ∨ a = b ∨ Op.bytesLess b a = true
  | [], [] => .inr (.inl rfl)
  | [], _ :: _ => .inl rfl
  | _ :: _, [] => .inr (.inr rfl)
  | x :: a, y :: b => by
    simp only [Op.bytesLess, Bool.or_eq_true, decide_eq_true_eq, Bool.and_eq_true, beq_iff_eq, List.cons.injEq]
    rcases (show x < y ∨ x = y ∨ y < x from by rcases Nat.lt_trichotomy x.toNat y.toNat with h | h | h; exact .inl h; exact .inr (.inl (UInt8.toNat_inj.1 h)); exact .inr (.inr h)) with h | h | h
    · exact .inl (.inl h)
    · subst h
      rcases bl_tri a b with h | h | h
      · exact .inl (.inr ⟨rfl, h⟩)
      · exact .inr (.inl ⟨rfl, h⟩)
      · exact .inr (.inr (.inr ⟨rfl, h⟩))
    · exact .inr (.inr (.inl h))

theorem bl_trans : ∀ (a b c : List UInt8), Op.bytesLess a b = true → Op.bytesLess b c = true → Op.bytesLess a c = true
  | _, [], _, h, _ => by cases ‹List UInt8› <;> simp [Op.bytesLess] at h
  | _, _ :: _, [], _, h => by simp [Op.bytesLess] at h
  | [], _ :: _, _ :: _, _, _ => rfl
  | x :: a, y :: b, z :: c, h1, h2 => by
    simp only [Op.bytesLess, Bool.or_eq_true, decide_eq_true_eq, Bool.and_eq_true, beq_iff_eq] at *
    rcases h1 with h1 | ⟨rfl, h1⟩
    · rcases h2 with h2 | ⟨rfl, h2⟩
      · exact .inl (UInt8.lt_trans h1 h2)
      · exact .inl h1
    · rcases h2 with h2 | ⟨rfl, h2⟩
      · exact .inl h2
      · exact .inr ⟨rfl, bl_trans a b c h1 h2⟩

structure IsCmp {α : Type} (c : α → α → Int) : Prop where
  vals : ∀ a b, c a b = -1 ∨ c a b = 0 ∨ c a b = 1
  anti : ∀ a b, c b a = - c a b
  zero : ∀ a b, c a b = 0 ↔ a = b
  trans : ∀ a b d, c a b < 0 → c b d < 0 → c a d < 0

theorem IsCmp.ltle {α : Type} {c : α → α → Int} (h : IsCmp c) {a b d : α} (h1 : c a b < 0) (h2 : c b d ≤ 0) : c a d < 0 := by
  by_cases e : c b d = 0
  · rw [← (h.zero b d).1 e]; exact h1
  · exact h.trans a b d h1 (by omega)

theorem IsCmp.le {α : Type} {c : α → α → Int} (h : IsCmp c) {a b d : α} (h1 : c a b ≤ 0) (h2 : c b d ≤ 0) : c a d ≤ 0 := by
  by_cases e : c a b = 0
  · rw [(h.zero a b).1 e]; exact h2
  · have := h.ltle (a := a) (by omega) h2; omega

theorem isCmp_int : IsCmp cmpI := by
  refine ⟨fun a b => ?_, fun a b => ?_, fun a b => ?_, fun a b d => ?_⟩ <;> unfold cmpI <;> (repeat' split) <;> omega

theorem isCmp_str : IsCmp cmpS := by
  have asym : ∀ a b, Op.bytesLess a b = true → Op.bytesLess b a = true → False := fun a b h1 h2 => by
    have := bl_trans a b a h1 h2
    rw [bl_irrefl] at this; cases this
  refine ⟨fun a b => ?_, fun a b => ?_, fun a b => ?_, fun a b d => ?_⟩
  · unfold cmpS; split
    · simp
    · split <;> simp
  · unfold cmpS
    rcases bl_tri a b with h | h | h
    · have hb : Op.bytesLess b a = false := by cases hb : Op.bytesLess b a with | false => rfl | true => exact (asym a b h hb).elim
      have hne : ¬ b = a := by rintro rfl; rw [bl_irrefl] at h; cases h
      simp [h, hb, hne]
    · subst h; simp [bl_irrefl]
    · have hb : Op.bytesLess a b = false := by cases hb : Op.bytesLess a b with | false => rfl | true => exact (asym a b hb h).elim
      have hne : ¬ a = b := by rintro rfl; rw [bl_irrefl] at h; cases h
      simp [h, hb, hne]
  · unfold cmpS
    split
    · rename_i h
      refine ⟨fun h => by omega, ?_⟩
      rintro rfl
      rw [bl_irrefl] at h; cases h
    · split <;> simp [*]
  · unfold cmpS
    intro h1 h2
    have e1 : Op.bytesLess a b = true := by
      revert h1
      split
      · intro _; assumption
      · split <;> intro h <;> omega
    have e2 : Op.bytesLess b d = true := by
      revert h2
      split
      · intro _; assumption
      · split <;> intro h <;> omega
    rw [if_pos (bl_trans a b d e1 e2)]; omega

theorem isCmp_val : IsCmp valCmp := by
  have I := isCmp_int
  have S := isCmp_str
  refine ⟨fun a b => ?_, fun a b => ?_, fun a b => ?_, fun a b d => ?_⟩
  · have := I.vals a.kind b.kind; have := I.vals a.num b.num; have := S.vals a.str.data.toList b.str.data.toList
    simp only [valCmp, orI]; (repeat' split) <;> omega
  · have := I.anti a.kind b.kind; have := I.anti a.num b.num; have := S.anti a.str.data.toList b.str.data.toList
    simp only [valCmp, orI]; (repeat' split) <;> omega
  · have h1 := I.zero a.kind b.kind; have h2 := I.zero a.num b.num; have h3 := S.zero a.str.data.toList b.str.data.toList
    constructor
    · intro h
      simp only [valCmp, orI] at h
      have e1 : cmpI a.kind b.kind = 0 := by revert h; (repeat' split) <;> omega
      have e2 : cmpI a.num b.num = 0 := by revert h; (repeat' split) <;> omega
      have e3 : cmpS a.str.data.toList b.str.data.toList = 0 := by revert h; (repeat' split) <;> omega
      obtain ⟨ak, an, ⟨⟨asv⟩⟩⟩ := a
      obtain ⟨bk, bn, ⟨⟨bl⟩⟩⟩ := b
      have q1 := h1.1 e1; have q2 := h2.1 e2; have q3 := h3.1 e3
      simp only at q1 q2 q3
      subst q1 q2 q3; rfl
    · rintro rfl
      simp only [valCmp, orI]
      rw [if_pos (h1.2 rfl), if_pos (h2.2 rfl), if_pos (h3.2 rfl)]
  · intro h1 h2
    have a1 := I.trans a.kind b.kind d.kind; have a2 := I.trans a.num b.num d.num; have a3 := S.trans a.str.data.toList b.str.data.toList d.str.data.toList
    have v1 := I.vals a.kind b.kind; have v2 := I.vals b.kind d.kind; have v3 := I.vals a.num b.num; have v4 := I.vals b.num d.num
    have z1 := I.zero a.kind b.kind; have z2 := I.zero b.kind d.kind; have z3 := I.zero a.num b.num; have z4 := I.zero b.num d.num
    have z5 := I.zero a.kind d.kind; have z6 := I.zero a.num d.num
    simp only [valCmp, orI] at *
    by_cases k1 : a.kind = b.kind <;> by_cases k2 : b.kind = d.kind <;> by_cases n1 : a.num = b.num <;> by_cases n2 : b.num = d.num <;> simp_all <;> (repeat' split) <;> omega

end Go.AW

namespace Go.AW
variable [Draws]
attribute [local irreducible] ACalls
structure Col where
  name : ByteArray
  kind : Int
  nul : Bool

def colC (c : Col) : List AVal := [.str c.name, .int .i64 c.kind, .bool c.nul]

def cC (cs : List Col) : List (List AVal) := cs.map colC

theorem cC_length (l : List Col) : (cC l).length = l.length := List.length_map ..

theorem cC_at {l : List Col} {k : Nat} {x : Col} (h : l[k]? = some x) : (cC l)[k]? = some (colC x) := by
  rw [cC, List.getElem?_map, h]; rfl

def idxOf {α : Type} (p : α → Bool) : List α → Int → Int
  | [], _ => -1
  | c :: cs, i => if p c then i else idxOf p cs (i + 1)

end Go.AW

namespace Go.AW
variable [Draws]
attribute [local irreducible] ACalls
theorem ACalls.frz1 {P : Program} {f : FuncId} {args : List AVal} {n sz : Nat} {es : List (List AVal)} {H : List AObj} (ha : args.all AVal.closed = true) (h : ACalls P f args [] (fun r H1 => r = .sl 0 n 0 n ∧ H1 = [.arr sz es]))
    (hn : n = es.length) (hp : pureEs es = true) : ACalls P f args H (fun r H' => r = .list false sz es ∧ H' = H) := by
  refine ACalls.pure ha (h.mono ?_)
  rintro r H1 ⟨rfl, rfl⟩
  exact pubF rfl hn hn hp

def fillUp {α : Type} (W : List α) (z : α) (k : Nat) : List α := W.take k ++ List.replicate (W.length - k) z

theorem fillUp_length {α : Type} (W : List α) (z : α) (k : Nat) (h : k ≤ W.length) : (fillUp W z k).length = W.length := by simp [fillUp]; omega

theorem fillUp_zero {α : Type} (W : List α) (z : α) : fillUp W z 0 = List.replicate W.length z := by simp [fillUp]

theorem fillUp_all {α : Type} (W : List α) (z : α) : fillUp W z W.length = W := by simp [fillUp]

theorem fillUp_set {α : Type} (W : List α) (z : α) (k : Nat) (x : α) (h : W[k]? = some x) : (fillUp W z k).set k x = fillUp W z (k + 1) := by
  have hk := (List.getElem?_eq_some_iff.1 h).1
  unfold fillUp
  obtain ⟨m, hm⟩ : ∃ m, W.length - k = m + 1 := ⟨W.length - k - 1, by omega⟩
  have h1 : (W.take k).length = k := by simp; omega
  rw [hm, List.replicate_succ, List.set_append_right _ _ (by omega), h1, Nat.sub_self, List.set_cons_zero, List.take_add_one, h, show W.length - (k + 1) = m by omega]
  simp

theorem fillUp_get {α : Type} (W : List α) (z : α) (k : Nat) (hk : k < W.length) : (fillUp W z k)[k]? = some z := by
  have h1 : (W.take k).length = k := by simp; omega
  rw [fillUp, List.getElem?_append_right (by omega), h1, Nat.sub_self]
  obtain ⟨m, hm⟩ : ∃ m, W.length - k = m + 1 := ⟨W.length - k - 1, by omega⟩
  rw [hm, List.replicate_succ]; rfl

def zV : V := ⟨0, 0, bs []⟩

def cellV (c : Col) (n : Int) : V := if c.nul = true ∧ n.tmod 4 = 0 then zV else valueV c.kind (w64 (n.tdiv 4))

set_option maxRecDepth 20000 in
theorem Cell_spec {P : Program} (F : F_warehousebase_Cell P) (c : Col) (n : Int) (H : List AObj) :
    ACalls P F.id [.agg (colC c), .int .i64 n] H (fun r H' => r = .agg (valC (cellV c n)) ∧ H' = H) := by
  refine ACalls.pure rfl (acalls_of_body F.has ?_)
  (conv => whnf); refine recA (fun h => ?_) (fun hf => ?_)
  · (conv => whnf); refine And.intro (by decide) ?_
    (conv => whnf); refine recA (fun h2 => ?_) (fun hf2 => ?_)
    · conv => whnf
      exact pubV (v := cellV c n) (by rw [cellV, if_pos ⟨h, by simpa using h2⟩]; rfl) (by rw [cellV, if_pos ⟨h, by simpa using h2⟩]; rfl) (by rw [cellV, if_pos ⟨h, by simpa using h2⟩]; rfl)
    · (conv => whnf); refine And.intro (by decide) ?_
      (conv => whnf); refine ACalls.use (Value_spec F.warehousebase_Value _ _ _) ?_
      conv => whnf
      have : cellV c n = valueV c.kind (w64 (n.tdiv 4)) := by rw [cellV, if_neg (by intro h; simp [h.2] at hf2)]
      rw [this]
      exact pubV rfl rfl rfl
  · (conv => whnf); refine And.intro (by decide) ?_
    (conv => whnf); refine ACalls.use (Value_spec F.warehousebase_Value _ _ _) ?_
    conv => whnf
    have : cellV c n = valueV c.kind (w64 (n.tdiv 4)) := by rw [cellV, if_neg (by rw [hf]; simp)]
    rw [this]
    exact pubV rfl rfl rfl

def rowC : List Col → List Int → Int → List V
  | [], _, _ => []
  | c :: cs, l, i => cellV c (atV l i) :: rowC cs l (i + 1)

theorem rowC_length : ∀ (cs : List Col) (l : List Int) (i : Int), (rowC cs l i).length = cs.length
  | [], _, _ => rfl
  | c :: cs, l, i => by simp [rowC, rowC_length cs]

theorem rowC_get : ∀ (cs : List Col) (l : List Int) (i : Int) (k : Nat) (c : Col), cs[k]? = some c → (rowC cs l i)[k]? = some (cellV c (atV l (i + k)))
  | [], _, _, k, c, h => by simp at h
  | c0 :: cs, l, i, 0, c, h => by simp at h; subst h; simp [rowC]
  | c0 :: cs, l, i, k + 1, c, h => by
    have := rowC_get cs l (i + 1) k c (by simpa using h)
    rw [rowC, List.getElem?_cons_succ, this, show i + 1 + (k : Int) = i + ((k + 1 : Nat) : Int) by omega]

theorem setEs_vC (l : List V) (k : Nat) (v : V) : setEs (vC l) k (valC v) = vC (l.set k v) := by rw [setEs_eq]; simp [vC]

set_option maxRecDepth 20000 in
theorem Row_raw {P : Program} (F : F_warehousebase_Row P) (e1 e2 : Bool) (cs : List Col) (l : List Int) (i : Int) (hc : cs.length ≤ 1000) (hi : 0 ≤ i ∧ i ≤ 1000000) :
    ACalls P F.id [.list e1 3 (cC cs), .list e2 1 (iC l), .int .i64 i] [] (fun r H' => r = .sl 0 cs.length 0 cs.length ∧ H' = [.arr 3 (vC (rowC cs l i))]) := by
  refine acalls_of_body F.has ?_
  conv => whnf
  refine And.intro ⟨by omega, by omega, by rw [cC_length]; show (cs.length : Int) * 32 ≤ 1099511627776; omega, by rw [cC_length]; show (cs.length : Int) ≤ 1099511627776; omega⟩ ?_
  conv => whnf
  refine ⟨fun m ρ H => ∃ k : Nat, k + m = cs.length ∧ H = [.arr 3 (vC (fillUp (rowC cs l i) zV k))] ∧ Sv 32 [(0, .list e1 3 (cC cs)), (1, .list e2 1 (iC l)), (2, .int .i64 i), (7, .sl 0 cs.length 0 cs.length), (8, .int .i64 k)] ρ, cs.length, [], ?_, ?_⟩
  · refine ⟨0, by omega, ?_, Sv.intro rfl ⟨rfl, rfl, rfl, slEq ?_ ?_, rfl, trivial⟩⟩
    · rw [fillUp_zero, rowC_length]
      simp [vC, cC_length]; exact .inr rfl
    · simp [cC_length]
    · simp [cC_length]
  rintro m ρ H ⟨k, hk, rfl, d, rfl⟩
  (conv => whnf); refine recA (fun hlt => ?_) (fun hlt => ?_)
  · simp [cC_length] at hlt
    obtain ⟨c, hcc, _, _⟩ := get_drop hlt
    have hw := rowC_get cs l i k c hcc
    have hlen : (vC (fillUp (rowC cs l i) zV k)).length = cs.length := by rw [vC_length, fillUp_length _ _ _ (by rw [rowC_length]; omega), rowC_length]
    conv => whnf
    refine And.intro (by omega) ?_
    (conv => whnf); refine recO (cC_at hcc) ?_
    conv => whnf
    refine ⟨_, At_spec F.warehousebase_At e2 l _ _, ?_⟩
    conv => whnf
    refine ⟨_, Cell_spec F.warehousebase_Cell c _ _, ?_⟩
    (conv => whnf); refine recT (by rw [hlen]; exact Nat.beq_refl _) ?_
    conv => whnf
    refine And.intro ⟨by omega, by omega⟩ ?_
    (conv => whnf); refine recT (by rw [hlen]; exact Nat.beq_refl _) ?_
    conv => whnf
    have hidx : (vC (fillUp (rowC cs l i) zV k))[0 + (k : Int).toNat]? = some (valC zV) := by
      rw [Nat.zero_add, Int.toNat_natCast]
      exact vC_at (fillUp_get _ _ _ (by rw [rowC_length]; omega))
    refine recO hidx ?_
    conv => whnf
    have e1 := wrapI ((k : Int) + 1) (by omega) (by omega)
    have e2 : IntKind.i64.wrap (i + k) = i + k := wrapI _ (by omega) (by omega)
    refine ⟨m - 1, by omega, Gp.keep rfl ?_ fun ρ1 h => ⟨k + 1, by omega, ?_, h⟩⟩
    · exact ⟨rfl, rfl, rfl, rfl, intEq e1, trivial⟩
    · rw [← fillUp_set _ _ _ _ hw, ← setEs_vC]
      show [AObj.arr 3 (setEs (vC (fillUp (rowC cs l i) zV k)) (0 + (k : Int).toNat) (valC (cellV c (atV l (IntKind.i64.wrap (i + k))))))] = _
      rw [e2, Nat.zero_add, Int.toNat_natCast]
  · simp [cC_length] at hlt
    have : k = cs.length := by omega
    subst this
    conv => whnf
    refine ⟨rfl, ?_⟩
    rw [← rowC_length cs l i, fillUp_all]

end Go.AW

namespace Go.AW
variable [Draws]
attribute [local irreducible] ACalls
theorem u8_eq (n : Int) : u8 n = n % 256 := by
  show IntKind.u8.wrap n = _
  simp [IntKind.wrap, IntKind.signed, IntKind.bits]

theorem num_w4 (x : Int) (h0 : 0 ≤ x) (h1 : x < 4294967296) : num (w4 x) = x := by
  simp only [num, w4, List.foldl_cons, List.foldl_nil, u8_eq]
  rw [Int.fdiv_eq_ediv_of_nonneg _ (by omega), Int.fdiv_eq_ediv_of_nonneg _ (by omega), Int.fdiv_eq_ediv_of_nonneg _ (by omega)]
  omega

theorem byt_u8 (n : Int) : 0 ≤ u8 n ∧ u8 n ≤ 255 := by rw [u8_eq]; omega

theorem byt_encV (v : V) : Byt (encV v) := by
  intro x hx
  unfold encV at hx
  rcases List.mem_cons.1 hx with rfl | hx
  · exact byt_u8 _
  · split at hx
    · rcases List.mem_singleton.1 hx with rfl; exact byt_u8 _
    split at hx
    · simp [w4] at hx; rcases hx with rfl | rfl | rfl | rfl <;> exact byt_u8 _
    split at hx
    · simp [w4] at hx; rcases hx with rfl | rfl | rfl | rfl <;> exact byt_u8 _
    split at hx
    · rcases List.mem_cons.1 hx with rfl | hx
      · exact byt_u8 _
      · obtain ⟨b, _, rfl⟩ := List.mem_map.1 hx
        have := b.toNat_lt
        omega
    · simp at hx

theorem byt_encB (rs : List V) : Byt (encB rs) := by
  intro x hx
  rcases List.mem_cons.1 hx with rfl | hx
  · exact byt_u8 _
  · obtain ⟨v, _, hv⟩ := List.mem_flatMap.1 hx
    exact byt_encV v x hv

theorem strOf_bytesI (s : ByteArray) : strOf (bytesI s) = s := by
  obtain ⟨⟨l⟩⟩ := s
  simp only [strOf, bytesI, List.map_map]
  congr
  rw [List.map_congr_left (g := id)]
  · simp
  · intro b _
    simp

theorem V.ext' {a b : V} (h1 : a.kind = b.kind) (h2 : a.num = b.num) (h3 : a.str = b.str) : a = b := by
  cases a; cases b; simp_all

theorem str_nil {s : ByteArray} (h : s.data.toList = []) : s = bs [] := by
  obtain ⟨⟨l⟩⟩ := s
  simp at h
  subst h; rfl

theorem decV_enc (v : V) (hv : validB v = true) (t : List Int) : decV (encV v ++ t) = (v, ((encV v).length : Int)) := by
  unfold validB at hv
  split at hv
  · rename_i hk
    simp at hv
    have hs := str_nil (show v.str.data.toList = [] by simp [hv.2])
    have e : encV v = [0] := by simp [encV, hk, u8_eq]
    rw [e]
    show decW ([0] ++ t) 0 _ = _
    rw [decW_0 (by simp)]
    rw [show v = ⟨0, 0, bs []⟩ from V.ext' hk hv.1 hs]; rfl
  split at hv
  · rename_i hk
    simp at hv
    have hs := str_nil (show v.str.data.toList = [] by simp [hv.2])
    have e : encV v = [1, v.num] := by
      have : u8 v.num = v.num := by rw [u8_eq]; omega
      simp [encV, hk, this, u8_eq]
    rw [e]
    show decW ([1, v.num] ++ t) 1 v.num = _
    rw [decW_1 (by simp)]
    rw [show v = ⟨1, v.num, bs []⟩ from V.ext' hk rfl hs]; rfl
  split at hv
  · rename_i hk
    simp at hv
    have hs := str_nil (show v.str.data.toList = [] by simp [hv.2])
    have e : encV v = 2 :: w4 (v.num + 1073741824) := by
      simp only [encV, hk]
      rw [if_neg (by decide), if_pos trivial, wrapI (v.num + 1073741824) (by omega) (by omega)]
      simp [u8_eq]
    rw [e]
    show decW ((2 :: w4 (v.num + 1073741824)) ++ t) 2 _ = _
    rw [decW_2 (by simp [w4])]
    have : (((2 :: w4 (v.num + 1073741824)) ++ t).take 5).drop 1 = w4 (v.num + 1073741824) := by simp [w4]
    rw [this, num_w4 _ (by omega) (by omega)]
    rw [show v = ⟨2, v.num, bs []⟩ from V.ext' hk rfl hs]
    simp [w4]
  split at hv
  · rename_i hk
    simp at hv
    have e : encV v = 3 :: (v.str.size : Int) :: bytesI v.str := by
      have : u8 (v.str.size : Int) = v.str.size := by rw [u8_eq]; omega
      simp only [encV, hk]
      rw [if_neg (by decide), if_neg (by decide), if_neg (by decide), if_pos trivial, this]
      simp [u8_eq]
    have hlen : (bytesI v.str).length = v.str.size := by simp [bytesI]
    rw [e]
    show decW ((3 :: (v.str.size : Int) :: bytesI v.str) ++ t) 3 (v.str.size : Int) = _
    rw [decW_3 (by simp) (by simp [hlen]; omega)]
    have : (((3 :: (v.str.size : Int) :: bytesI v.str) ++ t).take (2 + (v.str.size : Int)).toNat).drop 2 = bytesI v.str := by
      rw [show (2 + (v.str.size : Int)).toNat = v.str.size + 1 + 1 by omega]
      simp [← hlen]
    rw [this, strOf_bytesI]
    rw [show (⟨3, 0, v.str⟩ : V) = v from V.ext' hk.symm hv.1.symm rfl]
    simp [hlen]; omega
  split at hv
  · rename_i hk
    simp at hv
    have hs := str_nil (show v.str.data.toList = [] by simp [hv.2])
    have e : encV v = 4 :: w4 v.num := by
      simp only [encV, hk]
      rw [if_neg (by decide), if_neg (by decide), if_pos trivial]
      simp [u8_eq]
    rw [e]
    show decW ((4 :: w4 v.num) ++ t) 4 _ = _
    rw [decW_4 (by simp [w4])]
    have : (((4 :: w4 v.num) ++ t).take 5).drop 1 = w4 v.num := by simp [w4]
    rw [this, num_w4 _ (by omega) (by omega)]
    rw [show v = ⟨4, v.num, bs []⟩ from V.ext' hk rfl hs]
    simp [w4]
  · cases hv

theorem encV_pos (v : V) : 0 < (encV v).length := by simp [encV]

theorem decN_enc : ∀ (rs : List V) (t : List Int), (∀ v ∈ rs, validB v = true) → decN rs.length (rs.flatMap encV ++ t) = some (rs, t)
  | [], t, _ => rfl
  | v :: rs, t, h => by
    have hv := h v (by simp)
    have e : (v :: rs).flatMap encV ++ t = encV v ++ (rs.flatMap encV ++ t) := by simp
    rw [e, List.length_cons, decN_succ, decV_enc v hv]
    have := encV_pos v
    rw [if_neg (by rw [hv]; simp only [Bool.true_eq_false, or_false]; omega)]
    simp only [Int.toNat_natCast, List.drop_left]
    rw [decN_enc rs t fun w hw => h w (by simp [hw])]

theorem encB_prefix {rs ss : List V} (hr : rs.length ≤ 12) (hs : ss.length ≤ 12) (hrv : ∀ v ∈ rs, validB v = true) (hsv : ∀ v ∈ ss, validB v = true) {t : List Int} (h : encB ss = encB rs ++ t) : rs = ss := by
  have e1 : u8 (rs.length : Int) = rs.length := by rw [u8_eq]; omega
  have e2 : u8 (ss.length : Int) = ss.length := by rw [u8_eq]; omega
  simp only [encB, e1, e2, List.cons_append, List.cons.injEq] at h
  obtain ⟨h1, h2⟩ := h
  have hl : ss.length = rs.length := by omega
  have d1 := decN_enc rs t hrv
  have d2 := decN_enc ss [] hsv
  rw [List.append_nil, h2, hl, d1] at d2
  simp at d2
  exact d2.1

theorem rowsCmp_zero : ∀ (a b : List V), rowsCmp a b = 0 ↔ a = b
  | [], [] => by simp [rowsCmp]
  | [], _ :: _ => by simp [rowsCmp]
  | _ :: _, [] => by simp [rowsCmp]
  | x :: a, y :: b => by
    have hz := isCmp_val.zero x y
    rw [rowsCmp]
    by_cases h : valCmp x y = 0
    · rw [if_pos h, rowsCmp_zero a b, hz.1 h]; simp
    · rw [if_neg h]
      constructor
      · intro h2; exact absurd h2 h
      · intro h2; simp at h2; exact absurd (hz.2 h2.1) h

def u8L (l : List Int) : List UInt8 := l.map fun n => UInt8.ofNat n.toNat

theorem u8L_inj : ∀ {l m : List Int}, Byt l → Byt m → u8L l = u8L m → l = m
  | [], [], _, _, _ => rfl
  | [], _ :: _, _, _, h => by simp [u8L] at h
  | _ :: _, [], _, _, h => by simp [u8L] at h
  | x :: l, y :: m, hl, hm, h => by
    simp only [u8L, List.map_cons, List.cons.injEq] at h
    have hx := hl x (by simp)
    have hy := hm y (by simp)
    have h1 := congrArg UInt8.toNat h.1
    simp only [UInt8.toNat_ofNat'] at h1
    rw [Nat.mod_eq_of_lt (by omega), Nat.mod_eq_of_lt (by omega)] at h1
    rw [show x = y by omega, u8L_inj (fun z hz => hl z (by simp [hz])) (fun z hz => hm z (by simp [hz])) h.2]

end Go.AW

namespace Go.AW
variable [Draws]
attribute [local irreducible] ACalls
def pickL {α : Type} (z : α) (l : List α) (is : List Int) : List α := is.map fun i => if 0 ≤ i ∧ i < (l.length : Int) then l.getD i.toNat z else z

theorem pickL_length {α : Type} (z : α) (l : List α) (is : List Int) : (pickL z l is).length = is.length := by simp [pickL]

theorem pickL_in {α : Type} (z : α) (l : List α) (is : List Int) (k : Nat) (i : Int) (x : α) (h : is[k]? = some i) (h0 : 0 ≤ i) (hx : l[i.toNat]? = some x) : (pickL z l is)[k]? = some x := by
  have hi := (List.getElem?_eq_some_iff.1 hx).1
  rw [pickL, List.getElem?_map, h, Option.map_some, if_pos ⟨h0, by omega⟩, List.getD_eq_getElem?_getD, hx]; rfl

theorem pickL_out {α : Type} (z : α) (l : List α) (is : List Int) (k : Nat) (i : Int) (h : is[k]? = some i) (h0 : ¬ (0 ≤ i ∧ i < (l.length : Int))) : (pickL z l is)[k]? = some z := by
  rw [pickL, List.getElem?_map, h, Option.map_some, if_neg h0]

theorem fillUp_skip {α : Type} (W : List α) (z : α) (k : Nat) (h : W[k]? = some z) : fillUp W z k = fillUp W z (k + 1) := by
  rw [← fillUp_set W z k z h]
  have hg := fillUp_get W z k (List.getElem?_eq_some_iff.1 h).1
  obtain ⟨hl, he⟩ := List.getElem?_eq_some_iff.1 hg
  conv => lhs; rw [← List.set_getElem_self hl]
  rw [he]

theorem iC_at {l : List Int} {k : Nat} {x : Int} (h : l[k]? = some x) : (iC l)[k]? = some [.int .i64 x] := by simp [iC, h]

set_option maxRecDepth 20000 in
theorem pick_Value_raw {P : Program} (F : F_schema_pick_Value P) (e1 e2 : Bool) (r : List V) (is : List Int) (hr : r.length ≤ 1000000) (hl : is.length ≤ 1000000) :
    ACalls P F.id [.list e1 3 (vC r), .list e2 1 (iC is)] [] (fun q H' => q = .sl 0 is.length 0 is.length ∧ H' = [.arr 3 (vC (pickL zV r is))]) := by
  refine acalls_of_body F.has ?_
  conv => whnf
  refine And.intro ⟨by omega, by omega, by rw [iC_length]; show (is.length : Int) * 32 ≤ 1099511627776; omega, by rw [iC_length]; show (is.length : Int) ≤ 1099511627776; omega⟩ ?_
  conv => whnf
  refine ⟨fun m ρ H => ∃ k : Nat, k + m = is.length ∧ H = [.arr 3 (vC (fillUp (pickL zV r is) zV k))] ∧ Sv 35 [(0, .list e1 3 (vC r)), (5, .sl 0 is.length 0 is.length), (11, .list e2 1 (iC is)), (12, .int .i64 is.length), (13, .int .i64 k)] ρ, is.length, [], ?_, ?_⟩
  · refine ⟨0, by omega, ?_, Sv.intro rfl ⟨rfl, slEq ?_ ?_, rfl, intEq (by rw [iC_length]), rfl, trivial⟩⟩
    · rw [fillUp_zero, pickL_length]
      simp [vC, iC_length]; exact .inr rfl
    · simp [iC_length]
    · simp [iC_length]
  rintro m ρ H ⟨k, hk, rfl, d, rfl⟩
  (conv => whnf); refine recA (fun hlt => ?_) (fun hlt => ?_)
  · simp at hlt
    obtain ⟨i, hi, _, _⟩ := get_drop hlt
    have hlen : (vC (fillUp (pickL zV r is) zV k)).length = is.length := by rw [vC_length, fillUp_length _ _ _ (by rw [pickL_length]; omega), pickL_length]
    have e1 := wrapI ((k : Int) + 1) (by omega) (by omega)
    conv => whnf
    refine And.intro (by omega) ?_
    (conv => whnf); refine recO (iC_at hi) ?_
    conv => whnf
    refine recA (fun h0 => ?_) (fun h0 => ?_)
    · replace h0 : decide (i ≥ 0) = true := h0
      simp at h0
      (conv => whnf); refine recA (fun h1 => ?_) (fun h1 => ?_)
      · replace h1 : decide (i < ((vC r).length : Int)) = true := h1
        simp [vC_length] at h1
        obtain ⟨x, hx, _, _⟩ := get_drop (l := r) (k := i.toNat) (by omega)
        have hw := pickL_in zV r is k i x hi h0 hx
        conv => whnf
        refine And.intro h0 ?_
        (conv => whnf); refine recO (vC_at hx) ?_
        (conv => whnf); refine recT (by rw [hlen]; exact Nat.beq_refl _) ?_
        conv => whnf
        refine And.intro ⟨by omega, by omega⟩ ?_
        (conv => whnf); refine recT (by rw [hlen]; exact Nat.beq_refl _) ?_
        conv => whnf
        have hidx : (vC (fillUp (pickL zV r is) zV k))[0 + (k : Int).toNat]? = some (valC zV) := by
          rw [Nat.zero_add, Int.toNat_natCast]
          exact vC_at (fillUp_get _ _ _ (by rw [pickL_length]; omega))
        refine recO hidx ?_
        conv => whnf
        refine ⟨m - 1, by omega, Gp.keep rfl ?_ fun ρ1 h => ⟨k + 1, by omega, ?_, h⟩⟩
        · exact ⟨rfl, rfl, rfl, rfl, intEq e1, trivial⟩
        · rw [← fillUp_set _ _ _ _ hw, ← setEs_vC]
          show [AObj.arr 3 (setEs (vC (fillUp (pickL zV r is) zV k)) (0 + (k : Int).toNat) (valC x))] = _
          rw [Nat.zero_add, Int.toNat_natCast]
      · replace h1 : decide (i < ((vC r).length : Int)) = false := h1
        simp [vC_length] at h1
        conv => whnf
        refine ⟨m - 1, by omega, Gp.keep rfl ?_ fun ρ1 h => ⟨k + 1, by omega, ?_, h⟩⟩
        · exact ⟨rfl, rfl, rfl, rfl, intEq e1, trivial⟩
        · rw [← fillUp_skip _ _ _ (pickL_out zV r is k i hi (by omega))]
    · replace h0 : decide (i ≥ 0) = false := h0
      simp at h0
      conv => whnf
      refine ⟨m - 1, by omega, Gp.keep rfl ?_ fun ρ1 h => ⟨k + 1, by omega, ?_, h⟩⟩
      · exact ⟨rfl, rfl, rfl, rfl, intEq e1, trivial⟩
      · rw [← fillUp_skip _ _ _ (pickL_out zV r is k i hi (by omega))]
  · simp at hlt
    have : k = is.length := by omega
    subst this
    conv => whnf
    refine ⟨rfl, ?_⟩
    rw [← pickL_length zV r is, fillUp_all]

theorem pick_Value_spec {P : Program} (F : F_schema_pick_Value P) (e1 e2 : Bool) (r : List V) (is : List Int) (hr : r.length ≤ 1000000) (hl : is.length ≤ 1000000) (H : List AObj) :
    ACalls P F.id [.list e1 3 (vC r), .list e2 1 (iC is)] H (fun q H' => q = .list false 3 (vC (pickL zV r is)) ∧ H' = H) :=
  ACalls.frz1 (by simp [AVal.closed, AVal.isPure]) (pick_Value_raw F e1 e2 r is hr hl) (by rw [vC_length, pickL_length]) (pureEs_vC _)

theorem schema_Pick_spec {P : Program} (F : F_schema_Pick P) (e1 e2 : Bool) (r : List V) (is : List Int) (hr : r.length ≤ 1000000) (hl : is.length ≤ 1000000) (H : List AObj) :
    ACalls P F.id [.list e1 3 (vC r), .list e2 1 (iC is)] H (fun q H' => q = .list false 3 (vC (pickL zV r is)) ∧ H' = H) := by
  refine ACalls.pure (by simp [AVal.closed, AVal.isPure]) (acalls_of_body F.has ?_)
  (conv => whnf); refine ACalls.use (pick_Value_spec F.schema_pick_Value e1 e2 r is hr hl _) ?_
  conv => whnf
  exact .closed _ rfl

end Go.AW

namespace Go.AW
variable [Draws]
attribute [local irreducible] ACalls
theorem pureEs_iC (l : List Int) : pureEs (iC l) = true := by simp [pureEs, iC, AVal.isPure]

theorem Ghost.one {n : Nat} {live : List (Nat × AVal)} {ρ : List AVal} {H : List AObj} {I : List AVal → List AObj → Prop} (id : Nat) (sz : Nat) (es : List (List AVal)) (ho : H[id]? = .some (.arr sz es)) (hp : pureEs es = true) (hl : ρ.length = n) (h : SvPub H [id] ρ live) (hI : ∀ ρ1, Sv n live ρ1 → I ρ1 [.arr sz es]) : Ghost [] ρ H I :=
  ⟨Gp.one id sz es ho hp hl h hI⟩

end Go.AW

namespace Go.AW
variable [Draws]
attribute [local irreducible] ACalls
def eqS (s t : ByteArray) : Bool := s.data.toList == t.data.toList

theorem idxOf_any {α : Type} (p : α → Bool) : ∀ (l : List α) (i : Int), 0 ≤ i → (idxOf p l i ≥ 0 ↔ l.any p = true)
  | [], i, h => by simp [idxOf]
  | c :: cs, i, h => by
    rw [idxOf]
    split
    · simp_all
    · rw [idxOf_any p cs (i + 1) (by omega)]; simp_all

end Go.AW

namespace Go.AW
variable [Draws]
attribute [local irreducible] ACalls
structure Ent where
  row : List V
  cnt : Int

def entC (e : Ent) : List AVal := [.list false 3 (vC e.row), .int .i64 e.cnt]

def eC (l : List Ent) : List (List AVal) := l.map entC

theorem eC_length (l : List Ent) : (eC l).length = l.length := List.length_map ..

theorem eC_append (a b : List Ent) : eC (a ++ b) = eC a ++ eC b := List.map_append

theorem pureEs_eC (l : List Ent) : pureEs (eC l) = true := by simp [pureEs, eC, entC, AVal.isPure]

theorem eC_at {l : List Ent} {k : Nat} {x : Ent} (h : l[k]? = some x) : (eC l)[k]? = some (entC x) := by
  rw [eC, List.getElem?_map, h]; rfl

def fitB (e : Ent) : Int := if 12 < e.row.length ∨ e.cnt < -65536 ∨ 65536 < e.cnt then 2 else if e.row.all validB then 0 else 8

theorem fitB_zero (e : Ent) (h : fitB e = 0) : e.row.length ≤ 12 ∧ -65536 ≤ e.cnt ∧ e.cnt ≤ 65536 ∧ ∀ v ∈ e.row, validB v = true := by
  unfold fitB at h
  split at h
  · cases h
  · split at h
    · rename_i h1 h2
      exact ⟨by omega, by omega, by omega, by simpa using h2⟩
    · cases h

set_option maxRecDepth 20000 in
theorem formed_spec {P : Program} (F : F_bag_formed P) (x : Ent) (H : List AObj) :
    ACalls P F.id [.agg (entC x)] H (fun r H' => r = .int .i64 (fitB x) ∧ H' = H) := by
  refine ACalls.pure (by simp [AVal.closed, entC, AVal.isPure]) (acalls_of_body F.has ?_)
  (conv => whnf); refine recA (fun h0 => ?_) (fun h0 => ?_)
  · simp [vC_length] at h0
    conv => whnf
    exact pubI (by rw [fitB, if_pos (by omega)])
  simp [vC_length] at h0
  (conv => whnf); refine recA (fun h1 => ?_) (fun h1 => ?_)
  · simp at h1
    conv => whnf
    exact pubI (by rw [fitB, if_pos (by omega)])
  simp at h1
  (conv => whnf); refine recA (fun h2 => ?_) (fun h2 => ?_)
  · simp at h2
    conv => whnf
    exact pubI (by rw [fitB, if_pos (by omega)])
  simp at h2
  have hR : fitB x = if x.row.all validB then 0 else 8 := by rw [fitB, if_neg (by omega)]
  conv => whnf
  refine ⟨fun m ρ H1 => ∃ k : Nat, k + m = x.row.length ∧ (x.row.drop k).all validB = x.row.all validB ∧ H1 = [.arr 2 [entC x]] ∧
    Sv 30 [(20, .list false 3 (vC x.row)), (21, .int .i64 x.row.length), (22, .int .i64 k)] ρ, x.row.length, [], ?_, ?_⟩
  · exact ⟨0, by omega, rfl, rfl, Sv.intro rfl ⟨rfl, intEq (by rw [vC_length]), rfl, trivial⟩⟩
  rintro m ρ H1 ⟨k, hk, hr, rfl, d, rfl⟩
  (conv => whnf); refine recA (fun hlt => ?_) (fun hlt => ?_)
  · simp at hlt
    obtain ⟨v, hv, hd, _⟩ := get_drop hlt
    rw [hd, List.all_cons] at hr
    conv => whnf
    refine And.intro (by omega) ?_
    (conv => whnf); refine recO (vC_at hv) ?_
    conv => whnf
    refine ACalls.use (value_Valid_spec F.value_Valid v _) ?_
    (conv => whnf); refine recA (fun h => ?_) (fun hf => ?_)
    · replace h : (!(validB v)) = true := h
      conv => whnf
      exact pubI (by rw [hR, ← hr, if_neg (by simp_all)])
    · replace hf : (!(validB v)) = false := hf
      conv => whnf
      refine ⟨m - 1, by omega, Gp.one 0 2 [entC x] rfl (by simp [pureEs, entC, AVal.isPure]) rfl ?_ fun ρ1 h => ⟨k + 1, by omega, ?_, rfl, h⟩⟩
      · exact ⟨.closed _ rfl, .closed _ rfl, pub_int (wrapI ((k : Int) + 1) (by omega) (by omega)), trivial⟩
      · rw [← hr]; simp_all
  · simp at hlt
    conv => whnf
    rw [List.drop_eq_nil_of_le hlt] at hr
    exact pubI (by rw [hR, ← hr]; rfl)

theorem small_spec {P : Program} (F : F_warehouseref6_small P) (n : Int) (H : List AObj) :
    ACalls P F.id [.int .i64 n] H (fun r H' => r = .bool (decide (-65536 ≤ n) && decide (n ≤ 65536)) ∧ H' = H) := by
  refine ACalls.pure rfl (acalls_of_body F.has ?_)
  (conv => whnf); refine recA (fun h => ?_) (fun h => ?_)
  · simp at h
    conv => whnf
    exact pubB (by simp [h])
  · simp at h
    conv => whnf
    exact pubB (by simp; omega)

set_option maxRecDepth 20000 in
theorem fits_spec {P : Program} (F : F_warehouseref6_fits P) (x : Ent) (H : List AObj) :
    ACalls P F.id [.agg (entC x)] H (fun r H' => r = .int .i64 (fitB x) ∧ H' = H) := by
  refine ACalls.pure (by simp [AVal.closed, entC, AVal.isPure]) (acalls_of_body F.has ?_)
  (conv => whnf); refine recA (fun h0 => ?_) (fun h0 => ?_)
  · simp [vC_length] at h0
    conv => whnf
    exact pubI (by rw [fitB, if_pos (by omega)])
  simp [vC_length] at h0
  (conv => whnf); refine ACalls.use (small_spec F.warehouseref6_small _ _) ?_
  (conv => whnf); refine recA (fun h1 => ?_) (fun h1 => ?_)
  · replace h1 : (!(decide (-65536 ≤ x.cnt) && decide (x.cnt ≤ 65536))) = true := h1
    simp at h1
    conv => whnf
    exact pubI (by rw [fitB, if_pos (by omega)])
  replace h1 : (!(decide (-65536 ≤ x.cnt) && decide (x.cnt ≤ 65536))) = false := h1
  simp at h1
  have hR : fitB x = if x.row.all validB then 0 else 8 := by rw [fitB, if_neg (by omega)]
  conv => whnf
  refine ⟨fun m ρ H1 => ∃ k : Nat, k + m = x.row.length ∧ (x.row.drop k).all validB = x.row.all validB ∧ H1 = [.arr 2 [entC x]] ∧
    Sv 28 [(1, .ptr 0 1 0 0), (3, .int .i64 k)] ρ, x.row.length, [], ?_, ?_⟩
  · exact ⟨0, by omega, rfl, rfl, Sv.intro rfl ⟨rfl, rfl, trivial⟩⟩
  rintro m ρ H1 ⟨k, hk, hr, rfl, d, rfl⟩
  (conv => whnf); refine recA (fun hlt => ?_) (fun hlt => ?_)
  · simp [vC_length] at hlt
    obtain ⟨v, hv, hd, _⟩ := get_drop hlt
    rw [hd, List.all_cons] at hr
    conv => whnf
    refine And.intro (by omega) ?_
    (conv => whnf); refine recO (vC_at hv) ?_
    conv => whnf
    refine ACalls.use (ref1_Valid_spec F.warehouseref1_Valid v _) ?_
    (conv => whnf); refine recA (fun h => ?_) (fun hf => ?_)
    · replace h : (!(validB v)) = true := h
      conv => whnf
      exact pubI (by rw [hR, ← hr, if_neg (by simp_all)])
    · replace hf : (!(validB v)) = false := hf
      conv => whnf
      refine ⟨m - 1, by omega, Gp.keep rfl ?_ fun ρ1 h => ⟨k + 1, by omega, ?_, rfl, h⟩⟩
      · exact ⟨rfl, intEq (wrapI ((k : Int) + 1) (by omega) (by omega)), trivial⟩
      · rw [← hr]; simp_all
  · simp [vC_length] at hlt
    conv => whnf
    rw [List.drop_eq_nil_of_le hlt] at hr
    exact pubI (by rw [hR, ← hr]; rfl)

def notB : Option (List V) → List V → Bool
  | some q, r => decide (rowsCmp q r ≥ 0)
  | none, _ => false

def bvGo : List Ent → Option (List V) → Int
  | [], _ => 0
  | e :: es, p => if fitB e ≠ 0 then fitB e else if e.cnt = 0 then 8 else if notB p e.row = true then 14 else bvGo es (some e.row)

def bagB (b : List Ent) : Int := if 4096 < b.length then 2 else bvGo b none

def prevR (b : List Ent) : Nat → Option (List V)
  | 0 => none
  | k + 1 => (b[k]?).map Ent.row

theorem prevR_succ {b : List Ent} {k : Nat} {x : Ent} (h : b[k]? = some x) : prevR b (k + 1) = some x.row := by rw [prevR, h]; rfl

set_option maxRecDepth 20000 in
theorem bag_Validate_spec {P : Program} (F : F_bag_Validate P) (ex : Bool) (b : List Ent) (H : List AObj) :
    ACalls P F.id [.list ex 2 (eC b)] H (fun r H' => r = .int .i64 (bagB b) ∧ H' = H) := by
  refine ACalls.pure (by simp [AVal.closed, AVal.isPure]) (acalls_of_body F.has ?_)
  (conv => whnf); refine recA (fun h0 => ?_) (fun h0 => ?_)
  · simp [eC_length] at h0
    conv => whnf
    exact pubI (by rw [bagB, if_pos (by omega)])
  simp [eC_length] at h0
  have hR : bagB b = bvGo b none := by rw [bagB, if_neg (by omega)]
  conv => whnf
  refine ⟨fun m ρ H1 => ∃ k : Nat, k + m = b.length ∧ bvGo (b.drop k) (prevR b k) = bagB b ∧ (∀ q, prevR b k = some q → q.length ≤ 12) ∧ H1 = [] ∧
    Sv 39 [(0, .list ex 2 (eC b)), (9, .list ex 2 (eC b)), (10, .int .i64 b.length), (11, .int .i64 k)] ρ, b.length, [], ?_, ?_⟩
  · exact ⟨0, by omega, hR.symm, fun q h => (by cases h), rfl, Sv.intro rfl ⟨rfl, rfl, intEq (by rw [eC_length]), rfl, trivial⟩⟩
  rintro m ρ H1 ⟨k, hk, hr, hq, rfl, d, rfl⟩
  (conv => whnf); refine recA (fun hlt => ?_) (fun hlt => ?_)
  · simp at hlt
    obtain ⟨x, hx, hd, _⟩ := get_drop hlt
    rw [hd, bvGo] at hr
    have ew := wrapI ((k : Int) + 1) (by omega) (by omega)
    conv => whnf
    refine And.intro (by omega) ?_
    (conv => whnf); refine recO (eC_at hx) ?_
    conv => whnf
    refine ACalls.use (formed_spec F.bag_formed x _) ?_
    (conv => whnf); refine recA (fun h => ?_) (fun h => ?_)
    · replace h : (!(fitB x == 0)) = true := h
      simp at h
      conv => whnf
      exact pubI (by rw [← hr, if_pos h])
    replace h : (!(fitB x == 0)) = false := h
    simp at h
    obtain ⟨g1, g2, g3, g4⟩ := fitB_zero x h
    rw [if_neg (by simp [h])] at hr
    (conv => whnf); refine recA (fun hz => ?_) (fun hz => ?_)
    · replace hz : (x.cnt == 0) = true := hz
      simp at hz
      conv => whnf
      exact pubI (by rw [← hr, if_pos hz])
    replace hz : (x.cnt == 0) = false := hz
    simp at hz
    rw [if_neg hz] at hr
    (conv => whnf); refine recA (fun hp => ?_) (fun hp => ?_)
    · replace hp : decide ((k : Int) > 0) = true := hp
      simp at hp
      obtain ⟨j, rfl⟩ : ∃ j, k = j + 1 := ⟨k - 1, by omega⟩
      obtain ⟨y, hy, _, _⟩ := get_drop (l := b) (k := j) (by omega)
      have ej := wrapI (((j + 1 : Nat) : Int) - 1) (by omega) (by omega)
      have hy2 : (eC b)[(IntKind.i64.wrap (((j + 1 : Nat) : Int) - 1)).toNat]? = some (entC y) := by
        rw [ej, show ((((j + 1 : Nat) : Int) - 1).toNat) = j by omega]; exact eC_at hy
      rw [prevR_succ hy] at hq hr
      have hql := hq _ rfl
      (conv => whnf); refine And.intro (by rw [ej]; omega) ?_
      (conv => whnf); refine recO hy2 ?_
      conv => whnf
      refine ⟨_, value_CompareRows_spec F.value_CompareRows false false y.row x.row (by omega) _, ?_⟩
      (conv => whnf); refine recA (fun hc => ?_) (fun hc => ?_)
      · replace hc : decide (rowsCmp y.row x.row ≥ 0) = true := hc
        conv => whnf
        exact pubI (by rw [← hr, if_pos (show notB (some y.row) x.row = true from hc)])
      · replace hc : decide (rowsCmp y.row x.row ≥ 0) = false := hc
        conv => whnf
        rw [if_neg (by rw [show notB (some y.row) x.row = false from hc]; simp)] at hr
        refine ⟨m - 1, by omega, Gp.none rfl ?_ fun ρ1 h => ⟨j + 1 + 1, by omega, ?_, ?_, rfl, h⟩⟩
        · exact ⟨.closed _ rfl, .closed _ rfl, .closed _ rfl, pub_int ew, trivial⟩
        · rw [prevR_succ hx]; exact hr
        · rw [prevR_succ hx]; intro q hq2; cases hq2; exact g1
    · replace hp : decide ((k : Int) > 0) = false := hp
      simp at hp
      subst hp
      conv => whnf
      rw [if_neg (by simp [prevR, notB])] at hr
      refine ⟨m - 1, by omega, Gp.none rfl ?_ fun ρ1 h => ⟨0 + 1, by omega, ?_, ?_, rfl, h⟩⟩
      · exact ⟨.closed _ rfl, .closed _ rfl, .closed _ rfl, pub_int ew, trivial⟩
      · rw [prevR_succ hx]; exact hr
      · rw [prevR_succ hx]; intro q hq2; cases hq2; exact g1
  · simp at hlt
    conv => whnf
    rw [List.drop_eq_nil_of_le hlt] at hr
    exact pubI hr

end Go.AW

namespace Go.AW
variable [Draws]
theorem ACalls.weakR {P : Program} {f : FuncId} {args : List AVal} {H : List AObj} {Q Q' : AVal → List AObj → Prop} (h : ACalls P f args H Q) (hq : ∀ r H', Q r H' → ∃ r', Wk r r' ∧ Q' r' H') : ACalls P f args H Q' := by
  intro C τ w vs hw hl hr
  have h := h C τ w vs hw hl hr
  unfold CallsX at h ⊢
  split at h
  · exact Calls.mono h fun e w' ⟨v, r, C', τ', H', h1, h2, h3, h4⟩ => by
      obtain ⟨r', hk, hq'⟩ := hq _ _ h2
      exact ⟨v, r', C', τ', H', h1, hq', h3.weak hk, h4⟩
  · obtain ⟨v, r, C', τ', H', h1, h2, h3, h4⟩ := h
    obtain ⟨r', hk, hq'⟩ := hq _ _ h2
    exact ⟨v, r', C', τ', H', h1, hq', h3.weak hk, h4⟩
  · exact h

end Go.AW

namespace Go.AW
variable [Draws]
attribute [local irreducible] ACalls
set_option maxRecDepth 20000 in
theorem CloneV_spec {P : Program} (F : F_slices_Clone_LValue_Value P) (ex : Bool) (cs : List V) (hl : cs.length ≤ 1000000) (H : List AObj) :
    ACalls P F.id [.list ex 3 (vC cs)] H (fun r H' => r = .list false 3 (vC cs) ∧ H' = H) := by
  have h0 : ACalls P F.id [.list ex 3 (vC cs)] [] (fun r H1 => ∃ r', Pub H1 0 [] r r' ∧ ((r' = .nil ∧ cs = []) ∨ r' = .list false 3 (vC cs))) := by
    refine acalls_of_body F.has ?_
    conv => whnf
    refine And.intro (fun h => ?_) ?_
    · conv => whnf
      exact ⟨.nil, .closed _ rfl, .inl ⟨rfl, by simpa [vC] using h⟩⟩
    · conv => whnf
      refine And.intro ⟨roomMul (by simp [vC_length]; omega) (by omega), roomB_le (by simp [vC_length]; omega), .inr rfl⟩ ?_
      conv => whnf
      have key : List.replicate 0 [AVal.int .i64 0, .int .i64 0, .str (bs [])] ++ vC cs = vC cs := by simp
      refine ⟨_, pubF (es := vC cs) ?_ ?_ ?_ (pureEs_vC _), .inr rfl⟩
      · rw [← key]; rfl
      · exact congrArg List.length key
      · exact congrArg List.length key
  refine ACalls.weakR (ACalls.lift0 (by simp [AVal.closed, AVal.isPure]) h0) ?_
  rintro r H' ⟨h, rfl⟩
  rcases h with ⟨rfl, rfl⟩ | rfl
  · exact ⟨_, .nil false 3, rfl, rfl⟩
  · exact ⟨_, .refl _, rfl, rfl⟩

def smallB (n : Int) : Bool := decide (-65536 ≤ n) && decide (n ≤ 65536)

set_option maxRecDepth 20000 in
theorem done_spec {P : Program} (F : F_bag_done P) (O : List Ent) :
    ACalls P F.id [.sl 0 O.length 0 O.length] [.arr 2 (eC O)]
      (fun r H' => H' = [.arr 2 (eC O)] ∧ ((4096 < O.length ∧ r = .tuple [.nil, .int .i64 2]) ∨ (O.length ≤ 4096 ∧ r = .tuple [.sl 0 O.length 0 O.length, .int .i64 0]))) := by
  refine acalls_of_body F.has ?_
  (conv => whnf); refine recT (by rw [eC_length]; exact Nat.beq_refl _) ?_
  (conv => whnf); refine recA (fun h => ?_) (fun h => ?_)
  · simp at h
    conv => whnf
    exact ⟨rfl, .inl ⟨by omega, rfl⟩⟩
  · simp at h
    conv => whnf
    exact ⟨rfl, .inr ⟨by omega, rfl⟩⟩

def mrg : List Ent → List Ent → List Ent
  | [], b => b
  | x :: a, [] => x :: a
  | x :: a, y :: b => if rowsCmp x.row y.row < 0 then x :: mrg a (y :: b) else if 0 < rowsCmp x.row y.row then y :: mrg (x :: a) b else ⟨x.row, x.cnt + y.cnt⟩ :: mrg a b
termination_by a b => a.length + b.length

theorem mrg_nil (b : List Ent) : mrg [] b = b := by rw [mrg]

theorem mrg_nil2 (a : List Ent) : mrg a [] = a := by
  cases a with
  | nil => rw [mrg]
  | cons x a => rw [mrg]

theorem mrg_cons (x y : Ent) (a b : List Ent) : mrg (x :: a) (y :: b) = if rowsCmp x.row y.row < 0 then x :: mrg a (y :: b) else if 0 < rowsCmp x.row y.row then y :: mrg (x :: a) b else ⟨x.row, x.cnt + y.cnt⟩ :: mrg a b := by rw [mrg]

def nzB (e : Ent) : Bool := !(e.cnt == 0)

def resR (l : List Ent) : AVal :=
  if (l.all fun e => smallB e.cnt) = true ∧ (l.filter nzB).length ≤ 4096 then .tuple [.list false 2 (eC (l.filter nzB)), .int .i64 0] else .tuple [.nil, .int .i64 2]

def EntOk (e : Ent) : Prop := e.row.length ≤ 12 ∧ -65536 ≤ e.cnt ∧ e.cnt ≤ 65536

theorem resR_bad (l : List Ent) (h : (l.all fun e => smallB e.cnt) = false) : resR l = .tuple [.nil, .int .i64 2] := by
  rw [resR, if_neg (by simp [h])]

theorem mrgA {a b a1 : List Ent} {x : Ent} (ha : a = x :: a1) (h : b = [] ∨ ∃ y b1, b = y :: b1 ∧ rowsCmp x.row y.row < 0) : mrg a b = x :: mrg a1 b := by
  subst ha
  rcases h with rfl | ⟨y, b1, rfl, h⟩
  · rw [mrg_nil2, mrg_nil2]
  · rw [mrg_cons, if_pos h]

theorem mrgB {a b b1 : List Ent} {y : Ent} (hb : b = y :: b1) (h : a = [] ∨ ∃ x a1, a = x :: a1 ∧ 0 < rowsCmp x.row y.row) : mrg a b = y :: mrg a b1 := by
  subst hb
  rcases h with rfl | ⟨x, a1, rfl, h⟩
  · rw [mrg_nil, mrg_nil]
  · rw [mrg_cons, if_neg (by omega), if_pos h]

theorem mrgC {a b a1 b1 : List Ent} {x y : Ent} (ha : a = x :: a1) (hb : b = y :: b1) (h : rowsCmp x.row y.row = 0) : mrg a b = ⟨x.row, x.cnt + y.cnt⟩ :: mrg a1 b1 := by
  subst ha hb
  rw [mrg_cons, if_neg (by omega), if_neg (by omega)]

theorem tailE (es : List Ent) : List.drop (1 : Int).toNat (List.take (eC es).length (eC es)) = eC (es.drop 1) := by
  rw [List.take_length]; simp [eC]

theorem pubL {H1 : List AObj} {n : Nat} {ids : List Nat} {f : Bool} {sz : Nat} {X Y : List (List AVal)} (h : X = Y) : Pub H1 n ids (.list f sz X) (.list f sz Y) := by subst h; exact .closed _ rfl

end Go.AW

namespace Go.AW
variable [Draws]
attribute [local irreducible] ACalls
theorem mrg_length : ∀ (a b : List Ent), (mrg a b).length ≤ a.length + b.length
  | [], b => by rw [mrg_nil]; omega
  | x :: a, [] => by rw [mrg_nil2]; omega
  | x :: a, y :: b => by
    rw [mrg_cons]
    have h1 := mrg_length a (y :: b)
    have h2 := mrg_length (x :: a) b
    have h3 := mrg_length a b
    split
    · simp at h1 ⊢; omega
    split
    · simp at h2 ⊢; omega
    · simp; omega
termination_by a b => a.length + b.length

end Go.AW

namespace Go.AW
variable [Draws]
attribute [local irreducible] ACalls
theorem obPush (O : List Ent) (row : List V) (c : Int) (n : Nat) (H : List AObj) (h1 : H[1]? = some (.arr 3 (vC row))) (hn : n = row.length) :
    ObP H [0] (.arr 2 (eC O ++ [[.sl 1 n 0 n, .int .i64 c]])) (.arr 2 (eC (O ++ [⟨row, c⟩]))) := by
  have hp : Pub H 0 [0] (.sl 1 n 0 n) (.list false 3 (vC row)) := by
    have h := Pub.frz (n := 0) (ids := [0]) 1 (vC row).length 0 (vC row).length 3 (vC row) h1 rfl (pureEs_vC _) (by simp)
    rw [List.drop_zero, List.take_length, vC_length, ← hn] at h
    exact h
  have hcell : ∀ (e : Ent) (j : Nat) (d d1 : AVal), (entC e)[j]? = some d → (entC e)[j]? = some d1 → Pub H 0 [0] d d1 ∧ d1.isCell = true := by
    intro e j d d1 h2 h3
    rcases j with _ | _ | j
    · cases h2; cases h3; exact ⟨.closed _ rfl, rfl⟩
    · cases h2; cases h3; exact ⟨.closed _ rfl, rfl⟩
    · simp [entC] at h2
  have hi : ∀ (i : Nat) (e e1 : List AVal), (eC O ++ [[.sl 1 n 0 n, .int .i64 c]])[i]? = some e → (eC (O ++ [⟨row, c⟩]))[i]? = some e1 →
      (∃ x : Ent, e = entC x ∧ e1 = entC x) ∨ (e = [.sl 1 n 0 n, .int .i64 c] ∧ e1 = entC ⟨row, c⟩) := by
    intro i e e1 h2 h3
    rw [eC_append] at h3
    by_cases hlt : i < (eC O).length
    · rw [List.getElem?_append_left hlt] at h2 h3
      rw [eC, List.getElem?_map] at h2 h3
      rcases hO : O[i]? with _ | x
      · rw [hO] at h2; cases h2
      · rw [hO] at h2 h3
        cases h2; cases h3
        exact .inl ⟨x, rfl, rfl⟩
    · rw [List.getElem?_append_right (by omega)] at h2 h3
      rcases hk : i - (eC O).length with _ | k
      · rw [hk] at h2 h3
        simp at h2; simp [eC] at h3
        exact .inr ⟨h2.symm, h3.symm⟩
      · rw [hk] at h2; simp at h2
  refine .map 2 _ _ (by simp [eC]) (fun i e e1 h2 h3 => ?_) (fun i j e e1 d d1 h2 h3 h4 h5 => ?_)
  · rcases hi i e e1 h2 h3 with ⟨x, rfl, rfl⟩ | ⟨rfl, rfl⟩ <;> rfl
  · rcases hi i e e1 h2 h3 with ⟨x, rfl, rfl⟩ | ⟨rfl, rfl⟩
    · exact hcell x j d d1 h4 h5
    · rcases j with _ | _ | j
      · cases h4; cases h5; exact ⟨hp, rfl⟩
      · cases h4; cases h5; exact ⟨.closed _ rfl, rfl⟩
      · simp at h4

theorem filter_le_of_prefix (pre l : List Ent) (h : ∃ t, l = pre ++ t) : (pre.filter nzB).length ≤ (l.filter nzB).length := by
  obtain ⟨t, rfl⟩ := h
  rw [List.filter_append, List.length_append]; omega

set_option maxRecDepth 20000 in
theorem ref6_result_spec {P : Program} (F : F_warehouseref6_result P) (ex : Bool) (l : List Ent) (hl : l.length ≤ 100000) (hr : ∀ e ∈ l, e.row.length ≤ 1000) (H : List AObj) :
    ACalls P F.id [.list ex 2 (eC l)] H (fun r H' => r = resR l ∧ H' = H) := by
  refine ACalls.pure (by simp [AVal.closed, AVal.isPure]) (acalls_of_body F.has ?_)
  conv => whnf
  refine ⟨fun m ρ H => ∃ k : Nat, k + m = l.length ∧ ((l.take k).all fun e => smallB e.cnt) = true ∧ ((l.take k).filter nzB).length ≤ 4096 ∧ H = [.arr 2 (eC ((l.take k).filter nzB))] ∧
      Sv 46 [(0, .list ex 2 (eC l)), (4, .sl 0 ((l.take k).filter nzB).length 0 ((l.take k).filter nzB).length), (5, .int .i64 k)] ρ, l.length, [(4, 2)], ?_, ?_⟩
  · exact ⟨0, by omega, rfl, by simp, by rfl, Sv.intro rfl ⟨rfl, rfl, rfl, trivial⟩⟩
  rintro m ρ H ⟨k, hk, hP, hO, rfl, d, rfl⟩
  (conv => whnf); refine recA (fun hlt => ?_) (fun hlt => ?_)
  · simp [eC_length] at hlt
    obtain ⟨x, hx, hxd, hxm⟩ := get_drop hlt
    have ew := wrapI ((k : Int) + 1) (by omega) (by omega)
    have hxr := hr x hxm
    have hT : l.take (k + 1) = l.take k ++ [x] := by rw [List.take_add_one, hx]; rfl
    have hl2 : l = l.take k ++ x :: l.drop (k + 1) := by rw [← hxd, List.take_append_drop]
    conv => whnf
    refine And.intro (by omega) ?_
    (conv => whnf); refine recO (eC_at hx) ?_
    (conv => whnf); refine recA (fun hz => ?_) (fun hz => ?_)
    · replace hz : (x.cnt == 0) = true := hz
      simp at hz
      have hF : (l.take (k + 1)).filter nzB = (l.take k).filter nzB := by rw [hT, List.filter_append]; simp [nzB, hz]
      conv => whnf
      refine ⟨m - 1, by omega, Gp.keep rfl ?_ fun ρ1 h => ⟨k + 1, by omega, ?_, ?_, ?_, h⟩⟩
      · exact ⟨rfl, by rw [hF]; rfl, intEq ew, trivial⟩
      · rw [hT, List.all_append, hP]; simp [smallB, hz]
      · rw [hF]; exact hO
      · rw [hF]
    replace hz : (x.cnt == 0) = false := hz
    simp at hz
    conv => whnf
    refine And.intro (by omega) ?_
    (conv => whnf); refine recO (eC_at hx) ?_
    conv => whnf
    refine ACalls.use (small_spec F.warehouseref6_small _ _) ?_
    (conv => whnf); refine recA (fun hs => ?_) (fun hs => ?_)
    · replace hs : (!(smallB x.cnt)) = true := hs
      simp at hs
      conv => whnf
      rw [resR_bad l (by rw [hl2]; simp [hs])]
      exact pub2 (.closed _ rfl) (.closed _ rfl)
    replace hs : (!(smallB x.cnt)) = false := hs
    simp at hs
    have hF : (l.take (k + 1)).filter nzB = (l.take k).filter nzB ++ [x] := by rw [hT, List.filter_append]; simp [nzB, hz]
    (conv => whnf); refine recT (by rw [eC_length]; exact Nat.beq_refl _) ?_
    (conv => whnf); refine recA (fun hq => ?_) (fun hq => ?_)
    · replace hq : ((((l.take k).filter nzB).length : Int) == 4096) = true := hq
      simp at hq
      conv => whnf
      have h3 := filter_le_of_prefix (l.take (k + 1)) l ⟨l.drop (k + 1), (List.take_append_drop _ _).symm⟩
      rw [hF, List.length_append] at h3
      rw [resR, if_neg (by simp at h3; omega)]
      exact pub2 (.closed _ rfl) (.closed _ rfl)
    · replace hq : ((((l.take k).filter nzB).length : Int) == 4096) = false := hq
      simp at hq
      conv => whnf
      refine And.intro (by omega) ?_
      (conv => whnf); refine recO (eC_at hx) ?_
      (conv => whnf); refine And.intro ⟨roomMul (by rw [vC_length]; omega) (by omega), roomB_le (by rw [vC_length]; omega)⟩ ?_
      (conv => whnf); refine And.intro (by omega) ?_
      (conv => whnf); refine recO (eC_at hx) ?_
      (conv => whnf); refine recT (by rw [eC_length]; exact Nat.beq_refl _) ?_
      (conv => whnf); refine And.intro ⟨roomMul (by simp; omega) (by omega), roomB_le (by simp; omega), rfl, by rw [eC_length]⟩ ?_
      conv => whnf
      refine And.intro (by (conv => whnf); try rfl) ?_
      conv => whnf
      refine And.intro (by (conv => whnf); refine And.intro (by omega) ?_; (conv => whnf); refine recO (eC_at hx) ?_; (conv => whnf); try rfl) ?_
      conv => whnf
      have hFl : (eC ((l.take k).filter nzB) ++ [[AVal.sl 1 (vC x.row).length 0 (vC x.row).length, .int .i64 x.cnt]]).length = ((l.take (k + 1)).filter nzB).length := by
        rw [hF]; simp [eC_length]
      refine ⟨m - 1, by omega, Gp.some (H1 := [.arr 2 (eC ((l.take k).filter nzB ++ [x]))]) [0] (by simp) ?_ rfl ?_ fun ρ1 h => ⟨k + 1, by omega, ?_, ?_, ?_, h⟩⟩
      · exact ⟨⟨_, rfl, obPush ((l.take k).filter nzB) x.row x.cnt (vC x.row).length _ rfl (vC_length _)⟩, trivial⟩
      · exact ⟨.closed _ rfl, pubSl (k := 0) rfl rfl hFl hFl, pub_int ew, trivial⟩
      · rw [hT, List.all_append, hP]; simp [hs]
      · rw [hF, List.length_append]; simp; omega
      · rw [hF]
  · simp [eC_length] at hlt
    have hT : l.take k = l := List.take_of_length_le hlt
    conv => whnf
    rw [hT] at hP hO ⊢
    rw [resR, if_pos ⟨hP, hO⟩]
    exact pub2 (pubF rfl (eC_length _).symm (eC_length _).symm (pureEs_eC _)) (.closed _ rfl)

theorem resR_cases (l : List Ent) : resR l = .tuple [.nil, .int .i64 2] ∨ resR l = .tuple [.list false 2 (eC (l.filter nzB)), .int .i64 0] := by
  unfold resR
  split
  · exact .inr rfl
  · exact .inl rfl

end Go.AW

namespace Go.AW
variable [Draws]
attribute [local irreducible] ACalls
structure Grp where
  n : Int
  vals : List Ent

def oneB (e : Ent) : Bool := match e.row with
  | [v] => !(v.kind == 0)
  | _ => false

def rowsB (n : Int) : Bool := decide (-268435456 ≤ n) && decide (n ≤ 268435456)

def grpB (g : Grp) : Int := if rowsB g.n = false then 1 else if bagB g.vals ≠ 0 then bagB g.vals else if g.vals.all oneB then 0 else 8

end Go.AW

namespace Go.AW
variable [Draws]
section
variable {P : Program} {C : Nat → Nat} {τ : Nat → Option Loc} {H : List AObj} {w : World}
inductive WkD : AVal → AVal → Prop where
  | refl (a : AVal) : WkD a a
  | nil (x : Bool) (sz : Nat) : WkD .nil (.list x sz [])
  | list (x y : Bool) (sz : Nat) (es fs : List (List AVal)) (h : y = true → x = true) (hl : es.length = fs.length)
      (hl2 : ∀ (i : Nat) (e f : List AVal), es[i]? = some e → fs[i]? = some f → e.length = f.length)
      (hcell : ∀ (i j : Nat) (f : List AVal) (c : AVal), fs[i]? = some f → f[j]? = some c → c.isCell = true)
      (hc : ∀ (i j : Nat) (e f : List AVal) (d c : AVal), es[i]? = some e → fs[i]? = some f → e[j]? = some d → f[j]? = some c → WkD d c) : WkD (.list x sz es) (.list y sz fs)
  | agg (asv bs : List AVal) (hl : asv.length = bs.length) (h : ∀ (i : Nat) (a b : AVal), asv[i]? = some a → bs[i]? = some b → WkD a b) : WkD (.agg asv) (.agg bs)
  | tuple (asv bs : List AVal) (hl : asv.length = bs.length) (h : ∀ (i : Nat) (a b : AVal), asv[i]? = some a → bs[i]? = some b → WkD a b) : WkD (.tuple asv) (.tuple bs)

theorem Rd.weakD {a b : AVal} {v : Value} (h : Rd C w a v) (hw : WkD a b) : Rd C w b v := by
  induction hw generalizing v with
  | refl => exact h
  | nil x sz => cases h; exact .list0 x sz none 0 (fun _ => rfl)
  | list x y sz es fs hxy hl hl2 hcell hc ih =>
    have hsome : ∀ {i : Nat} {f : List AVal}, fs[i]? = some f → ∃ e, es[i]? = some e ∧ e.length = f.length := fun {i f} hf => by
      have hi : i < es.length := by have := (List.getElem?_eq_some_iff.1 hf).1; omega
      exact ⟨es[i], List.getElem?_eq_getElem hi, hl2 i _ _ (List.getElem?_eq_getElem hi) hf⟩
    cases h with
    | list0 _ _ a cap hx =>
      cases fs with
      | nil => exact .list0 y sz a cap fun hy => hx (hxy hy)
      | cons f fs => simp at hl
    | list _ _ _ b off cap vs hx hcap hsz hC hcl hp hrd =>
      rw [hl]
      refine .list y sz fs b off cap vs (fun hy => by rw [← hl]; exact hx (hxy hy)) (by omega) (fun f hf => ?_) (by rw [← hl]; exact hC) (fun i j hi hj => hcl i j (by omega) hj) hcell (fun i j f c hf hcc => ?_)
      · obtain ⟨i, hi, rfl⟩ := List.getElem_of_mem hf
        obtain ⟨e, he, hle⟩ := hsome (List.getElem?_eq_getElem hi)
        rw [← hle]; exact hsz e (List.mem_of_getElem? he)
      · obtain ⟨e, he, hle⟩ := hsome hf
        have hj : j < e.length := by have := (List.getElem?_eq_some_iff.1 hcc).1; omega
        exact ih i j e f e[j] c he hf (List.getElem?_eq_getElem hj) hcc (hrd i j e e[j] he (List.getElem?_eq_getElem hj))
  | agg => cases h
  | tuple => cases h

theorem Rel.weakD {a b : AVal} {v : Value} (h : Rel C w τ H a v) (hw : WkD a b) : Rel C w τ H b v := by
  induction hw generalizing v with
  | refl => exact h
  | nil x sz =>
    cases h with
    | rd h => exact .rd (h.weakD (.nil x sz))
  | list x y sz es fs hxy hl hl2 hcell hc ih =>
    cases h with
    | rd h => exact .rd (h.weakD (.list x y sz es fs hxy hl hl2 hcell hc))
  | agg asv bs hl h2 ih =>
    cases h with
    | rd h => cases h
    | agg _ vs hlv hv =>
      refine .agg bs vs (by omega) fun i c u hc hu => ?_
      have hi : i < asv.length := by have := (List.getElem?_eq_some_iff.1 hc).1; omega
      exact ih i asv[i] c (List.getElem?_eq_getElem hi) hc (hv i asv[i] u (List.getElem?_eq_getElem hi) hu)
  | tuple asv bs hl h2 ih =>
    cases h with
    | rd h => cases h
    | tuple _ vs hlv hv =>
      refine .tuple bs vs (by omega) fun i c u hc hu => ?_
      have hi : i < asv.length := by have := (List.getElem?_eq_some_iff.1 hc).1; omega
      exact ih i asv[i] c (List.getElem?_eq_getElem hi) hc (hv i asv[i] u (List.getElem?_eq_getElem hi) hu)

def WksD (asv bs : List AVal) : Prop := asv.length = bs.length ∧ ∀ (i : Nat) (a b : AVal), asv[i]? = some a → bs[i]? = some b → WkD a b

theorem WksD.nil : WksD [] [] := ⟨rfl, fun i a b h => by simp at h⟩

theorem WksD.cons {a b : AVal} {asv bs : List AVal} (h : WkD a b) (hs : WksD asv bs) : WksD (a :: asv) (b :: bs) := by
  refine ⟨by simp [hs.1], fun i x y hx hy => ?_⟩
  cases i with
  | zero => simp at hx hy; subst hx hy; exact h
  | succ i => exact hs.2 i x y (by simpa using hx) (by simpa using hy)

theorem WkD.tuples {asv bs : List AVal} (h : WksD asv bs) : WkD (.tuple asv) (.tuple bs) := .tuple asv bs h.1 h.2

theorem ACalls.weakD {f : FuncId} {args bs : List AVal} {Q : AVal → List AObj → Prop} (h : ACalls P f bs H Q) (hw : WksD args bs) : ACalls P f args H Q := by
  intro C τ w vs hwf hl hr
  refine h C τ w vs hwf (by rw [← hw.1]; exact hl) fun i b v hb hv => ?_
  have hi : i < args.length := by have := (List.getElem?_eq_some_iff.1 hb).1; have := hw.1; omega
  exact (hr i args[i] v (List.getElem?_eq_getElem hi) hv).weakD (hw.2 i args[i] b (List.getElem?_eq_getElem hi) hb)

theorem ACalls.weakRD {f : FuncId} {args : List AVal} {Q Q' : AVal → List AObj → Prop} (h : ACalls P f args H Q) (hq : ∀ r H', Q r H' → ∃ r', WkD r r' ∧ Q' r' H') : ACalls P f args H Q' := by
  intro C τ w vs hw hl hr
  have h := h C τ w vs hw hl hr
  unfold CallsX at h ⊢
  split at h
  · exact Calls.mono h fun e w' ⟨v, r, C', τ', H', h1, h2, h3, h4⟩ => by
      obtain ⟨r', hk, hq'⟩ := hq _ _ h2
      exact ⟨v, r', C', τ', H', h1, hq', h3.weakD hk, h4⟩
  · obtain ⟨v, r, C', τ', H', h1, h2, h3, h4⟩ := h
    obtain ⟨r', hk, hq'⟩ := hq _ _ h2
    exact ⟨v, r', C', τ', H', h1, hq', h3.weakD hk, h4⟩
  · exact h

end
end Go.AW

namespace Go.AW
variable [Draws]
attribute [local irreducible] ACalls
def sumE (a b : List Ent) : Int :=
  if bagB a ≠ 0 then bagB a else if bagB b ≠ 0 then bagB b else if ((mrg a b).all fun e => smallB e.cnt) = true ∧ ((mrg a b).filter nzB).length ≤ 4096 then 0 else 2

def sumL (a b : List Ent) : List Ent := (mrg a b).filter nzB

def mrgE (a b : Grp) : Int := if rowsB (a.n + b.n) = false then 2 else sumE a.vals b.vals

def mrgG (a b : Grp) : Grp := if mrgE a b = 0 then ⟨a.n + b.n, sumL a.vals b.vals⟩ else ⟨0, []⟩

def GrpOk (g : Grp) : Prop := -1000000000 ≤ g.n ∧ g.n ≤ 1000000000

end Go.AW

namespace Go.AW
variable [Draws]
attribute [local irreducible] ACalls
def oneG (v : V) (c : Int) : Grp := ⟨c, if v.kind ≠ 0 ∧ c ≠ 0 then [⟨[v], c⟩] else []⟩

def preE (g : Grp) (v : V) (c : Int) : Int := if grpB g ≠ 0 then grpB g else if validB v = false then 8 else if smallB c = false then 1 else 0

def addGE (g : Grp) (v : V) (c : Int) : Int := if preE g v c ≠ 0 then preE g v c else mrgE g (oneG v c)

def addGG (g : Grp) (v : V) (c : Int) : Grp := if preE g v c ≠ 0 then ⟨0, []⟩ else mrgG g (oneG v c)

theorem grpB_ok {g : Grp} (h : grpB g = 0) : GrpOk g ∧ rowsB g.n = true ∧ bagB g.vals = 0 ∧ g.vals.all oneB = true := by
  unfold grpB at h
  split at h
  · cases h
  rename_i h1
  split at h
  · rename_i h2; exact absurd h h2
  rename_i h2
  split at h
  · rename_i h3
    simp [rowsB] at h1
    exact ⟨⟨by omega, by omega⟩, by simp [rowsB, h1], by simpa using h2, h3⟩
  · cases h

end Go.AW

namespace Go.AW
variable [Draws]
attribute [local irreducible] ACalls
def numV (n : Int) : V := if n < -1073741824 ∨ 1073741824 < n then zV else ⟨2, n, bs []⟩

def num0 (e : Ent) : Int := (e.row.getD 0 zV).num

def totGo : List Ent → Int → Int → Int × Int
  | [], s, c => (s, c)
  | e :: es, s, c => totGo es (w64 (s + w64 (num0 e * e.cnt))) (w64 (c + e.cnt))

end Go.AW

namespace Go.AW
variable [Draws]
attribute [local irreducible] ACalls
set_option maxRecDepth 20000 in
theorem IndexFuncE_spec {P : Program} (F : F_slices_IndexFunc_LEntry_Entry P) (g : FuncId) (caps : List AVal) (p : Ent → Bool) (H : List AObj) (cs : List Ent) (hg : ∀ c ∈ cs, ACalls P g ([.agg (entC c)] ++ caps) H (fun r H' => r = .bool (p c) ∧ H' = H))
    (ex : Bool) (hl : cs.length ≤ 1000000) :
    ACalls P F.id [.list ex 2 (eC cs), .fn g caps] H (fun r H' => r = .int .i64 (idxOf p cs 0) ∧ H' = H) := by
  refine acalls_of_body F.has ?_
  conv => whnf
  refine ⟨fun m ρ H1 => ∃ k : Nat, k + m = cs.length ∧ idxOf p (cs.drop k) k = idxOf p cs 0 ∧ H1 = H ∧
    Sv 19 [(0, .list ex 2 (eC cs)), (1, .fn g caps), (7, .int .i64 cs.length), (8, .int .i64 k)] ρ, cs.length, [], ?_, ?_⟩
  · exact ⟨0, by omega, rfl, rfl, Sv.intro rfl ⟨rfl, rfl, intEq (by rw [eC_length]), rfl, trivial⟩⟩
  rintro m ρ H1 ⟨k, hk, hr, rfl, d, rfl⟩
  (conv => whnf); refine recA (fun hlt => ?_) (fun hlt => ?_)
  · simp at hlt
    obtain ⟨c, hc, hd, hmem⟩ := get_drop hlt
    rw [hd] at hr
    conv => whnf
    refine And.intro (by omega) ?_
    (conv => whnf); refine recO (eC_at hc) ?_
    conv => whnf
    refine ACalls.use (hg c hmem) ?_
    (conv => whnf); refine recA (fun h => ?_) (fun hf => ?_)
    · conv => whnf
      refine ⟨intEq ?_, rfl⟩
      rw [← hr, idxOf, if_pos h]
    · conv => whnf
      refine ⟨m - 1, by omega, Gp.keep rfl ?_ fun ρ1 h => ⟨k + 1, by omega, ?_, rfl, h⟩⟩
      · exact ⟨rfl, rfl, rfl, intEq (wrapI ((k : Int) + 1) (by omega) (by omega)), trivial⟩
      · rw [← hr, idxOf, if_neg (by rw [hf]; simp)]; rfl
  · simp at hlt
    conv => whnf
    rw [List.drop_eq_nil_of_le hlt] at hr
    exact ⟨intEq hr, rfl⟩

def posB (e : Ent) : Bool := decide (e.cnt > 0)

def notInt (e : Ent) : Bool := !((e.row.getD 0 zV).kind == 2)

end Go.AW

namespace Go.AW
variable [Draws]
attribute [local irreducible] ACalls
set_option maxRecDepth 20000 in
theorem CloneE_raw {P : Program} (F : F_slices_Clone_LEntry_Entry P) (ex : Bool) (l : List Ent) (hl : l.length ≤ 1000000) :
    ACalls P F.id [.list ex 2 (eC l)] [] (fun r H' => (r = .nil ∧ l = [] ∧ H' = []) ∨ (r = .sl 0 l.length 0 l.length ∧ H' = [.arr 2 (eC l)])) := by
  refine acalls_of_body F.has ?_
  conv => whnf
  refine And.intro (fun h => ?_) ?_
  · conv => whnf
    exact .inl ⟨rfl, by simpa [eC] using h, rfl⟩
  · conv => whnf
    refine And.intro ⟨roomMul (by simp [eC_length]; omega) (by omega), roomB_le (by simp [eC_length]; omega), .inr rfl⟩ ?_
    conv => whnf
    refine .inr ⟨slEq ?_ ?_, rfl⟩
    · simp [eC_length]
    · simp [eC_length]

end Go.AW

namespace Go.AW
variable [Draws]
attribute [local irreducible] ACalls
theorem Gp.two {n : Nat} {live : List (Nat × AVal)} {ρ : List AVal} {H : List AObj} {I : List AVal → List AObj → Prop} (a b : Nat) (hab : a ≠ b) (s1 s2 : Nat) (e1 e2 : List (List AVal)) (h1 : H[a]? = .some (.arr s1 e1)) (h2 : H[b]? = .some (.arr s2 e2))
    (p1 : pureEs e1 = true) (p2 : pureEs e2 = true) (hl : ρ.length = n) (h : SvPub H [a, b] ρ live) (hI : ∀ ρ1, Sv n live ρ1 → I ρ1 [.arr s1 e1, .arr s2 e2]) : Gp [] ρ H I :=
  Gp.some (H1 := [.arr s1 e1, .arr s2 e2]) [a, b] (by simp [hab]) ⟨⟨_, h1, .same _ _ p1⟩, ⟨_, h2, .same _ _ p2⟩, trivial⟩ hl h hI

def row0 (e : Ent) : V := e.row.getD 0 zV

def presV (l : List Ent) : List V := (l.filter posB).map row0

def floorV (s c : Int) : Int := if s.tmod c < 0 then w64 (w64 (s.tdiv c) - 1) else w64 (s.tdiv c)

def resE (f : Int) (g : Grp) : Int := if f < 1 ∨ 7 < f then 1 else if grpB g ≠ 0 then grpB g else if (f = 3 ∨ f = 7) ∧ g.vals.any notInt = true then 7 else 0

def resV0 (f : Int) (g : Grp) : V :=
  if f = 1 then numV g.n else if f = 2 then numV (totGo g.vals 0 0).2 else if f = 6 then numV (presV g.vals).length
  else if f = 4 then (presV g.vals).head?.getD zV else if f = 5 then (presV g.vals).getLast?.getD zV
  else if f = 3 then (if g.vals = [] then zV else numV (totGo g.vals 0 0).1)
  else if 0 < (totGo g.vals 0 0).2 then numV (floorV (totGo g.vals 0 0).1 (totGo g.vals 0 0).2) else zV

def resV (f : Int) (g : Grp) : V := if resE f g ≠ 0 then zV else resV0 f g

end Go.AW

namespace Go.AW
variable [Draws]
theorem rowsCmp_vals : ∀ (a b : List V), rowsCmp a b = -1 ∨ rowsCmp a b = 0 ∨ rowsCmp a b = 1
  | [], [] => .inr (.inl rfl)
  | [], _ :: _ => .inl rfl
  | _ :: _, [] => .inr (.inr rfl)
  | x :: xs, y :: ys => by
    rw [rowsCmp]
    split
    · exact rowsCmp_vals xs ys
    · exact isCmp_val.vals x y

theorem rowsCmp_anti : ∀ (a b : List V), rowsCmp b a = - rowsCmp a b
  | [], [] => rfl
  | [], _ :: _ => rfl
  | _ :: _, [] => rfl
  | x :: xs, y :: ys => by
    rw [rowsCmp, rowsCmp, isCmp_val.anti x y]
    by_cases h : valCmp x y = 0
    · rw [if_pos h, if_pos (by omega), rowsCmp_anti xs ys]
    · rw [if_neg h, if_neg (by omega)]

theorem rowsCmp_trans : ∀ (a b d : List V), rowsCmp a b < 0 → rowsCmp b d < 0 → rowsCmp a d < 0
  | [], _, [], _, h2 => by
    rename_i b _
    cases b with
    | nil => exact h2
    | cons y ys => rw [rowsCmp] at h2; omega
  | [], _, _ :: _, _, _ => by rw [rowsCmp]; omega
  | x :: xs, [], _, h1, _ => by rw [rowsCmp] at h1; omega
  | x :: xs, y :: ys, [], _, h2 => by rw [rowsCmp] at h2; omega
  | x :: xs, y :: ys, z :: zs, h1, h2 => by
    rw [rowsCmp] at h1 h2 ⊢
    by_cases e1 : valCmp x y = 0
    · rw [if_pos e1] at h1
      have hxy := (isCmp_val.zero x y).1 e1
      subst hxy
      by_cases e2 : valCmp x z = 0
      · rw [if_pos e2] at h2 ⊢; exact rowsCmp_trans xs ys zs h1 h2
      · rw [if_neg e2] at h2 ⊢; exact h2
    · rw [if_neg e1] at h1
      by_cases e2 : valCmp y z = 0
      · have hyz := (isCmp_val.zero y z).1 e2
        subst hyz
        rw [if_neg e1]; exact h1
      · rw [if_neg e2] at h2
        have := isCmp_val.trans x y z h1 h2
        rw [if_neg (by omega)]; exact this

theorem isCmp_rows : IsCmp rowsCmp := ⟨rowsCmp_vals, rowsCmp_anti, rowsCmp_zero, rowsCmp_trans⟩

def cntL : List Ent → List V → Int
  | [], _ => 0
  | e :: l, r => (if rowsCmp e.row r = 0 then e.cnt else 0) + cntL l r

def Srt (l : List Ent) : Prop := l.Pairwise fun x y => rowsCmp x.row y.row < 0

theorem cntL_zero : ∀ (l : List Ent) (r : List V), (∀ e ∈ l, rowsCmp e.row r ≠ 0) → cntL l r = 0
  | [], _, _ => rfl
  | e :: l, r, h => by rw [cntL, if_neg (h e (List.mem_cons_self ..)), cntL_zero l r fun e he => h e (List.mem_cons_of_mem _ he)]; rfl

theorem cntL_above {l : List Ent} {r : List V} (h : ∀ e ∈ l, rowsCmp r e.row < 0) : cntL l r = 0 :=
  cntL_zero l r fun e he hz => by have := h e he; rw [rowsCmp_anti] at this; omega

theorem cntL_head {x : Ent} {l : List Ent} (h : Srt (x :: l)) : cntL (x :: l) x.row = x.cnt := by
  rw [cntL, if_pos ((rowsCmp_zero _ _).2 rfl), cntL_above (List.pairwise_cons.1 h).1]; omega

theorem cntL_append : ∀ (a b : List Ent) (r : List V), cntL (a ++ b) r = cntL a r + cntL b r
  | [], b, r => by simp [cntL]
  | e :: a, b, r => by rw [List.cons_append, cntL, cntL, cntL_append a b r]; omega

theorem cntL_mem : ∀ {l : List Ent} {e : Ent}, Srt l → e ∈ l → cntL l e.row = e.cnt
  | x :: l, e, hs, he => by
    rcases List.mem_cons.1 he with rfl | he
    · exact cntL_head hs
    · have h1 := (List.pairwise_cons.1 hs).1 e he
      rw [cntL, if_neg (by omega), cntL_mem (List.pairwise_cons.1 hs).2 he]; omega

theorem bag_ext : ∀ (a b : List Ent), Srt a → Srt b → (∀ e ∈ a, e.cnt ≠ 0) → (∀ e ∈ b, e.cnt ≠ 0) → (∀ r, cntL a r = cntL b r) → a = b
  | [], [], _, _, _, _, _ => rfl
  | [], y :: b, _, hb, _, nb, h => by
    have := h y.row
    rw [cntL_head hb] at this
    exact absurd this.symm (nb y (List.mem_cons_self ..))
  | x :: a, [], ha, _, na, _, h => by
    have := h x.row
    rw [cntL_head ha] at this
    exact absurd this (na x (List.mem_cons_self ..))
  | x :: a, y :: b, ha, hb, na, nb, h => by
    have ax := (List.pairwise_cons.1 ha).1
    have bx := (List.pairwise_cons.1 hb).1
    rcases rowsCmp_vals x.row y.row with hc | hc | hc
    · have h1 := h x.row
      rw [cntL_head ha, cntL_above (l := y :: b) (fun e he => by
        rcases List.mem_cons.1 he with rfl | he
        · omega
        · exact rowsCmp_trans _ _ _ (by omega) (bx e he))] at h1
      exact absurd h1 (na x (List.mem_cons_self ..))
    · have hr := (rowsCmp_zero _ _).1 hc
      have hcnt : x.cnt = y.cnt := by
        have h1 := h x.row
        rw [cntL_head ha] at h1
        rw [h1, hr, cntL_head hb]
      have hxy : x = y := by cases x; cases y; simp only at hr hcnt; subst hr hcnt; rfl
      subst hxy
      have := bag_ext a b (List.pairwise_cons.1 ha).2 (List.pairwise_cons.1 hb).2 (fun e he => na e (List.mem_cons_of_mem _ he)) (fun e he => nb e (List.mem_cons_of_mem _ he))
        (fun r => by have h1 := h r; rw [cntL, cntL] at h1; omega)
      rw [this]
    · have hc' : rowsCmp y.row x.row < 0 := by rw [rowsCmp_anti]; omega
      have h1 := h y.row
      rw [cntL_head hb, cntL_above (l := x :: a) (fun e he => by
        rcases List.mem_cons.1 he with rfl | he
        · omega
        · exact rowsCmp_trans _ _ _ hc' (ax e he))] at h1
      exact absurd h1.symm (nb y (List.mem_cons_self ..))

theorem cntL_mrg : ∀ (a b : List Ent) (r : List V), cntL (mrg a b) r = cntL a r + cntL b r
  | [], b, r => by rw [mrg_nil, cntL]; omega
  | x :: a, [], r => by rw [mrg_nil2, cntL]; simp [cntL]
  | x :: a, y :: b, r => by
    rw [mrg_cons]
    split
    · have e1 : cntL (x :: a) r = (if rowsCmp x.row r = 0 then x.cnt else 0) + cntL a r := rfl
      rw [cntL, cntL_mrg a (y :: b) r, e1]; omega
    split
    · have e1 : cntL (y :: b) r = (if rowsCmp y.row r = 0 then y.cnt else 0) + cntL b r := rfl
      rw [cntL, cntL_mrg (x :: a) b r, e1]; omega
    · have hr : x.row = y.row := (rowsCmp_zero _ _).1 (by have := rowsCmp_vals x.row y.row; omega)
      rw [cntL, cntL_mrg a b r, cntL, cntL]
      simp only [hr]
      split <;> omega
termination_by a b => a.length + b.length

theorem mem_mrg : ∀ (a b : List Ent) (e : Ent), e ∈ mrg a b → (∃ x ∈ a, x.row = e.row) ∨ ∃ y ∈ b, y.row = e.row
  | [], b, e, h => by rw [mrg_nil] at h; exact .inr ⟨e, h, rfl⟩
  | x :: a, [], e, h => by rw [mrg_nil2] at h; exact .inl ⟨e, h, rfl⟩
  | x :: a, y :: b, e, h => by
    rw [mrg_cons] at h
    have la : ∀ {e : Ent}, (∃ x ∈ a, x.row = e.row) → ∃ z ∈ x :: a, z.row = e.row := fun ⟨z, h1, h2⟩ => ⟨z, List.mem_cons_of_mem _ h1, h2⟩
    have lb : ∀ {e : Ent}, (∃ x ∈ b, x.row = e.row) → ∃ z ∈ y :: b, z.row = e.row := fun ⟨z, h1, h2⟩ => ⟨z, List.mem_cons_of_mem _ h1, h2⟩
    split at h
    · rcases List.mem_cons.1 h with rfl | h
      · exact .inl ⟨e, List.mem_cons_self .., rfl⟩
      · exact (mem_mrg a (y :: b) e h).imp la id
    split at h
    · rcases List.mem_cons.1 h with rfl | h
      · exact .inr ⟨e, List.mem_cons_self .., rfl⟩
      · exact (mem_mrg (x :: a) b e h).imp id lb
    · rcases List.mem_cons.1 h with rfl | h
      · exact .inl ⟨x, List.mem_cons_self .., rfl⟩
      · exact (mem_mrg a b e h).imp la lb
termination_by a b => a.length + b.length

theorem srt_mrg : ∀ (a b : List Ent), Srt a → Srt b → Srt (mrg a b)
  | [], b, _, hb => by rw [mrg_nil]; exact hb
  | x :: a, [], ha, _ => by rw [mrg_nil2]; exact ha
  | x :: a, y :: b, ha, hb => by
    have ax := (List.pairwise_cons.1 ha).1
    have bx := (List.pairwise_cons.1 hb).1
    have ha' := (List.pairwise_cons.1 ha).2
    have hb' := (List.pairwise_cons.1 hb).2
    rw [mrg_cons]
    split
    · rename_i hc
      refine List.pairwise_cons.2 ⟨fun e he => ?_, srt_mrg a (y :: b) ha' hb⟩
      rcases mem_mrg a (y :: b) e he with ⟨z, hz, hzr⟩ | ⟨z, hz, hzr⟩
      · rw [← hzr]; exact ax z hz
      · rw [← hzr]
        rcases List.mem_cons.1 hz with rfl | hz
        · exact hc
        · exact rowsCmp_trans _ _ _ hc (bx z hz)
    split
    · rename_i hc0 hc
      have hc' : rowsCmp y.row x.row < 0 := by rw [rowsCmp_anti]; omega
      refine List.pairwise_cons.2 ⟨fun e he => ?_, srt_mrg (x :: a) b ha hb'⟩
      rcases mem_mrg (x :: a) b e he with ⟨z, hz, hzr⟩ | ⟨z, hz, hzr⟩
      · rw [← hzr]
        rcases List.mem_cons.1 hz with rfl | hz
        · exact hc'
        · exact rowsCmp_trans _ _ _ hc' (ax z hz)
      · rw [← hzr]; exact bx z hz
    · have hr : x.row = y.row := (rowsCmp_zero _ _).1 (by have := rowsCmp_vals x.row y.row; omega)
      refine List.pairwise_cons.2 ⟨fun e he => ?_, srt_mrg a b ha' hb'⟩
      rcases mem_mrg a b e he with ⟨z, hz, hzr⟩ | ⟨z, hz, hzr⟩
      · rw [← hzr]; exact ax z hz
      · rw [← hzr]; show rowsCmp x.row z.row < 0; rw [hr]; exact bx z hz
termination_by a b => a.length + b.length

theorem cntL_nz : ∀ (l : List Ent) (r : List V), cntL (l.filter nzB) r = cntL l r
  | [], _ => rfl
  | e :: l, r => by
    rw [List.filter_cons]
    split
    · rw [cntL, cntL, cntL_nz l r]
    · rename_i h
      have : e.cnt = 0 := by simpa [nzB] using h
      rw [cntL, cntL_nz l r, this]; split <;> omega

theorem srt_filter {l : List Ent} (p : Ent → Bool) (h : Srt l) : Srt (l.filter p) := List.Pairwise.filter p h

theorem fitB_iff (e : Ent) : fitB e = 0 ↔ e.row.length ≤ 12 ∧ smallB e.cnt = true ∧ e.row.all validB = true := by
  simp only [smallB, Bool.and_eq_true, decide_eq_true_eq]
  unfold fitB
  constructor
  · intro h
    split at h
    · cases h
    · split at h
      · rename_i h1 h2; exact ⟨by omega, ⟨by omega, by omega⟩, h2⟩
      · cases h
  · rintro ⟨h1, ⟨h2, h3⟩, h4⟩
    rw [if_neg (by omega), if_pos h4]

theorem bvGo_iff : ∀ (l : List Ent) (p : Option (List V)), bvGo l p = 0 ↔ (∀ e ∈ l, fitB e = 0 ∧ e.cnt ≠ 0) ∧ Srt l ∧ ∀ q, p = some q → ∀ e ∈ l, rowsCmp q e.row < 0
  | [], p => ⟨fun _ => ⟨fun e h => (by simp at h), List.Pairwise.nil, fun q _ e h => by simp at h⟩, fun _ => rfl⟩
  | x :: l, p => by
    rw [bvGo]
    have nb : notB p x.row = true ↔ ∃ q, p = some q ∧ ¬ rowsCmp q x.row < 0 := by
      cases p with
      | none => simp [notB]
      | some q => simp [notB]
    constructor
    · intro h
      by_cases h1 : fitB x = 0
      · rw [if_neg (by simp [h1])] at h
        by_cases h2 : x.cnt = 0
        · rw [if_pos h2] at h; cases h
        · rw [if_neg h2] at h
          by_cases h3 : notB p x.row = true
          · rw [if_pos h3] at h; cases h
          · rw [if_neg h3] at h
            obtain ⟨g1, g2, g3⟩ := (bvGo_iff l (some x.row)).1 h
            have hp : ∀ q, p = some q → rowsCmp q x.row < 0 := fun q hq => Classical.byContradiction fun hn => h3 (nb.2 ⟨q, hq, hn⟩)
            refine ⟨fun e he => ?_, List.pairwise_cons.2 ⟨g3 _ rfl, g2⟩, fun q hq e he => ?_⟩
            · rcases List.mem_cons.1 he with rfl | he
              · exact ⟨h1, h2⟩
              · exact g1 e he
            · rcases List.mem_cons.1 he with rfl | he
              · exact hp q hq
              · exact rowsCmp_trans _ _ _ (hp q hq) (g3 _ rfl e he)
      · rw [if_pos h1] at h; exact absurd h h1
    · rintro ⟨h1, h2, h3⟩
      have hx := h1 x (List.mem_cons_self ..)
      rw [if_neg (by simp [hx.1]), if_neg hx.2, if_neg (fun h => by
        obtain ⟨q, hq, hn⟩ := nb.1 h
        exact hn (h3 q hq x (List.mem_cons_self ..)))]
      exact (bvGo_iff l (some x.row)).2 ⟨fun e he => h1 e (List.mem_cons_of_mem _ he), (List.pairwise_cons.1 h2).2, fun q hq e he => by cases hq; exact (List.pairwise_cons.1 h2).1 e he⟩

theorem bagB_iff (l : List Ent) : bagB l = 0 ↔ l.length ≤ 4096 ∧ (∀ e ∈ l, fitB e = 0 ∧ e.cnt ≠ 0) ∧ Srt l := by
  rw [bagB]
  constructor
  · intro h
    split at h
    · cases h
    · have := (bvGo_iff l none).1 h
      exact ⟨by omega, this.1, this.2.1⟩
  · rintro ⟨h1, h2, h3⟩
    rw [if_neg (by omega)]
    exact (bvGo_iff l none).2 ⟨h2, h3, fun q hq => by cases hq⟩

theorem bagB_ext {a b : List Ent} (ha : bagB a = 0) (hb : bagB b = 0) (h : ∀ r, cntL a r = cntL b r) : a = b := by
  obtain ⟨_, a2, a3⟩ := (bagB_iff a).1 ha
  obtain ⟨_, b2, b3⟩ := (bagB_iff b).1 hb
  exact bag_ext a b a3 b3 (fun e he => (a2 e he).2) (fun e he => (b2 e he).2) h

theorem resOk {l : List Ent} (hs : Srt l) (hl : (l.filter nzB).length ≤ 4096) (hf : ∀ e ∈ l, e.row.length ≤ 12 ∧ e.row.all validB = true) (hc : ∀ r, smallB (cntL l r) = true) :
    ((l.all fun e => smallB e.cnt) = true ∧ (l.filter nzB).length ≤ 4096) ∧ bagB (l.filter nzB) = 0 := by
  have hsm : ∀ e ∈ l, smallB e.cnt = true := fun e he => by rw [← cntL_mem hs he]; exact hc _
  refine ⟨⟨List.all_eq_true.2 hsm, hl⟩, (bagB_iff _).2 ⟨hl, fun e he => ?_, srt_filter _ hs⟩⟩
  obtain ⟨h1, h2⟩ := List.mem_filter.1 he
  exact ⟨(fitB_iff e).2 ⟨(hf e h1).1, hsm e h1, (hf e h1).2⟩, by simpa [nzB] using h2⟩

theorem fit_row {l : List Ent} (h : bagB l = 0) : ∀ e ∈ l, e.row.length ≤ 12 ∧ e.row.all validB = true := fun e he => by
  have := (fitB_iff e).1 (((bagB_iff l).1 h).2.1 e he).1
  exact ⟨this.1, this.2.2⟩

end Go.AW

namespace Go.AW
variable [Draws]
attribute [local irreducible] ACalls
def g0 : Grp := ⟨0, []⟩

def n5 : V := ⟨2, 5, bs []⟩

theorem n5_valid : validB n5 = true := by kernel_rfl

theorem mrg_one (v : V) (a b : Int) : mrg [⟨[v], a⟩] [⟨[v], b⟩] = [⟨[v], a + b⟩] := by
  have h : rowsCmp [v] [v] = 0 := (rowsCmp_zero _ _).2 rfl
  rw [mrg_cons, if_neg (by show ¬ rowsCmp [v] [v] < 0; omega), if_neg (by show ¬ 0 < rowsCmp [v] [v]; omega), mrg_nil]

theorem srt_one (e : Ent) : Srt [e] := List.pairwise_singleton ..

theorem bagB_one (v : V) (c : Int) (hv : validB v = true) (hc : c ≠ 0) (hs : smallB c = true) : bagB [⟨[v], c⟩] = 0 :=
  (bagB_iff _).2 ⟨by simp, fun e he => by
    rw [List.mem_singleton] at he; subst he
    exact ⟨(fitB_iff _).2 ⟨by simp, hs, by simp [hv]⟩, hc⟩, srt_one _⟩

theorem bagB_nil : bagB [] = 0 := rfl

theorem grpB_intro {g : Grp} (h1 : rowsB g.n = true) (h2 : bagB g.vals = 0) (h3 : g.vals.all oneB = true) : grpB g = 0 := by
  rw [grpB, if_neg (by simp [h1]), if_neg (by simp [h2]), if_pos h3]

theorem k1 : addGE g0 n5 2 = 0 ∧ addGG g0 n5 2 = ⟨2, [⟨[n5], 2⟩]⟩ := by
  have hp : preE g0 n5 2 = 0 := by rw [preE, if_neg (by simp [grpB_intro (g := g0) rfl rfl rfl]), if_neg (by simp [n5_valid]), if_neg (by decide)]
  have ho : oneG n5 2 = ⟨2, [⟨[n5], 2⟩]⟩ := by rw [oneG, if_pos ⟨by decide, by decide⟩]
  have hm : mrgE g0 ⟨2, [⟨[n5], 2⟩]⟩ = 0 := by
    rw [mrgE, if_neg (by decide), sumE, if_neg (by simp [g0, bagB_nil]), if_neg (by simp [bagB_one n5 2 n5_valid (by decide) (by decide)]), if_pos ⟨by simp [g0, mrg_nil, smallB], by simp [g0, mrg_nil, nzB]⟩]
  have e1 : addGE g0 n5 2 = 0 := by rw [addGE, if_neg (by simp [hp]), ho, hm]
  refine ⟨e1, ?_⟩
  rw [addGG, if_neg (by simp [hp]), ho, mrgG, if_pos hm]
  simp [g0, sumL, mrg_nil, nzB]

theorem k2 : addGE ⟨2, [⟨[n5], 2⟩]⟩ n5 (-1) = 0 ∧ addGG ⟨2, [⟨[n5], 2⟩]⟩ n5 (-1) = ⟨1, [⟨[n5], 1⟩]⟩ := by
  have hb := bagB_one n5 2 n5_valid (by decide) (by decide)
  have hp : preE ⟨2, [⟨[n5], 2⟩]⟩ n5 (-1) = 0 := by rw [preE, if_neg (by simp [grpB_intro (g := ⟨2, [⟨[n5], 2⟩]⟩) rfl hb rfl]), if_neg (by simp [n5_valid]), if_neg (by decide)]
  have ho : oneG n5 (-1) = ⟨-1, [⟨[n5], -1⟩]⟩ := by rw [oneG, if_pos ⟨by decide, by decide⟩]
  have hm : mrgE ⟨2, [⟨[n5], 2⟩]⟩ ⟨-1, [⟨[n5], -1⟩]⟩ = 0 := by
    rw [mrgE, if_neg (by decide), sumE, if_neg (by simp [hb]), if_neg (by simp [bagB_one n5 (-1) n5_valid (by decide) (by decide)]), if_pos ⟨by simp [mrg_one, smallB], by simp [mrg_one, nzB]⟩]
  have e1 : addGE ⟨2, [⟨[n5], 2⟩]⟩ n5 (-1) = 0 := by rw [addGE, if_neg (by simp [hp]), ho, hm]
  refine ⟨e1, ?_⟩
  rw [addGG, if_neg (by simp [hp]), ho, mrgG, if_pos hm]
  simp [sumL, mrg_one, nzB]

def gk : Grp := ⟨1, [⟨[n5], 1⟩]⟩

theorem gk_ok : grpB gk = 0 := grpB_intro rfl (bagB_one n5 1 n5_valid (by decide) (by decide)) rfl

theorem k3 : resE 3 gk = 0 ∧ resV 3 gk = n5 ∧ resE 1 gk = 0 ∧ resV 1 gk = ⟨2, 1, bs []⟩ := by
  have h3 : resE 3 gk = 0 := by rw [resE, if_neg (by decide), if_neg (by simp [gk_ok])]; rfl
  have h1 : resE 1 gk = 0 := by rw [resE, if_neg (by decide), if_neg (by simp [gk_ok])]; rfl
  refine ⟨h3, ?_, h1, ?_⟩
  · rw [resV, if_neg (by simp [h3])]; kernel_rfl
  · rw [resV, if_neg (by simp [h1])]; kernel_rfl

structure It where
  v : V
  c : Int

end Go.AW

namespace Go.AW
variable [Draws]
attribute [local irreducible] ACalls
def wsum (φ : List V → Int) : List Ent → Int
  | [] => 0
  | e :: l => e.cnt * φ e.row + wsum φ l

def ind (r : List V) (s : List V) : Int := if rowsCmp s r = 0 then 1 else 0

theorem cntL_wsum : ∀ (l : List Ent) (r : List V), cntL l r = wsum (ind r) l
  | [], _ => rfl
  | e :: l, r => by
    rw [cntL, wsum, cntL_wsum l r, ind]
    split <;> simp

theorem wsum_mrg (φ : List V → Int) : ∀ (a b : List Ent), wsum φ (mrg a b) = wsum φ a + wsum φ b
  | [], b => by rw [mrg_nil, wsum]; omega
  | x :: a, [] => by rw [mrg_nil2]; simp [wsum]
  | x :: a, y :: b => by
    rw [mrg_cons]
    have ex : wsum φ (x :: a) = x.cnt * φ x.row + wsum φ a := rfl
    have ey : wsum φ (y :: b) = y.cnt * φ y.row + wsum φ b := rfl
    split
    · rw [wsum, wsum_mrg φ a (y :: b), ex]; omega
    split
    · rw [wsum, wsum_mrg φ (x :: a) b, ey]; omega
    · have hr : x.row = y.row := (rowsCmp_zero _ _).1 (by have := rowsCmp_vals x.row y.row; omega)
      rw [wsum, wsum_mrg φ a b, ex, ey]
      simp only [hr, Int.add_mul]; omega
termination_by a b => a.length + b.length

theorem wsum_nz (φ : List V → Int) : ∀ (l : List Ent), wsum φ (l.filter nzB) = wsum φ l
  | [] => rfl
  | e :: l => by
    rw [List.filter_cons]
    split
    · rw [wsum, wsum, wsum_nz φ l]
    · rename_i h
      have : e.cnt = 0 := by simpa [nzB] using h
      rw [wsum, wsum_nz φ l, this]; simp

def wt (φ : List V → Int) (x : It) : Int := if x.v.kind ≠ 0 then x.c * φ [x.v] else 0

def tot (f : It → Int) : List It → Int
  | [] => 0
  | x :: l => f x + tot f l

theorem tot_append (f : It → Int) : ∀ (a b : List It), tot f (a ++ b) = tot f a + tot f b
  | [], b => by simp [tot]
  | x :: a, b => by rw [List.cons_append, tot, tot, tot_append f a b]; omega

theorem tot_bound (f : It → Int) (B : Int) (hB : 0 ≤ B) : ∀ (l : List It), (∀ x ∈ l, -B ≤ f x ∧ f x ≤ B) → -(B * l.length) ≤ tot f l ∧ tot f l ≤ B * l.length
  | [], _ => by simp [tot]
  | x :: l, h => by
    have h1 := tot_bound f B hB l fun x hx => h x (List.mem_cons_of_mem _ hx)
    have h2 := h x (List.mem_cons_self ..)
    rw [tot, List.length_cons, Int.natCast_add, Int.mul_add]
    simp only [Int.natCast_one, Int.mul_one]
    omega

structure Rep (G : Grp) (l : List It) : Prop where
  ok : grpB G = 0
  n : G.n = tot It.c l
  cnt : ∀ φ, wsum φ G.vals = tot (wt φ) l
  len : G.vals.length ≤ l.length

theorem Rep.uniq {G G' : Grp} {l l' : List It} (h : Rep G l) (h' : Rep G' l') (h1 : tot It.c l = tot It.c l') (h2 : ∀ φ, tot (wt φ) l = tot (wt φ) l') : G = G' := by
  have e : G.vals = G'.vals := bagB_ext (grpB_ok h.ok).2.2.1 (grpB_ok h'.ok).2.2.1 fun r => by rw [cntL_wsum, cntL_wsum, h.cnt, h'.cnt, h2]
  have en : G.n = G'.n := by rw [h.n, h'.n, h1]
  cases G; cases G'; simp only at e en; subst e en; rfl

def ItOk (x : It) : Prop := validB x.v = true ∧ -5 ≤ x.c ∧ x.c ≤ 5

theorem wt_bound (x : It) (h : ItOk x) (r : List V) : -5 ≤ wt (ind r) x ∧ wt (ind r) x ≤ 5 := by
  obtain ⟨_, h1, h2⟩ := h
  unfold wt ind
  split
  · split <;> omega
  · omega

theorem oneB_row {a b : Ent} (h : a.row = b.row) : oneB a = oneB b := by unfold oneB; rw [h]

theorem Rep.merge {G G' : Grp} {p q : List It} (h : Rep G p) (h' : Rep G' q) (hp : ∀ x ∈ p, ItOk x) (hq : ∀ x ∈ q, ItOk x) (hl : p.length + q.length ≤ 4096) :
    mrgE G G' = 0 ∧ Rep (mrgG G G') (p ++ q) := by
  obtain ⟨_, g1, g2, g3⟩ := grpB_ok h.ok
  obtain ⟨_, k1, k2, k3⟩ := grpB_ok h'.ok
  have hpq : ∀ x ∈ p ++ q, ItOk x := fun x hx => (List.mem_append.1 hx).elim (hp x) (hq x)
  have hn := tot_bound It.c 5 (by omega) (p ++ q) fun x hx => (hpq x hx).2
  rw [tot_append, List.length_append] at hn
  have hc : ∀ r, cntL (mrg G.vals G'.vals) r = tot (wt (ind r)) (p ++ q) := fun r => by rw [cntL_wsum, wsum_mrg, h.cnt, h'.cnt, tot_append]
  have hcs : ∀ r, smallB (cntL (mrg G.vals G'.vals) r) = true := fun r => by
    have := tot_bound (wt (ind r)) 5 (by omega) (p ++ q) fun x hx => wt_bound x (hpq x hx) r
    rw [List.length_append] at this
    rw [hc, smallB]; simp; omega
  have hml := mrg_length G.vals G'.vals
  have hl1 := h.len
  have hl2 := h'.len
  have hfl := List.length_filter_le nzB (mrg G.vals G'.vals)
  have hs := srt_mrg _ _ ((bagB_iff _).1 g2).2.2 ((bagB_iff _).1 k2).2.2
  have hrow : ∀ e ∈ mrg G.vals G'.vals, (e.row.length ≤ 12 ∧ e.row.all validB = true) ∧ oneB e = true := fun e he => by
    rcases mem_mrg _ _ e he with ⟨x, hx, hxr⟩ | ⟨x, hx, hxr⟩
    · exact ⟨hxr ▸ fit_row g2 x hx, oneB_row hxr ▸ List.all_eq_true.1 g3 x hx⟩
    · exact ⟨hxr ▸ fit_row k2 x hx, oneB_row hxr ▸ List.all_eq_true.1 k3 x hx⟩
  obtain ⟨r1, r2⟩ := resOk hs (by omega) (fun e he => (hrow e he).1) hcs
  have hrows : rowsB (G.n + G'.n) = true := by rw [h.n, h'.n, rowsB]; simp; omega
  have hE : mrgE G G' = 0 := by
    rw [mrgE, if_neg (by simp [hrows]), sumE, if_neg (by simp [g2]), if_neg (by simp [k2]), if_pos r1]
  have hG : mrgG G G' = ⟨G.n + G'.n, sumL G.vals G'.vals⟩ := by rw [mrgG, if_pos hE]
  refine ⟨hE, ?_⟩
  rw [hG]
  refine ⟨grpB_intro hrows r2 (List.all_eq_true.2 fun e he => (hrow e (List.mem_filter.1 he).1).2), ?_, fun φ => ?_, ?_⟩
  · rw [tot_append, ← h.n, ← h'.n]
  · show wsum φ ((mrg G.vals G'.vals).filter nzB) = _
    rw [wsum_nz, wsum_mrg, h.cnt, h'.cnt, tot_append]
  · rw [List.length_append]
    show ((mrg G.vals G'.vals).filter nzB).length ≤ _
    omega

theorem Rep.nil : Rep g0 [] := ⟨grpB_intro rfl rfl rfl, rfl, fun _ => rfl, Nat.le_refl _⟩

theorem Rep.one (x : It) (h : ItOk x) : Rep (oneG x.v x.c) [x] := by
  obtain ⟨hv, h1, h2⟩ := h
  have hsm : smallB x.c = true := by simp [smallB]; omega
  have hr : rowsB x.c = true := by simp [rowsB]; omega
  by_cases hx : x.v.kind ≠ 0 ∧ x.c ≠ 0
  · have ho : oneG x.v x.c = ⟨x.c, [⟨[x.v], x.c⟩]⟩ := by rw [oneG, if_pos hx]
    rw [ho]
    refine ⟨grpB_intro hr (bagB_one _ _ hv hx.2 hsm) (by simp [oneB, hx.1]), by simp [tot], fun φ => ?_, by simp⟩
    simp only [tot, wsum, wt]; rw [if_pos hx.1]
  · have ho : oneG x.v x.c = ⟨x.c, []⟩ := by rw [oneG, if_neg hx]
    rw [ho]
    refine ⟨grpB_intro hr rfl rfl, by simp [tot], fun φ => ?_, by simp⟩
    simp only [tot, wsum, wt]
    split
    · rename_i hk
      have : x.c = 0 := Classical.byContradiction fun hn => hx ⟨hk, hn⟩
      rw [this]; simp
    · rfl

theorem Rep.add {G : Grp} {p : List It} {x : It} (h : Rep G p) (hp : ∀ x ∈ p, ItOk x) (hx : ItOk x) (hl : p.length + 1 ≤ 4096) :
    addGE G x.v x.c = 0 ∧ Rep (addGG G x.v x.c) (p ++ [x]) := by
  have hsm : smallB x.c = true := by have := hx.2; simp [smallB]; omega
  have hpre : preE G x.v x.c = 0 := by rw [preE, if_neg (by simp [h.ok]), if_neg (by simp [hx.1]), if_neg (by simp [hsm])]
  have hm := h.merge (Rep.one x hx) hp (fun y hy => by rw [List.mem_singleton] at hy; subst hy; exact hx) (by simpa using hl)
  rw [addGE, addGG, if_neg (by simp [hpre]), if_neg (by simp [hpre])]
  exact hm

end Go.AW

namespace Go.AW
variable [Draws]
attribute [local irreducible] ACalls
def pureO : AObj → Bool
  | .arr _ es => pureEs es
  | .iter _ _ => true
  | .map kvs => kvs.all fun kv => kv.2.isPure

theorem gpO_of {H : List AObj} {ids : List Nat} : ∀ (is : List Nat) (r : List AObj), is.length = r.length → (∀ (k id : Nat) (o : AObj), is[k]? = some id → r[k]? = some o → H[id]? = some o ∧ pureO o = true) → gpO H ids is r
  | [], [], _, _ => trivial
  | [], _ :: _, h, _ => by simp at h
  | _ :: _, [], h, _ => by simp at h
  | id :: is, o :: r, hl, h => by
    obtain ⟨h1, h2⟩ := h 0 id o rfl rfl
    refine ⟨⟨o, h1, ?_⟩, gpO_of is r (by simpa using hl) fun k id o h1 h2 => h (k + 1) id o (by simpa using h1) (by simpa using h2)⟩
    cases o with
    | arr s es => exact .same s es h2
    | iter s p => exact .iter s p
    | map kvs => exact .mp kvs h2

theorem Gp.first {n : Nat} {live : List (Nat × AVal)} {ρ : List AVal} {H : List AObj} {I : List AVal → List AObj → Prop} (k : Nat) (H1 : List AObj) (hk : H.take k = H1) (hn : H1.length = k) (hp : H1.all pureO = true)
    (hl : ρ.length = n) (h : SvPub H (List.range k) ρ live) (hI : ∀ ρ1, Sv n live ρ1 → I ρ1 H1) : Gp [] ρ H I := by
  refine Gp.some (H1 := H1) (List.range k) List.nodup_range (gpO_of _ _ (by simp [hn]) fun j id o h1 h2 => ?_) hl h hI
  have hj := (List.getElem?_eq_some_iff.1 h2).1
  rw [List.getElem?_range (by omega)] at h1
  cases h1
  refine ⟨?_, List.all_eq_true.1 hp o (List.mem_of_getElem? h2)⟩
  rw [← hk, List.getElem?_take] at h2
  rwa [if_pos (by omega)] at h2

end Go.AW

namespace Go.AW
variable [Draws]
def BItem (x : It) : Prop := validB x.v = true ∧ 0 ≤ x.c ∧ x.c ≤ 5 ∧ (x.v.kind ≠ 0 → x.v.kind = 2 ∧ -1073741824 ≤ x.v.num ∧ x.v.num ≤ 1073741824)

theorem BItem.ok {x : It} (h : BItem x) : ItOk x := ⟨h.1, by have := h.2.1; omega, h.2.2.1⟩

theorem numV_small {n : Int} (h1 : -1073741824 ≤ n) (h2 : n ≤ 1073741824) : numV n = ⟨2, n, bs []⟩ := by rw [numV, if_neg (by omega)]

end Go.AW

namespace Go.AW
variable [Draws]
attribute [local irreducible] ACalls
def w2 (n : Int) : List Int := [u8 (n.fdiv (2 ^ 8)), u8 n]

def p4 (n : Int) : List Int := w2 (IntKind.i64.wrap (n.fdiv (2 ^ 16))) ++ [u8 (n.fdiv (2 ^ 8)), u8 n]

end Go.AW

namespace Go.AW
variable [Draws]
attribute [local irreducible] ACalls
structure Rec where
  del : Bool
  seq : Int
  row : List V

structure Fil where
  id : ByteArray
  src : ByteArray
  recs : List Rec

end Go.AW

namespace Go.AW
variable [Draws]
section
variable {P : Program} {C C' : Nat → Nat} {τ τ' : Nat → Option Loc} {H H' : List AObj} {w w' : World}
def AObj.clean : AObj → Bool
  | .arr _ es => pureEs es
  | .iter _ _ => true
  | .map kvs => kvs.all fun kv => kv.2.isPure

theorem pureKvs_get {kvs : List (AVal × AVal)} (h : (kvs.all fun kv => kv.2.isPure) = true) {i : Nat} {kv : AVal × AVal} (hi : kvs[i]? = some kv) : kv.2.isPure = true :=
  List.all_eq_true.1 h kv (List.mem_of_getElem? hi)

inductive Ren (σ : Nat → Nat) : AVal → AVal → Prop where
  | closed (v : AVal) (h : v.closed = true) : Ren σ v v
  | sl (id ep off len : Nat) : Ren σ (.sl id ep off len) (.sl (σ id) ep off len)
  | ptr (id ep idx fld : Nat) : Ren σ (.ptr id ep idx fld) (.ptr (σ id) ep idx fld)
  | agg (vs rs : List AVal) (hl : vs.length = rs.length) (h : ∀ (i : Nat) (v r : AVal), vs[i]? = some v → rs[i]? = some r → Ren σ v r) : Ren σ (.agg vs) (.agg rs)
  | tuple (vs rs : List AVal) (hl : vs.length = rs.length) (h : ∀ (i : Nat) (v r : AVal), vs[i]? = some v → rs[i]? = some r → Ren σ v r) : Ren σ (.tuple vs) (.tuple rs)

inductive RenO (σ : Nat → Nat) : AObj → AObj → Prop where
  | same (o : AObj) (h : o.clean = true) : RenO σ o o
  | arr (esz : Nat) (es es1 : List (List AVal)) (hl : es1.length = es.length) (hl2 : ∀ (i : Nat) (e e1 : List AVal), es[i]? = some e → es1[i]? = some e1 → e1.length = e.length)
      (h : ∀ (i j : Nat) (e e1 : List AVal) (d d1 : AVal), es[i]? = some e → es1[i]? = some e1 → e[j]? = some d → e1[j]? = some d1 → Ren σ d d1 ∧ d1.isCell = true) :
      RenO σ (.arr esz es) (.arr esz es1)

theorem RenO.after {σ : Nat → Nat} {o o0 o1 : AObj} {t t' : Option Loc} (h : RenO σ o0 o1) (ha : o.after o0 t t') : o.after o1 t t' := by
  cases h with
  | same => exact ha
  | arr esz es es1 hl _ _ =>
    cases o with
    | iter _ _ => exact ha
    | map _ => exact ha
    | arr z es0 => exact ⟨ha.1, by rw [hl]; exact ha.2.1, by rw [hl]; exact ha.2.2⟩

theorem RenO.ok {σ : Nat → Nat} {o0 o1 : AObj} (h : RenO σ o0 o1) (ho : o0.ok) : o1.ok := by
  cases h with
  | same => exact ho
  | arr esz es es1 hl hl2 hp =>
    intro e1 he1
    obtain ⟨n, hn⟩ := List.getElem?_of_mem he1
    have hnl := (List.getElem?_eq_some_iff.1 hn).1
    have he : es[n]? = some es[n] := List.getElem?_eq_getElem (by omega)
    obtain ⟨g1, g2⟩ := ho _ (List.mem_of_getElem? he)
    refine ⟨(hl2 n _ _ he hn).trans g1, fun d1 hd1 => ?_⟩
    obtain ⟨j, hj⟩ := List.getElem?_of_mem hd1
    have hjl := (List.getElem?_eq_some_iff.1 hj).1
    have := hl2 n _ _ he hn
    exact (hp n j _ _ _ d1 he hn (List.getElem?_eq_getElem (by omega)) hj).2

def frN (id n : Nat) (k : Nat) : Nat := match k with
  | 0 => id
  | k + 1 => n + k

theorem ACalls.frame1 {f : FuncId} {args0 args : List AVal} {Q0 Q : AVal → List AObj → Prop} {id : Nat} {o : AObj} (ho : H[id]? = some o)
    (hp : o.clean = true)
    (hal : args0.length = args.length) (ha : ∀ (i : Nat) (a b : AVal), args0[i]? = some a → args[i]? = some b → (a = b ∧ a.closed = true) ∨ ∃ ep idx fld, a = .ptr 0 ep idx fld ∧ b = .ptr id ep idx fld)
    (h : ACalls P f args0 [o] Q0)
    (hq : ∀ r H1, Q0 r H1 → ∃ r' o1 o1' G G', H1 = o1 :: G ∧ Ren (frN id H.length) r r' ∧ RenO (frN id H.length) o1 o1' ∧ G.length = G'.length ∧
      (∀ (k : Nat) (x y : AObj), G[k]? = some x → G'[k]? = some y → RenO (frN id H.length) x y) ∧ Q r' (H.set id o1' ++ G')) : ACalls P f args H Q := by
  intro C τ w vs hw hl hr
  have hid := (List.getElem?_eq_some_iff.1 ho).1
  let τ0 : Nat → Option Loc := fun k => if k = 0 then τ id else none
  have one : ∀ {k : Nat} {x : AObj}, [o][k]? = some x → k = 0 ∧ x = o := fun {k x} h => by
    cases k with
    | zero => simp at h; exact ⟨rfl, h.symm⟩
    | succ k => simp at h
  have hw0 : WF C τ0 [o] w := by
    refine ⟨fun k x h => ?_, fun k x h ht => ?_, fun k x l h ht => ?_, fun k l hk ht => ?_, fun i j li lj hi hj _ _ _ => ?_, hw.lt⟩
    · obtain ⟨rfl, rfl⟩ := one h; exact hw.ok id _ ho
    · obtain ⟨rfl, rfl⟩ := one h; exact hw.virt id _ ho ht
    · obtain ⟨rfl, rfl⟩ := one h
      have hob := hw.objs id _ l ho ht
      cases x with
      | iter s p => exact hob
      | map kvs =>
        obtain ⟨es, clock, a1, a2, a3⟩ := hob
        exact ⟨es, clock, a1, a2, fun i e kv he hkv => ⟨(a3 i e kv he hkv).1, .rd ((a3 i e kv he hkv).2.pure (pureKvs_get hp hkv))⟩⟩
      | arr esz es =>
        obtain ⟨a1, cells, elem, fz, a2, a3, a4, a5⟩ := hob
        refine ⟨a1, cells, elem, fz, a2, a3, a4, fun i j e d hi hd => ?_⟩
        obtain ⟨x, hx1, hx2⟩ := a5 i j e d hi hd
        exact ⟨x, hx1, .rd (hx2.pure (pureEs_get hp hi hd))⟩
    · have hk0 : k = 0 := by simp at hk; omega
      subst hk0; exact hw.comm id l hid ht
    · simp at hi hj; omega
  have hr0 : ∀ (i : Nat) (a : AVal) (v : Value), args0[i]? = some a → vs[i]? = some v → Rel C w τ0 [o] a v := fun i a v h1 h2 => by
    have hi := (List.getElem?_eq_some_iff.1 h1).1
    have hb : args[i]? = some args[i] := List.getElem?_eq_getElem (by omega)
    have hrel := hr i _ v hb h2
    rcases ha i a _ h1 hb with ⟨e, hc⟩ | ⟨ep, idx, fld, rfl, e⟩
    · rw [← e] at hrel
      exact hrel.closed hc (fun _ => Nat.le_refl _) (fun _ _ _ => rfl)
    · rw [e] at hrel
      cases hrel with
      | rd h => cases h
      | ptr _ _ _ _ a esz es ho2 hep h3 =>
        rw [ho] at ho2; cases ho2
        exact .ptr 0 ep idx fld a esz es rfl hep h3
  have hc := h C τ0 w vs hw0 (by omega) hr0
  have fin : ∀ (e : Ending) (w' : World), (∃ v r C' τ' H', e = .returned v ∧ Q0 r H' ∧ Rel C' w' τ' H' r v ∧ St w (PrCall τ0 [o] w) C' τ' H' w' ∧ Step C τ0 [o] w C' τ' H' w') →
      ∃ v r C' τ' H', e = .returned v ∧ Q r H' ∧ Rel C' w' τ' H' r v ∧ St w (PrCall τ H w) C' τ' H' w' ∧ Step C τ H w C' τ' H' w' := by
    rintro e w' ⟨v, r, C1, τ1, H1, he, hq0, hrel, hst, hstep⟩
    obtain ⟨r', o1, o1', G, G', rfl, hrr, hro, hgl, hG, hQ⟩ := hq r H1 hq0
    
    have hoth : ∀ j l, j < H.length → j ≠ id → τ j = some l → PrCall τ0 [o] w l.b := fun j l hj hne ht =>
      ⟨hw.locLt hj ht, by
        rintro ⟨k, l', hk, ht', hb⟩
        have hk0 : k = 0 := by simp at hk; omega
        subst hk0
        exact hne (hw.inj j id l l' hj hid ht ht' hb.symm)⟩
    have hheap : ∀ j l, j < H.length → j ≠ id → τ j = some l → w'.heap[l.b]? = w.heap[l.b]? := fun j l hj hne ht => hst.fr.prot _ (hoth j l hj hne ht)
    let τ2 : Nat → Option Loc := fun i => if i = id then τ1 0 else if i < H.length then τ i else τ1 (i - H.length + 1)
    have t0 : τ2 id = τ1 0 := by simp only [τ2, if_true]
    have tO : ∀ j, j < H.length → j ≠ id → τ2 j = τ j := fun j hj hne => by simp only [τ2, if_neg hne, if_pos hj]
    have tN : ∀ k, τ2 (H.length + k) = τ1 (k + 1) := fun k => by
      simp only [τ2, if_neg (by omega : ¬ H.length + k = id), if_neg (by omega : ¬ H.length + k < H.length), Nat.add_sub_cancel_left]
    have tF : ∀ k, τ2 (frN id H.length k) = τ1 k := fun k => by
      cases k with
      | zero => exact t0
      | succ k => exact tN k
    have gid : (H.set id o1' ++ G')[id]? = some o1' := by rw [List.getElem?_append_left (by rw [List.length_set]; exact hid), List.getElem?_set_self hid]
    have gO : ∀ j, j < H.length → j ≠ id → (H.set id o1' ++ G')[j]? = H[j]? := fun j hj hne => by
      rw [List.getElem?_append_left (by rw [List.length_set]; exact hj), List.getElem?_set_ne (Ne.symm hne)]
    have gN : ∀ k, (H.set id o1' ++ G')[H.length + k]? = G'[k]? := fun k => by
      rw [List.getElem?_append_right (by rw [List.length_set]; omega), List.length_set, Nat.add_sub_cancel_left]
    
    have gF : ∀ k x, (o1 :: G)[k]? = some x → ∃ y, (H.set id o1' ++ G')[frN id H.length k]? = some y ∧ RenO (frN id H.length) x y := fun k x hx => by
      cases k with
      | zero => simp at hx; subst hx; exact ⟨o1', gid, hro⟩
      | succ k =>
        have hk : k < G.length := (List.getElem?_eq_some_iff.1 (by simpa using hx : G[k]? = some x)).1
        have hy : G'[k]? = some G'[k] := List.getElem?_eq_getElem (by omega)
        exact ⟨G'[k], (gN k).trans hy, hG k x _ (by simpa using hx) hy⟩
    have split : ∀ i, i < (H.set id o1' ++ G').length → (i < H.length ∧ i ≠ id) ∨ ∃ k, i = frN id H.length k ∧ k < (o1 :: G).length := fun i hi => by
      rw [List.length_append, List.length_set] at hi
      by_cases h1 : i = id
      · exact .inr ⟨0, h1, by simp⟩
      · by_cases h2 : i < H.length
        · exact .inl ⟨h2, h1⟩
        · exact .inr ⟨i - H.length + 1, by simp only [frN]; omega, by simp; omega⟩
    have frInj : ∀ k k', frN id H.length k = frN id H.length k' → k = k' := fun k k' h => by
      cases k <;> cases k' <;> simp only [frN] at h <;> omega
    have step : Step C τ H w C1 τ2 (H.set id o1' ++ G') w' := by
      refine ⟨hstep.le, hstep.cell, fun j x hx => ?_, hstep.grow, hstep.old⟩
      have hj := (List.getElem?_eq_some_iff.1 hx).1
      by_cases e1 : j = id
      · subst e1
        rw [ho] at hx; cases hx
        obtain ⟨o', h1, h2⟩ := hstep.obj 0 o rfl
        simp at h1; subst h1
        refine ⟨o1', gid, ?_⟩
        rw [t0]
        have : τ0 0 = τ j := by simp only [τ0, if_true]
        rw [this] at h2
        exact hro.after h2
      · exact ⟨x, by rw [gO j hj e1]; exact hx, by rw [tO j hj e1]; exact x.after_refl _⟩
    have ren : ∀ {a b : AVal}, Ren (frN id H.length) a b → ∀ {u : Value}, Rel C1 w' τ1 (o1 :: G) a u → Rel C1 w' τ2 (H.set id o1' ++ G') b u := by
      intro a b hab
      induction hab with
      | closed v h => intro u hu; exact hu.closed h (fun _ => Nat.le_refl _) (fun _ _ _ => rfl)
      | sl k ep off len =>
        intro u hu
        cases hu with
        | rd h => cases h
        | sl _ _ _ _ a cap esz es ho2 hep h3 =>
          obtain ⟨y, hy, hry⟩ := gF k _ ho2
          cases hry with
          | same _ _ => exact .sl _ ep off len a cap esz es hy hep fun e => by rw [tF]; exact h3 e
          | arr _ _ es1 hl1 _ _ => exact .sl _ ep off len a cap esz es1 hy (by omega) fun e => by rw [tF, hl1]; exact h3 (by omega)
      | ptr k ep idx fld =>
        intro u hu
        cases hu with
        | rd h => cases h
        | ptr _ _ _ _ a esz es ho2 hep h3 =>
          obtain ⟨y, hy, hry⟩ := gF k _ ho2
          cases hry with
          | same _ _ => exact .ptr _ ep idx fld a esz es hy hep fun e => by rw [tF]; exact h3 e
          | arr _ _ es1 hl1 _ _ => exact .ptr _ ep idx fld a esz es1 hy (by omega) fun e => by rw [tF]; exact h3 (by omega)
      | agg vs rs hl h ih =>
        intro u hu
        obtain ⟨us, rfl, hl2, hr2⟩ := hu.agg_inv
        refine .agg _ _ (by omega) fun i c v hc hv => ?_
        have hi := (List.getElem?_eq_some_iff.1 hc).1
        have hvi : vs[i]? = some vs[i] := List.getElem?_eq_getElem (by omega)
        exact ih i _ c hvi hc (hr2 i _ v hvi hv)
      | tuple vs rs hl h ih =>
        intro u hu
        obtain ⟨us, rfl, hl2, hr2⟩ := hu.tuple_inv
        refine .tuple _ _ (by omega) fun i c v hc hv => ?_
        have hi := (List.getElem?_eq_some_iff.1 hc).1
        have hvi : vs[i]? = some vs[i] := List.getElem?_eq_getElem (by omega)
        exact ih i _ c hvi hc (hr2 i _ v hvi hv)
    have hgetF : ∀ k, k < (o1 :: G).length → ∃ x, (o1 :: G)[k]? = some x := fun k hk => ⟨_, List.getElem?_eq_getElem hk⟩
    refine ⟨v, r', C1, τ2, H.set id o1' ++ G', he, hQ, ren hrr hrel, ⟨⟨fun i x hx => ?_, fun i x hx ht => ?_, fun i x l hx ht => ?_, fun i l hi ht => ?_, fun i j li lj hi hj hti htj hb => ?_, hst.wf.lt⟩,
      ⟨hst.fr.os, hst.fr.tape, hst.fr.output, hst.fr.size, fun b hb => hst.fr.prot b ⟨hb.1, ?_⟩, hst.fr.drawn⟩, ?_, fun b hb => hb.1⟩, step⟩
    · rcases split i (List.getElem?_eq_some_iff.1 hx).1 with ⟨h1, h2⟩ | ⟨k, rfl, hk⟩
      · rw [gO i h1 h2] at hx; exact hw.ok i x hx
      · obtain ⟨z, hz⟩ := hgetF k hk
        obtain ⟨y, hy, hry⟩ := gF k z hz
        rw [hx] at hy; cases hy
        exact hry.ok (hst.wf.ok k z hz)
    · rcases split i (List.getElem?_eq_some_iff.1 hx).1 with ⟨h1, h2⟩ | ⟨k, rfl, hk⟩
      · rw [gO i h1 h2] at hx; rw [tO i h1 h2] at ht; exact hw.virt i x hx ht
      · obtain ⟨z, hz⟩ := hgetF k hk
        obtain ⟨y, hy, hry⟩ := gF k z hz
        rw [hx] at hy; cases hy
        rw [tF] at ht
        obtain ⟨esz, rfl⟩ := hst.wf.virt k z hz ht
        cases hry with
        | same _ _ => exact ⟨esz, rfl⟩
        | arr _ _ es1 hl1 _ _ =>
          have : es1 = [] := List.length_eq_zero_iff.1 hl1
          subst this; exact ⟨esz, rfl⟩
    · rcases split i (List.getElem?_eq_some_iff.1 hx).1 with ⟨h1, h2⟩ | ⟨k, rfl, hk⟩
      · rw [gO i h1 h2] at hx; rw [tO i h1 h2] at ht
        exact (hw.objs i x l hx ht).mono step (hheap i l h1 h2 ht)
      · obtain ⟨z, hz⟩ := hgetF k hk
        obtain ⟨y, hy, hry⟩ := gF k z hz
        rw [hx] at hy; cases hy
        rw [tF] at ht
        have hob := hst.wf.objs k z l hz ht
        cases hry with
        | same _ hpz =>
          cases x with
          | iter s p => exact hob
          | map kvs =>
            obtain ⟨es, clock, a1, a2, a3⟩ := hob
            exact ⟨es, clock, a1, a2, fun i e kv he hkv => ⟨(a3 i e kv he hkv).1, .rd ((a3 i e kv he hkv).2.pure (pureKvs_get hpz hkv))⟩⟩
          | arr esz es =>
            obtain ⟨a1, cells, elem, fz, a2, a3, a4, a5⟩ := hob
            refine ⟨a1, cells, elem, fz, a2, a3, a4, fun i j e d hi hd => ?_⟩
            obtain ⟨x, hx1, hx2⟩ := a5 i j e d hi hd
            exact ⟨x, hx1, .rd (hx2.pure (pureEs_get hpz hi hd))⟩
        | arr esz es es1 hl1 hl2 hp2 =>
          obtain ⟨a1, cells, elem, fz, a2, a3, a4, a5⟩ := hob
          refine ⟨by omega, cells, elem, fz, a2, a3, a4, fun i j e1 d1 hi hd => ?_⟩
          have hil := (List.getElem?_eq_some_iff.1 hi).1
          have hjl := (List.getElem?_eq_some_iff.1 hd).1
          have he : es[i]? = some es[i] := List.getElem?_eq_getElem (by omega)
          have hl3 := hl2 i _ _ he hi
          have hd0 : es[i][j]? = some es[i][j] := List.getElem?_eq_getElem (by omega)
          obtain ⟨x, hx1, hx2⟩ := a5 i j _ _ he hd0
          exact ⟨x, hx1, ren (hp2 i j _ _ _ d1 he hi hd0 hd).1 hx2⟩
    · rcases split i hi with ⟨h1, h2⟩ | ⟨k, rfl, hk⟩
      · rw [tO i h1 h2] at ht
        rw [hstep.old _ (hw.locLt h1 ht)]; exact hw.comm i l h1 ht
      · rw [tF] at ht; exact hst.wf.comm k l hk ht
    · rcases split i hi with ⟨h1, h2⟩ | ⟨k, rfl, hk⟩ <;> rcases split j hj with ⟨h3, h4⟩ | ⟨k', rfl, hk'⟩
      · rw [tO i h1 h2] at hti; rw [tO j h3 h4] at htj; exact hw.inj i j li lj h1 h3 hti htj hb
      · rw [tO i h1 h2] at hti; rw [tF] at htj
        exact absurd (hb ▸ hoth i li h1 h2 hti) (hst.own _ ⟨k', lj, hk', htj, rfl⟩)
      · rw [tF] at hti; rw [tO j h3 h4] at htj
        exact absurd (hb ▸ hoth j lj h3 h4 htj) (hst.own _ ⟨k, li, hk, hti, rfl⟩)
      · rw [tF] at hti htj
        rw [hst.wf.inj k k' li lj hk hk' hti htj hb]
    · rintro ⟨k, l, hk, ht, hb2⟩
      have hk0 : k = 0 := by simp at hk; omega
      subst hk0
      exact hb.2 ⟨id, l, hid, ht, hb2⟩
    · rintro b ⟨i, l, hi, ht, rfl⟩ hp2
      rcases split i hi with ⟨h1, h2⟩ | ⟨k, rfl, hk⟩
      · rw [tO i h1 h2] at ht; exact hp2.2 ⟨i, l, h1, ht, rfl⟩
      · rw [tF] at ht
        refine hst.own _ ⟨k, l, hk, ht, rfl⟩ ⟨hp2.1, ?_⟩
        rintro ⟨k2, l2, hk2, ht2, hb2⟩
        have hk0 : k2 = 0 := by simp at hk2; omega
        subst hk0
        exact hp2.2 ⟨id, l2, hid, ht2, hb2⟩
  unfold CallsX at hc ⊢
  split at hc
  · exact Calls.mono hc fun e w' hh => fin e w' hh
  · exact fin _ _ hc
  · exact hc

def FrArgs (id : Nat) : List AVal → List AVal → Prop
  | [], [] => True
  | a :: asv, b :: bs => ((a = b ∧ a.closed = true) ∨ ∃ ep idx fld, a = .ptr 0 ep idx fld ∧ b = .ptr id ep idx fld) ∧ FrArgs id asv bs
  | _, _ => False

theorem FrArgs.get {id : Nat} : ∀ {asv bs : List AVal}, FrArgs id asv bs → asv.length = bs.length ∧ ∀ (i : Nat) (a b : AVal), asv[i]? = some a → bs[i]? = some b → (a = b ∧ a.closed = true) ∨ ∃ ep idx fld, a = .ptr 0 ep idx fld ∧ b = .ptr id ep idx fld
  | [], [], _ => ⟨rfl, fun i a b h => by simp at h⟩
  | a :: asv, b :: bs, h => by
    obtain ⟨h1, h2⟩ := FrArgs.get h.2
    refine ⟨by simp [h1], fun i x y hx hy => ?_⟩
    cases i with
    | zero => simp at hx hy; subst hx hy; exact h.1
    | succ i => exact h2 i x y (by simpa using hx) (by simpa using hy)
  | [], _ :: _, h => h.elim
  | _ :: _, [], h => h.elim

theorem FrArgs.cl {id : Nat} {a : AVal} {asv bs : List AVal} (h : a.closed = true) (hs : FrArgs id asv bs) : FrArgs id (a :: asv) (a :: bs) := ⟨.inl ⟨rfl, h⟩, hs⟩

theorem ACalls.fr {f : FuncId} {args0 args : List AVal} {id : Nat} {o o1 : AObj} {R : AVal} (h : ACalls P f args0 [o] (fun r H' => r = R ∧ H' = [o1])) (ho : H[id]? = some o)
    (hp : o.clean = true) (hp1 : o1.clean = true) (ha : FrArgs id args0 args) (hR : Ren (frN id H.length) R R) : ACalls P f args H (fun r H' => r = R ∧ H' = H.set id o1) := by
  obtain ⟨hl, ha⟩ := ha.get
  refine ACalls.frame1 ho hp hl ha h ?_
  rintro r H1 ⟨rfl, rfl⟩
  exact ⟨_, o1, o1, [], [], rfl, hR, .same _ hp1, rfl, fun k x y h => by simp at h, rfl, by simp⟩

end
theorem Gp.res {n0 : List Nat} {r r' : AVal} {H H1 : List AObj} {I : List AVal → List AObj → Prop} (ids : List Nat) (hnd : ids.Nodup) (hb : keepB n0 ids H) (ho : gpO H ids ids H1) (hp : Pub H 0 ids r r') (hI : I [r'] H1) : Gp n0 [r] H I :=
  .inr ⟨ids, [r'], H1, hnd, hb, ho, ⟨hp, trivial⟩, hI⟩

end Go.AW

namespace Go.AW
variable [Draws]
attribute [local irreducible] ACalls
structure RdS where
  rest : List Int
  bad : Bool

def tkB (n : Int) (s : RdS) : Bool := !s.bad && decide (n ≤ s.rest.length)

def tkL (n : Int) (s : RdS) : List Int := if tkB n s then s.rest.take n.toNat else []

def tkS (n : Int) (s : RdS) : RdS := if tkB n s then ⟨s.rest.drop n.toNat, false⟩ else ⟨s.rest, true⟩

def nbV (n : Int) (s : RdS) : Int := num (tkL n s)

def txS (s : RdS) : RdS := tkS (nbV 1 s) (tkS 1 s)

end Go.AW

namespace Go.AW
variable [Draws]
attribute [local irreducible] ACalls
def f0 : Fil := ⟨bs [], bs [], []⟩

def dS (l : List Int) : RdS := ⟨l.take (l.length - 4), false⟩

end Go.AW

namespace Go.AW
variable [Draws]
attribute [local irreducible] ACalls
def z1 (l : List Int) : RdS := tkS 4 (dS l)

def z2 (l : List Int) : RdS := txS (z1 l)

def z3 (l : List Int) : RdS := txS (z2 l)

def z4 (l : List Int) : RdS := tkS 2 (z3 l)

end Go.AW

namespace Go.AW
variable [Draws]
attribute [local irreducible] ACalls
def gO (l : List Int) (i : Nat) : AObj := .arr 2 [[.list false 1 (iC l), .int .i64 i]]

def nx (l : List Int) (i : Nat) (n : Int) : Int × Nat := if l.length ≤ i ∨ n < 1 then (0, i) else (l.getD i 0 % n, i + 1)

def inB (l : List ByteArray) (s : ByteArray) : Bool := l.any fun x => eqS x s

def instL : List Int := [144000, 144719, 145380, 145400, 145439, 145440, 145500, 146000, 146879, 146880, 148000, 148320, 149000, 151199, 151200, 153000]

def wtexts : List ByteArray := [bs [], bs [97], bs [98], bs [105, 116, 39, 115], bs [122, 122]]

def wv1 (k : Int) (l : List Int) (i : Nat) : V × Nat :=
  if k = 1 then (⟨1, (nx l i 2).1, bs []⟩, (nx l i 2).2)
  else if k = 2 then (⟨2, (nx l i 7).1 - 1, bs []⟩, (nx l i 7).2)
  else if k = 3 then (⟨3, 0, wtexts.getD (nx l i 5).1.toNat (bs [])⟩, (nx l i 5).2)
  else (⟨4, instL.getD (nx l i 16).1.toNat 0, bs []⟩, (nx l i 16).2)

def wv (c : Col) (l : List Int) (i : Nat) : V × Nat :=
  if c.nul then (if (nx l i 5).1 = 0 then (zV, (nx l i 5).2) else wv1 c.kind l (nx l i 5).2) else wv1 c.kind l i

end Go.AW

namespace Go.AW
variable [Draws]
attribute [local irreducible] ACalls
def wr (l : List Int) : List Col → Nat → List V → List V × Nat
  | [], i, out => (out, i)
  | c :: cs, i, out => wr l cs (wv c l i).2 (out ++ [(wv c l i).1])

end Go.AW

namespace Go.AW
variable [Draws]
attribute [local irreducible] ACalls
structure Src where
  cols : List Col
  key : List ByteArray
  late : Int
  reopen : Int

end Go.AW

namespace Go.AW
variable [Draws]
attribute [local irreducible] ACalls
def sAt : ByteArray := bs [97, 116]

def keepC (key : List ByteArray) (c : Col) : Bool := inB key c.name || eqS c.name sAt

def delR (key : List ByteArray) : List Col → List V → List V
  | c :: cs, v :: vs => (if keepC key c then v else zV) :: delR key cs vs
  | _, _ => []

end Go.AW

namespace Go.AW
variable [Draws]
attribute [local irreducible] ACalls
def wk (s : Src) (l : List Int) (i : Nat) : Int × Nat := nx l (wr l s.cols (nx l i 4).2 []).2 24

def wrow (s : Src) (l : List Int) (i : Nat) : List V := (wr l s.cols (nx l i 4).2 []).1

def wrec (s : Src) (l : List Int) (i : Nat) : Rec × Nat :=
  if (wk s l i).1 < 5 then (⟨true, (nx l i 4).1, delR s.key s.cols (wrow s l i)⟩, (wk s l i).2)
  else if (wk s l i).1 = 5 then (⟨true, (nx l i 4).1, wrow s l i⟩, (wk s l i).2)
  else if (wk s l i).1 = 6 then (⟨false, (nx l i 4).1, (wrow s l i).take (s.cols.length - 1)⟩, (wk s l i).2)
  else if (wk s l i).1 = 7 then (⟨false, (nx l i 4).1, (wrow s l i).set (nx l (wk s l i).2 s.cols.length).1.toNat ⟨1, 1, bs []⟩⟩, (nx l (wk s l i).2 s.cols.length).2)
  else if (wk s l i).1 = 8 then (⟨false, -1, wrow s l i⟩, (wk s l i).2)
  else (⟨false, (nx l i 4).1, wrow s l i⟩, (wk s l i).2)

end Go.AW

namespace Go.AW
variable [Draws]
attribute [local irreducible] ACalls
def wf (s : Src) (l : List Int) : Nat → Nat → List Rec → List Rec × Nat
  | 0, i, L => (L, i)
  | k + 1, i, L => wf s l k (wrec s l i).2 (L ++ [(wrec s l i).1])

end Go.AW

namespace Go.AW
variable [Draws]
attribute [local irreducible] ACalls
def tO (x y z : List Int) : AObj := .arr 1 [[.list false 1 (bC x)], [.list false 1 (bC y)], [.list false 1 (bC z)]]

end Go.AW

namespace Go.AW
variable [Draws]
attribute [local irreducible] ACalls
set_option maxRecDepth 20000 in
theorem ins0_spec {P : Program} (F : F_slices_insertionSortCmpFunc_Entry P) (X : AVal) (g : FuncId) (H : List AObj) :
    ACalls P F.id [X, .int .i64 0, .int .i64 0, .fn g []] H (fun r H' => r = .tuple [] ∧ H' = H) := by
  refine acalls_of_body F.has ?_
  conv => whnf
  refine ⟨fun m ρ H1 => H1 = H ∧ Sv 53 [(1, .int .i64 0), (2, .int .i64 0), (8, .int .i64 1)] ρ, 0, [], ?_, ?_⟩
  · exact ⟨rfl, Sv.intro rfl ⟨rfl, rfl, rfl, trivial⟩⟩
  rintro m ρ H1 ⟨rfl, d, rfl⟩
  conv => whnf
  exact ⟨rfl, rfl⟩

set_option maxRecDepth 20000 in
theorem Len64_0 {P : Program} (F : F_math_bits_Len64 P) (H : List AObj) :
    ACalls P F.id [.int .u64 0] H (fun r H' => r = .int .i64 0 ∧ H' = H) := by
  refine ACalls.pure rfl (acalls_of_body F.has ?_)
  (conv => whnf); refine And.intro (by decide) ?_
  conv => whnf
  exact .closed _ rfl

theorem Len_0 {P : Program} (F : F_math_bits_Len P) (H : List AObj) :
    ACalls P F.id [.int .u64 0] H (fun r H' => r = .int .i64 0 ∧ H' = H) := by
  refine ACalls.pure rfl (acalls_of_body F.has ?_)
  (conv => whnf); refine ACalls.use (Len64_0 F.math_bits_Len64 _) ?_
  conv => whnf
  exact .closed _ rfl

set_option maxRecDepth 20000 in
theorem pdq0_spec {P : Program} (F : F_slices_pdqsortCmpFunc_Entry P) (X : AVal) (g : FuncId) (H : List AObj) :
    ACalls P F.id [X, .int .i64 0, .int .i64 0, .int .i64 0, .fn g []] H (fun r H' => r = .tuple [] ∧ H' = H) := by
  refine acalls_of_body F.has ?_
  conv => whnf
  refine ⟨fun m ρ H1 => H1 = H ∧ Sv 148 [(0, X), (1, .int .i64 0), (2, .int .i64 0), (3, .int .i64 0), (4, .fn g []), (10, .bool true), (11, .bool true)] ρ, 0, [], ?_, ?_⟩
  · exact ⟨rfl, Sv.intro rfl ⟨rfl, rfl, rfl, rfl, rfl, rfl, rfl, trivial⟩⟩
  rintro m ρ H1 ⟨rfl, d, rfl⟩
  (conv => whnf); refine ACalls.use (ins0_spec F.slices_insertionSortCmpFunc_Entry X g _) ?_
  conv => whnf
  exact ⟨rfl, rfl⟩

theorem sort0_spec {P : Program} (F : F_slices_SortFunc_LEntry_Entry P) (id : Nat) (g : FuncId) (H : List AObj) (ho : H[id]? = some (.arr 2 [])) :
    ACalls P F.id [.sl id 0 0 0, .fn g []] H (fun r H' => r = .tuple [] ∧ H' = H) := by
  refine acalls_of_body F.has ?_
  (conv => whnf); refine recO (ho) ?_
  (conv => whnf); refine ACalls.use (Len_0 F.math_bits_Len _) ?_
  (conv => whnf); refine ACalls.use (pdq0_spec F.slices_pdqsortCmpFunc_Entry (.sl id 0 0 0) g _) ?_
  conv => whnf
  exact ⟨rfl, rfl⟩

theorem sort0n_spec {P : Program} (F : F_slices_SortFunc_LEntry_Entry P) (g : FuncId) (H : List AObj) :
    ACalls P F.id [.nil, .fn g []] H (fun r H' => r = .tuple [] ∧ H' = H) := by
  refine acalls_of_body F.has ?_
  (conv => whnf); refine ACalls.use (Len_0 F.math_bits_Len _) ?_
  (conv => whnf); refine ACalls.use (pdq0_spec F.slices_pdqsortCmpFunc_Entry .nil g _) ?_
  conv => whnf
  exact ⟨rfl, rfl⟩

end Go.AW

namespace Go.AW
variable [Draws]
attribute [local irreducible] ACalls
def posE (e : Ent) : Bool := decide (0 < e.cnt)

def szW : List Ent → Int → Int
  | [], a => a
  | e :: l, a => szW l (IntKind.i64.wrap (a + e.cnt))

def sizeR (b : List Ent) : AVal := if bagB b = 0 then .tuple [.int .i64 (szW b 0), .int .i64 0] else .tuple [.int .i64 0, .int .i64 (bagB b)]

theorem bagB_le {b : List Ent} (h : bagB b = 0) : b.length ≤ 1000000 := by
  unfold bagB at h
  split at h
  · cases h
  · omega

set_option maxRecDepth 20000 in
theorem bag_Size_spec {P : Program} (F : F_bag_Size P) (ex : Bool) (b : List Ent) (H : List AObj) :
    ACalls P F.id [.list ex 2 (eC b)] H (fun r H' => r = sizeR b ∧ H' = H) := by
  refine ACalls.pure (by simp [AVal.closed, AVal.isPure]) (acalls_of_body F.has ?_)
  (conv => whnf); refine ACalls.use (bag_Validate_spec F.bag_Validate ex b _) ?_
  (conv => whnf); refine recA (fun h1 => ?_) (fun h1 => ?_)
  · simp at h1
    conv => whnf
    rw [sizeR, if_neg h1]
    exact pub2 (.closed _ rfl) (.closed _ rfl)
  simp at h1
  have hl := bagB_le h1
  conv => whnf
  refine ⟨fun m ρ H1 => ∃ (k : Nat) (a : Int), k + m = b.length ∧ szW (b.drop k) a = szW b 0 ∧ H1 = [] ∧ Sv 25 [(5, .int .i64 a), (13, .list ex 2 (eC b)), (14, .int .i64 b.length), (15, .int .i64 k)] ρ, b.length, [], ?_, ?_⟩
  · exact ⟨0, 0, by omega, rfl, rfl, Sv.intro rfl ⟨rfl, rfl, intEq (by rw [eC_length]), rfl, trivial⟩⟩
  rintro m ρ H1 ⟨k, a, hk, hr, rfl, d, rfl⟩
  (conv => whnf); refine recA (fun hlt => ?_) (fun hlt => ?_)
  · simp at hlt
    have hx : b[k]? = some b[k] := List.getElem?_eq_getElem hlt
    rw [List.drop_eq_getElem_cons hlt, szW] at hr
    (conv => whnf); refine And.intro (by omega) ?_
    (conv => whnf); refine recO (eC_at hx) ?_
    conv => whnf
    refine ⟨m - 1, by omega, Gp.none rfl ?_ fun ρ1 h => ⟨k + 1, _, by omega, hr, rfl, h⟩⟩
    exact ⟨.closed _ rfl, .closed (.list ex 2 (eC b)) rfl, .closed _ rfl, pub_int (wrapI _ (by omega) (by omega)), trivial⟩
  · simp at hlt
    rw [List.drop_of_length_le (by omega), szW] at hr
    conv => whnf
    rw [sizeR, if_pos h1, ← hr]
    exact pub2 (.closed _ rfl) (.closed _ rfl)

end Go.AW

namespace Go.AW
variable [Draws]
def grpA (c : Ent) : List Ent → List Ent
  | [] => [c]
  | e :: l => if rowsCmp c.row e.row = 0 then grpA ⟨c.row, c.cnt + e.cnt⟩ l else c :: grpA e l

def grpL : List Ent → List Ent
  | [] => []
  | e :: l => grpA e l

def Asc (l : List Ent) : Prop := l.Pairwise fun x y => rowsCmp x.row y.row ≤ 0

theorem cntL_grpA : ∀ (l : List Ent) (c : Ent) (r : List V), cntL (grpA c l) r = cntL (c :: l) r
  | [], c, r => rfl
  | e :: l, c, r => by
    rw [grpA]
    split
    · rename_i h
      have hr : c.row = e.row := (rowsCmp_zero _ _).1 h
      rw [cntL_grpA l, cntL, cntL, cntL]
      simp only [hr]
      split <;> omega
    · rw [cntL, cntL_grpA l e r, cntL]; rfl

theorem cntL_grpL (l : List Ent) (r : List V) : cntL (grpL l) r = cntL l r := by
  cases l with
  | nil => rfl
  | cons e l => exact cntL_grpA l e r

theorem grpA_ge : ∀ (l : List Ent) (c : Ent) (x : List V), rowsCmp x c.row < 0 → (∀ e ∈ l, rowsCmp x e.row < 0) → ∀ e ∈ grpA c l, rowsCmp x e.row < 0
  | [], c, x, h, _, e, he => by rw [grpA] at he; rw [List.mem_singleton.1 he]; exact h
  | f :: l, c, x, h, hl, e, he => by
    rw [grpA] at he
    split at he
    · exact grpA_ge l ⟨c.row, c.cnt + f.cnt⟩ x h (fun e he => hl e (List.mem_cons_of_mem _ he)) e he
    · rcases List.mem_cons.1 he with rfl | he
      · exact h
      · exact grpA_ge l f x (hl f (List.mem_cons_self ..)) (fun e he => hl e (List.mem_cons_of_mem _ he)) e he

theorem asc_tail {c e : Ent} {l : List Ent} (h : Asc (c :: e :: l)) : Asc (c :: l) :=
  List.pairwise_cons.2 ⟨fun x hx => (List.pairwise_cons.1 h).1 x (List.mem_cons_of_mem _ hx), (List.pairwise_cons.1 (List.pairwise_cons.1 h).2).2⟩

theorem srt_grpA : ∀ (l : List Ent) (c : Ent), Asc (c :: l) → Srt (grpA c l)
  | [], c, _ => by rw [grpA]; exact List.pairwise_singleton _ _
  | e :: l, c, h => by
    rw [grpA]
    split
    · refine srt_grpA l ⟨c.row, c.cnt + e.cnt⟩ ?_
      have := asc_tail h
      exact List.pairwise_cons.2 ⟨fun x hx => (List.pairwise_cons.1 this).1 x hx, (List.pairwise_cons.1 this).2⟩
    · rename_i hne
      have h1 := (List.pairwise_cons.1 h).1
      have h2 := (List.pairwise_cons.1 h).2
      have hce : rowsCmp c.row e.row < 0 := by have := h1 e (List.mem_cons_self ..); omega
      refine List.pairwise_cons.2 ⟨grpA_ge l e c.row hce fun x hx => ?_, srt_grpA l e h2⟩
      have h3 := (List.pairwise_cons.1 h2).1 x hx
      have h4 := h1 x (List.mem_cons_of_mem _ hx)
      have h5 := rowsCmp_vals c.row x.row
      by_cases hz : rowsCmp c.row x.row = 0
      · have hr := (rowsCmp_zero _ _).1 hz
        rw [← hr, rowsCmp_anti] at h3
        omega
      · omega

theorem cntF_nz : ∀ (l : List Ent) (r : List V), cntL (l.filter nzB) r = cntL l r
  | [], _ => rfl
  | e :: l, r => by
    rw [List.filter_cons]
    split
    · rw [cntL, cntL, cntF_nz l r]
    · rename_i h
      have hz : e.cnt = 0 := by simpa [nzB] using h
      rw [cntF_nz l r, cntL, hz]
      split <;> omega

theorem small_nz (l : List Ent) : (l.all fun e => smallB e.cnt) = ((l.filter nzB).all fun e => smallB e.cnt) := by
  rw [Bool.eq_iff_iff, List.all_eq_true, List.all_eq_true]
  constructor
  · exact fun h e he => h e (List.mem_filter.1 he).1
  · intro h e he
    by_cases hz : e.cnt = 0
    · rw [hz]; decide
    · exact h e (List.mem_filter.2 ⟨he, by simpa [nzB] using hz⟩)

theorem resR_ext {a b : List Ent} (ha : Srt a) (hb : Srt b) (h : ∀ r, cntL a r = cntL b r) : resR a = resR b := by
  have e : a.filter nzB = b.filter nzB := bag_ext _ _ (ha.filter _) (hb.filter _) (fun e he => by have := (List.mem_filter.1 he).2; simpa [nzB] using this) (fun e he => by have := (List.mem_filter.1 he).2; simpa [nzB] using this) fun r => by rw [cntF_nz, cntF_nz, h r]
  rw [resR, resR, small_nz a, small_nz b, e]

end Go.AW

namespace Go.AW
variable [Draws]
attribute [local irreducible] ACalls
def srtM : Nat → List Ent → List Ent
  | 0, l => l
  | n + 1, l => if l.length < 2 then l else mrg (srtM n (l.take (l.length / 2))) (srtM n (l.drop (l.length / 2)))

theorem cntL_srtM : ∀ (n : Nat) (l : List Ent) (r : List V), cntL (srtM n l) r = cntL l r
  | 0, _, _ => rfl
  | n + 1, l, r => by
    rw [srtM]
    split
    · rfl
    · rw [cntL_mrg, cntL_srtM n, cntL_srtM n, ← cntL_append, List.take_append_drop]

theorem srt_short {l : List Ent} (h : l.length < 2) : Srt l := by
  match l, h with
  | [], _ => exact List.Pairwise.nil
  | [x], _ => exact List.pairwise_singleton _ _

theorem srt_srtM : ∀ (n : Nat) (l : List Ent), l.length ≤ n + 1 → Srt (srtM n l)
  | 0, l, h => by rw [srtM]; exact srt_short (by omega)
  | n + 1, l, h => by
    rw [srtM]
    split
    · exact srt_short (by assumption)
    · exact srt_mrg _ _ (srt_srtM n _ (by rw [List.length_take]; omega)) (srt_srtM n _ (by rw [List.length_drop]; omega))

end Go.AW

namespace Go.AW
variable [Draws]
attribute [local irreducible] ACalls
def EntB (B : Int) (e : Ent) : Prop := e.row.length ≤ 12 ∧ -B ≤ e.cnt ∧ e.cnt ≤ B

set_option maxRecDepth 20000 in
theorem ref6_mergeB_raw {P : Program} (F : F_warehouseref6_merge P) {B : Int} (hB0 : B ≤ 4000000000000) (e1 e2 : Bool) (a b : List Ent) (ha : a.length ≤ 100000) (hb : b.length ≤ 100000) (hA : ∀ e ∈ a, EntB B e) (hB : ∀ e ∈ b, EntB B e) :
    ACalls P F.id [.list e1 2 (eC a), .list e2 2 (eC b)] [] (fun r H' => r = .sl 0 (mrg a b).length 0 (mrg a b).length ∧ H' = [.arr 2 (eC (mrg a b))]) := by
  refine acalls_of_body F.has ?_
  conv => whnf
  refine ⟨fun m ρ H => ∃ (a' b' pre : List Ent) (f1 f2 : Bool), m = a'.length + b'.length ∧ mrg a b = pre ++ mrg a' b' ∧
      pre.length + a'.length + b'.length ≤ a.length + b.length ∧ (∀ e ∈ a', EntB B e) ∧ (∀ e ∈ b', EntB B e) ∧ H = [.arr 2 (eC pre)] ∧
      Sv 74 [(0, .list f1 2 (eC a')), (1, .list f2 2 (eC b')), (5, .sl 0 pre.length 0 pre.length)] ρ, a.length + b.length, [(5, 2)], ?_, ?_⟩
  · exact ⟨a, b, [], e1, e2, rfl, rfl, by simp, hA, hB, by rfl, Sv.intro rfl ⟨rfl, rfl, rfl, trivial⟩⟩
  rintro m ρ H ⟨a', b', pre, f1, f2, hm, hM, hlen, hA', hB', rfl, d, rfl⟩
  (conv => whnf); refine recA (fun hz => ?_) (fun hz => ?_)
  · replace hz : decide (((eC a').length : Int) > 0) = true := hz
    rw [eC_length] at hz
    have hzl : a'.length ≠ 0 := by simp at hz; omega
    obtain ⟨x, hx, hxd, hxm⟩ := get_drop (l := a') (k := 0) (by omega)
    obtain ⟨kx1, kx2, kx3⟩ := hA' x hxm
    rw [List.drop_zero] at hxd
    (conv => whnf); refine recF (by rw [eC_length]; simpa using hzl) ?_
    (conv => whnf); refine recA (fun hw => ?_) (fun hw => ?_)
    · replace hw : decide (((eC b').length : Int) > 0) = true := hw
      rw [eC_length] at hw
      have hwl : b'.length ≠ 0 := by simp at hw; omega
      obtain ⟨y, hy, hyd, hym⟩ := get_drop (l := b') (k := 0) (by omega)
      obtain ⟨ky1, ky2, ky3⟩ := hB' y hym
      rw [List.drop_zero] at hyd
      (conv => whnf); refine And.intro (by decide) ?_
      (conv => whnf); refine recO (eC_at hx) ?_
      (conv => whnf); refine And.intro (by decide) ?_
      (conv => whnf); refine recO (eC_at hy) ?_
      conv => whnf
      refine ⟨_, ref1_CompareRows_spec F.warehouseref1_CompareRows false false x.row y.row (by omega) _, ?_⟩
      (conv => whnf); refine recA (fun hc => ?_) (fun hc => ?_)
      · replace hc : decide (rowsCmp x.row y.row < 0) = true := hc
        simp at hc
        (conv => whnf); refine And.intro (by decide) ?_
        (conv => whnf); refine recO (eC_at hx) ?_
        have hN : mrg a b = (pre ++ [⟨x.row, x.cnt⟩]) ++ mrg (a'.drop 1) (b') := by
          rw [hM, mrgA hxd (.inr ⟨_, _, hyd, hc⟩), List.append_assoc]; rfl
        have hlN : pre.length + 1 + (a'.drop 1).length + (b').length ≤ a.length + b.length := by simp [List.length_drop]; omega
        have hmN : (a'.drop 1).length + (b').length < m := by simp [List.length_drop]; omega
        have hAN : ∀ e ∈ (a'.drop 1), EntB B e := fun e h => hA' e (by first | exact h | exact List.mem_of_mem_drop h)
        have hBN : ∀ e ∈ (b'), EntB B e := fun e h => hB' e (by first | exact h | exact List.mem_of_mem_drop h)
        have hFl : (eC pre ++ [entC ⟨x.row, x.cnt⟩]).length = (pre ++ [(⟨x.row, x.cnt⟩ : Ent)]).length := by simp [eC_length]
        (conv => whnf); refine recT (by rw [eC_length]; exact Nat.beq_refl _) ?_
        (conv => whnf); refine And.intro ⟨roomMul (by simp; omega) (by omega), roomB_le (by simp; omega), rfl, by rw [eC_length]⟩ ?_
        (conv => whnf); refine And.intro ⟨by omega, by rw [eC_length]; omega⟩ ?_
        (conv => whnf); refine And.intro (by (conv => whnf); exact ⟨⟨by omega, by rw [eC_length]; omega⟩, rfl⟩) ?_
        conv => whnf
        refine ⟨(a'.drop 1).length + (b').length, hmN, Gp.one 0 2 (eC (pre ++ [⟨x.row, x.cnt⟩])) (by rw [eC_append]; rfl) (pureEs_eC _) rfl ?_ fun ρ1 h => ⟨a'.drop 1, b', pre ++ [⟨x.row, x.cnt⟩], (f1 && (none : Option AOpd).isNone), f2, rfl, hN, by simpa using hlN, hAN, hBN, rfl, h⟩⟩
        exact ⟨pubL (tailE a'), .closed _ rfl, pubSl (k := 0) rfl rfl hFl hFl, trivial⟩
      · replace hc : decide (rowsCmp x.row y.row < 0) = false := hc
        simp at hc
        (conv => whnf); refine recA (fun hg => ?_) (fun hg => ?_)
        · replace hg : decide (rowsCmp x.row y.row > 0) = true := hg
          simp at hg
          (conv => whnf); refine And.intro (by decide) ?_
          (conv => whnf); refine recO (eC_at hy) ?_
          have hN : mrg a b = (pre ++ [⟨y.row, y.cnt⟩]) ++ mrg (a') (b'.drop 1) := by
            rw [hM, mrgB hyd (.inr ⟨_, _, hxd, hg⟩), List.append_assoc]; rfl
          have hlN : pre.length + 1 + (a').length + (b'.drop 1).length ≤ a.length + b.length := by simp [List.length_drop]; omega
          have hmN : (a').length + (b'.drop 1).length < m := by simp [List.length_drop]; omega
          have hAN : ∀ e ∈ (a'), EntB B e := fun e h => hA' e (by first | exact h | exact List.mem_of_mem_drop h)
          have hBN : ∀ e ∈ (b'.drop 1), EntB B e := fun e h => hB' e (by first | exact h | exact List.mem_of_mem_drop h)
          have hFl : (eC pre ++ [entC ⟨y.row, y.cnt⟩]).length = (pre ++ [(⟨y.row, y.cnt⟩ : Ent)]).length := by simp [eC_length]
          (conv => whnf); refine recT (by rw [eC_length]; exact Nat.beq_refl _) ?_
          (conv => whnf); refine And.intro ⟨roomMul (by simp; omega) (by omega), roomB_le (by simp; omega), rfl, by rw [eC_length]⟩ ?_
          (conv => whnf); refine And.intro ⟨by omega, by rw [eC_length]; omega⟩ ?_
          (conv => whnf); refine And.intro (by (conv => whnf); exact ⟨⟨by omega, by rw [eC_length]; omega⟩, rfl⟩) ?_
          conv => whnf
          refine ⟨(a').length + (b'.drop 1).length, hmN, Gp.one 0 2 (eC (pre ++ [⟨y.row, y.cnt⟩])) (by rw [eC_append]; rfl) (pureEs_eC _) rfl ?_ fun ρ1 h => ⟨a', b'.drop 1, pre ++ [⟨y.row, y.cnt⟩], f1, (f2 && (none : Option AOpd).isNone), rfl, hN, by simpa using hlN, hAN, hBN, rfl, h⟩⟩
          exact ⟨.closed _ rfl, pubL (tailE b'), pubSl (k := 0) rfl rfl hFl hFl, trivial⟩
        · replace hg : decide (rowsCmp x.row y.row > 0) = false := hg
          simp at hg
          (conv => whnf); refine And.intro (by decide) ?_
          (conv => whnf); refine recO (eC_at hx) ?_
          (conv => whnf); refine And.intro (by decide) ?_
          (conv => whnf); refine recO (eC_at hx) ?_
          (conv => whnf); refine And.intro (by decide) ?_
          (conv => whnf); refine recO (eC_at hy) ?_
          have em2 : IntKind.i64.wrap (x.cnt + y.cnt) = x.cnt + y.cnt := wrapI _ (by omega) (by omega)
          have hN : mrg a b = (pre ++ [⟨x.row, IntKind.i64.wrap (x.cnt + y.cnt)⟩]) ++ mrg (a'.drop 1) (b'.drop 1) := by
            rw [hM, em2, mrgC hxd hyd (by omega), List.append_assoc]; rfl
          have hlN : pre.length + 1 + (a'.drop 1).length + (b'.drop 1).length ≤ a.length + b.length := by simp [List.length_drop]; omega
          have hmN : (a'.drop 1).length + (b'.drop 1).length < m := by simp [List.length_drop]; omega
          have hAN : ∀ e ∈ (a'.drop 1), EntB B e := fun e h => hA' e (by first | exact h | exact List.mem_of_mem_drop h)
          have hBN : ∀ e ∈ (b'.drop 1), EntB B e := fun e h => hB' e (by first | exact h | exact List.mem_of_mem_drop h)
          have hFl : (eC pre ++ [entC ⟨x.row, IntKind.i64.wrap (x.cnt + y.cnt)⟩]).length = (pre ++ [(⟨x.row, IntKind.i64.wrap (x.cnt + y.cnt)⟩ : Ent)]).length := by simp [eC_length]
          (conv => whnf); refine recT (by rw [eC_length]; exact Nat.beq_refl _) ?_
          (conv => whnf); refine And.intro ⟨roomMul (by simp; omega) (by omega), roomB_le (by simp; omega), rfl, by rw [eC_length]⟩ ?_
          (conv => whnf); refine And.intro ⟨by omega, by rw [eC_length]; omega⟩ ?_
          (conv => whnf); refine And.intro ⟨by omega, by rw [eC_length]; omega⟩ ?_
          conv => whnf
          refine ⟨(a'.drop 1).length + (b'.drop 1).length, hmN, Gp.one 0 2 (eC (pre ++ [⟨x.row, IntKind.i64.wrap (x.cnt + y.cnt)⟩])) (by rw [eC_append]; rfl) (pureEs_eC _) rfl ?_ fun ρ1 h => ⟨a'.drop 1, b'.drop 1, pre ++ [⟨x.row, IntKind.i64.wrap (x.cnt + y.cnt)⟩], (f1 && (none : Option AOpd).isNone), (f2 && (none : Option AOpd).isNone), rfl, hN, by simpa using hlN, hAN, hBN, rfl, h⟩⟩
          exact ⟨pubL (tailE a'), pubL (tailE b'), pubSl (k := 0) rfl rfl hFl hFl, trivial⟩
    · replace hw : decide (((eC b').length : Int) > 0) = false := hw
      rw [eC_length] at hw
      have hwn : b' = [] := by simp at hw; exact hw
      have hwl : b'.length = 0 := by rw [hwn]; rfl
      (conv => whnf); refine And.intro (by decide) ?_
      (conv => whnf); refine recO (eC_at hx) ?_
      have hN : mrg a b = (pre ++ [⟨x.row, x.cnt⟩]) ++ mrg (a'.drop 1) (b') := by
        rw [hM, mrgA hxd (.inl hwn), List.append_assoc]; rfl
      have hlN : pre.length + 1 + (a'.drop 1).length + (b').length ≤ a.length + b.length := by simp [List.length_drop]; omega
      have hmN : (a'.drop 1).length + (b').length < m := by simp [List.length_drop]; omega
      have hAN : ∀ e ∈ (a'.drop 1), EntB B e := fun e h => hA' e (by first | exact h | exact List.mem_of_mem_drop h)
      have hBN : ∀ e ∈ (b'), EntB B e := fun e h => hB' e (by first | exact h | exact List.mem_of_mem_drop h)
      have hFl : (eC pre ++ [entC ⟨x.row, x.cnt⟩]).length = (pre ++ [(⟨x.row, x.cnt⟩ : Ent)]).length := by simp [eC_length]
      (conv => whnf); refine recT (by rw [eC_length]; exact Nat.beq_refl _) ?_
      (conv => whnf); refine And.intro ⟨roomMul (by simp; omega) (by omega), roomB_le (by simp; omega), rfl, by rw [eC_length]⟩ ?_
      (conv => whnf); refine And.intro ⟨by omega, by rw [eC_length]; omega⟩ ?_
      (conv => whnf); refine And.intro (by (conv => whnf); exact ⟨⟨by omega, by rw [eC_length]; omega⟩, rfl⟩) ?_
      conv => whnf
      refine ⟨(a'.drop 1).length + (b').length, hmN, Gp.one 0 2 (eC (pre ++ [⟨x.row, x.cnt⟩])) (by rw [eC_append]; rfl) (pureEs_eC _) rfl ?_ fun ρ1 h => ⟨a'.drop 1, b', pre ++ [⟨x.row, x.cnt⟩], (f1 && (none : Option AOpd).isNone), f2, rfl, hN, by simpa using hlN, hAN, hBN, rfl, h⟩⟩
      exact ⟨pubL (tailE a'), .closed _ rfl, pubSl (k := 0) rfl rfl hFl hFl, trivial⟩
  · replace hz : decide (((eC a').length : Int) > 0) = false := hz
    rw [eC_length] at hz
    have hzn : a' = [] := by simp at hz; exact hz
    have hzl : a'.length = 0 := by rw [hzn]; rfl
    (conv => whnf); refine recA (fun hw => ?_) (fun hw => ?_)
    · replace hw : decide (((eC b').length : Int) > 0) = true := hw
      rw [eC_length] at hw
      have hwl : b'.length ≠ 0 := by simp at hw; omega
      obtain ⟨y, hy, hyd, hym⟩ := get_drop (l := b') (k := 0) (by omega)
      obtain ⟨ky1, ky2, ky3⟩ := hB' y hym
      rw [List.drop_zero] at hyd
      (conv => whnf); refine recT (by rw [eC_length]; simpa using hzl) ?_
      (conv => whnf); refine And.intro (by decide) ?_
      (conv => whnf); refine recO (eC_at hy) ?_
      have hN : mrg a b = (pre ++ [⟨y.row, y.cnt⟩]) ++ mrg (a') (b'.drop 1) := by
        rw [hM, mrgB hyd (.inl hzn), List.append_assoc]; rfl
      have hlN : pre.length + 1 + (a').length + (b'.drop 1).length ≤ a.length + b.length := by simp [List.length_drop]; omega
      have hmN : (a').length + (b'.drop 1).length < m := by simp [List.length_drop]; omega
      have hAN : ∀ e ∈ (a'), EntB B e := fun e h => hA' e (by first | exact h | exact List.mem_of_mem_drop h)
      have hBN : ∀ e ∈ (b'.drop 1), EntB B e := fun e h => hB' e (by first | exact h | exact List.mem_of_mem_drop h)
      have hFl : (eC pre ++ [entC ⟨y.row, y.cnt⟩]).length = (pre ++ [(⟨y.row, y.cnt⟩ : Ent)]).length := by simp [eC_length]
      (conv => whnf); refine recT (by rw [eC_length]; exact Nat.beq_refl _) ?_
      (conv => whnf); refine And.intro ⟨roomMul (by simp; omega) (by omega), roomB_le (by simp; omega), rfl, by rw [eC_length]⟩ ?_
      (conv => whnf); refine And.intro ⟨by omega, by rw [eC_length]; omega⟩ ?_
      (conv => whnf); refine And.intro (by (conv => whnf); exact ⟨⟨by omega, by rw [eC_length]; omega⟩, rfl⟩) ?_
      conv => whnf
      refine ⟨(a').length + (b'.drop 1).length, hmN, Gp.one 0 2 (eC (pre ++ [⟨y.row, y.cnt⟩])) (by rw [eC_append]; rfl) (pureEs_eC _) rfl ?_ fun ρ1 h => ⟨a', b'.drop 1, pre ++ [⟨y.row, y.cnt⟩], f1, (f2 && (none : Option AOpd).isNone), rfl, hN, by simpa using hlN, hAN, hBN, rfl, h⟩⟩
      exact ⟨.closed _ rfl, pubL (tailE b'), pubSl (k := 0) rfl rfl hFl hFl, trivial⟩
    · replace hw : decide (((eC b').length : Int) > 0) = false := hw
      rw [eC_length] at hw
      have hwn : b' = [] := by simp at hw; exact hw
      have hMM : mrg a b = pre := by rw [hM, hzn, hwn, mrg_nil]; simp
      conv => whnf
      rw [hMM]
      exact ⟨rfl, rfl⟩

theorem ref6_mergeB_spec {P : Program} (F : F_warehouseref6_merge P) {B : Int} (hB0 : B ≤ 4000000000000) (e1 e2 : Bool) (a b : List Ent) (ha : a.length ≤ 100000) (hb : b.length ≤ 100000) (hA : ∀ e ∈ a, EntB B e) (hB : ∀ e ∈ b, EntB B e) (H : List AObj) :
    ACalls P F.id [.list e1 2 (eC a), .list e2 2 (eC b)] H (fun r H' => r = .list false 2 (eC (mrg a b)) ∧ H' = H) :=
  ACalls.frz1 (by simp [AVal.closed, AVal.isPure]) (ref6_mergeB_raw F hB0 e1 e2 a b ha hb hA hB) (eC_length _).symm (pureEs_eC _)

end Go.AW

namespace Go.AW
variable [Draws]
attribute [local irreducible] ACalls
def SortE (P : Program) (f g : FuncId) : Prop :=
  ∀ (l : List Ent), l ≠ [] → l.length ≤ 1000000 → (∀ e ∈ l, e.row.length ≤ 1000) → ∀ (H : List AObj) (i0 : Nat), H[i0]? = some (.arr 2 (eC l)) →
    ACalls P f [.sl i0 l.length 0 l.length, .fn g []] H (fun r H' => r = .tuple [] ∧ ∃ s : List Ent, s.Perm l ∧ Asc s ∧ H' = H.set i0 (.arr 2 (eC s)))

theorem bag_sum_1_spec {P : Program} (F : F_bag_sum_1 P) (x y : Ent) (hx : x.row.length ≤ 1000000) (H : List AObj) :
    ACalls P F.id [.agg (entC x), .agg (entC y)] H (fun r H' => r = .int .i64 (rowsCmp x.row y.row) ∧ H' = H) := by
  refine ACalls.pure rfl (acalls_of_body F.has ?_)
  (conv => whnf); refine ACalls.use (value_CompareRows_spec F.value_CompareRows false false x.row y.row hx _) ?_
  conv => whnf
  exact .closed _ rfl

set_option maxRecDepth 20000 in
theorem put1_spec {P : Program} (F : F_bag_put P) (o : AObj) (ex : Bool) (O : List Ent) (hO : O.length ≤ 100000) (row : List V) (hr : row.length ≤ 1000) (c : Int) :
    ACalls P F.id [.sl 1 O.length 0 O.length, .list ex 3 (vC row), .int .i64 c] [o, .arr 2 (eC O)]
      (fun r H' => (smallB c = false ∧ r = .tuple [.nil, .bool false] ∧ H' = [o, .arr 2 (eC O)]) ∨ (smallB c = true ∧ c = 0 ∧ r = .tuple [.sl 1 O.length 0 O.length, .bool true] ∧ H' = [o, .arr 2 (eC O)]) ∨
        (smallB c = true ∧ c ≠ 0 ∧ r = .tuple [.sl 1 (O.length + 1) 0 (O.length + 1), .bool true] ∧ H' = [o, .arr 2 (eC (O ++ [⟨row, c⟩]))])) := by
  refine acalls_of_body F.has ?_
  (conv => whnf); refine recA (fun h => ?_) (fun h => ?_)
  · simp at h
    conv => whnf
    exact .inl ⟨by rw [smallB]; simp; omega, rfl, rfl⟩
  simp at h
  (conv => whnf); refine recA (fun h2 => ?_) (fun h2 => ?_)
  · simp at h2
    conv => whnf
    exact .inl ⟨by rw [smallB]; simp; omega, rfl, rfl⟩
  simp at h2
  have hs : smallB c = true := by simp [smallB]; omega
  (conv => whnf); refine recA (fun hz => ?_) (fun hz => ?_)
  · replace hz : (!(c == 0)) = true := hz
    simp at hz
    conv => whnf
    refine ACalls.use (CloneV_spec F.slices_Clone_LValue_Value ex row (by omega) _) ?_
    (conv => whnf); refine recT (by rw [eC_length]; exact Nat.beq_refl _) ?_
    (conv => whnf); refine And.intro (⟨roomMul (by simp; omega) (by omega), roomB_le (by simp; omega), rfl, by rw [eC_length]⟩) ?_
    conv => whnf
    have hl : (eC O ++ [[AVal.list false 3 (vC row), .int .i64 c]]).length = O.length + 1 := by rw [List.length_append, eC_length]; rfl
    refine .inr (.inr ⟨hs, hz, ?_, ?_⟩)
    · exact congrArg (fun n => AVal.tuple [.sl 1 n 0 n, .bool true]) hl
    · rw [eC_append]; rfl
  · replace hz : (!(c == 0)) = false := hz
    simp at hz
    conv => whnf
    exact .inr (.inl ⟨hs, hz, rfl, rfl⟩)

set_option maxRecDepth 20000 in
theorem done1_spec {P : Program} (F : F_bag_done P) (o : AObj) (O : List Ent) :
    ACalls P F.id [.sl 1 O.length 0 O.length] [o, .arr 2 (eC O)]
      (fun r H' => H' = [o, .arr 2 (eC O)] ∧ ((4096 < O.length ∧ r = .tuple [.nil, .int .i64 2]) ∨ (O.length ≤ 4096 ∧ r = .tuple [.sl 1 O.length 0 O.length, .int .i64 0]))) := by
  refine acalls_of_body F.has ?_
  (conv => whnf); refine recT (by rw [eC_length]; exact Nat.beq_refl _) ?_
  (conv => whnf); refine recA (fun h => ?_) (fun h => ?_)
  · simp at h
    conv => whnf
    exact ⟨rfl, .inl ⟨by omega, rfl⟩⟩
  · simp at h
    conv => whnf
    exact ⟨rfl, .inr ⟨by omega, rfl⟩⟩

theorem eC_at0 {l : List Ent} {k : Nat} {x : Ent} (h : l[k]? = some x) : (eC l)[0 + k]? = some (entC x) := by rw [Nat.zero_add]; exact eC_at h

theorem grpL_drop {S : List Ent} {i : Nat} {x : Ent} (h : S[i]? = some x) : grpL (S.drop i) = grpA x (S.drop (i + 1)) := by
  obtain ⟨hi, rfl⟩ := List.getElem?_eq_some_iff.1 h
  rw [List.drop_eq_getElem_cons hi]; rfl

theorem grpA_end {S : List Ent} {k : Nat} {c : Ent} (h : S.length ≤ k ∨ ∃ y, S[k]? = some y ∧ rowsCmp c.row y.row ≠ 0) : grpA c (S.drop k) = c :: grpL (S.drop k) := by
  rcases h with h | ⟨y, hy, hn⟩
  · rw [List.drop_of_length_le h]; rfl
  · obtain ⟨hk, rfl⟩ := List.getElem?_eq_some_iff.1 hy
    rw [List.drop_eq_getElem_cons hk, grpA, if_neg hn]; rfl

theorem grpA_step {S : List Ent} {k : Nat} {c y : Ent} (hy : S[k]? = some y) (h : rowsCmp c.row y.row = 0) : grpA c (S.drop k) = grpA ⟨c.row, c.cnt + y.cnt⟩ (S.drop (k + 1)) := by
  obtain ⟨hk, rfl⟩ := List.getElem?_eq_some_iff.1 hy
  rw [List.drop_eq_getElem_cons hk, grpA, if_pos h]

theorem cntL_perm {a b : List Ent} (h : a.Perm b) : ∀ r, cntL a r = cntL b r := by
  induction h with
  | nil => intro r; rfl
  | cons x _ ih => intro r; rw [cntL, cntL, ih]
  | swap x y l => intro r; rw [cntL, cntL, cntL, cntL]; split <;> split <;> omega
  | trans _ _ h1 h2 => intro r; rw [h1, h2]

theorem SortE.all {P : Program} {F : F_slices_SortFunc_LEntry_Entry P} {g : FuncId} (hS : SortE P F.id g) (l : List Ent) (hl : l.length ≤ 1000000) (hr : ∀ e ∈ l, e.row.length ≤ 1000) (H : List AObj) (i0 : Nat) (ho : H[i0]? = some (.arr 2 (eC l))) :
    ACalls P F.id [.sl i0 l.length 0 l.length, .fn g []] H (fun r H' => r = .tuple [] ∧ ∃ s : List Ent, s.Perm l ∧ Asc s ∧ H' = H.set i0 (.arr 2 (eC s))) := by
  cases l with
  | nil =>
    refine (sort0_spec F i0 g H ho).mono ?_
    rintro r H' ⟨rfl, rfl⟩
    refine ⟨rfl, [], List.Perm.refl _, List.Pairwise.nil, ?_⟩
    obtain ⟨h, e⟩ := List.getElem?_eq_some_iff.1 ho
    rw [← e, List.set_getElem_self]
  | cons x l => exact hS (x :: l) (by simp) hl hr H i0 ho

def sumI (S : List Ent) (n : Nat) (m : Nat) (ρ : List AVal) (H : List AObj) : Prop :=
  (∃ (i : Nat) (pre : List Ent), i + m = n ∧ grpL S = pre ++ grpL (S.drop i) ∧ (pre.all fun e => smallB e.cnt) = true ∧ pre.length ≤ i ∧ H = [.arr 2 (eC S), .arr 2 (eC (pre.filter nzB))] ∧
    Sv 66 [(0, .sl 0 n 0 n), (4, .sl 1 (pre.filter nzB).length 0 (pre.filter nzB).length), (5, .bool true), (6, .int .i64 i)] ρ) ∨
  (∃ i : Nat, ((grpL S).all fun e => smallB e.cnt) = false ∧ i ≤ n ∧ H = [.arr 2 (eC S)] ∧ Sv 66 [(0, .sl 0 n 0 n), (4, .nil), (5, .bool false), (6, .int .i64 i)] ρ)

set_option maxHeartbeats 2000000 in
set_option maxRecDepth 20000 in
theorem bag_sum_spec {P : Program} (F : F_bag_sum P) (hS : SortE P F.slices_SortFunc_LEntry_Entry.id F.bag_sum_1.id) (ex : Bool) (l : List Ent) (hl : l.length ≤ 100000) (hE : ∀ e ∈ l, EntOk e) (H : List AObj) :
    ACalls P F.id [.list ex 2 (eC l)] H (fun r H' => r = resR (srtM l.length l) ∧ H' = H) := by
  have hN : ∀ S : List Ent, S.Perm l → Asc S → resR (srtM l.length l) = resR (grpL S) ∧ (∀ e ∈ S, EntOk e) ∧ S.length = l.length := fun S hp hs =>
    ⟨resR_ext (srt_srtM _ _ (by omega)) (by cases S with | nil => exact List.Pairwise.nil | cons x S => exact srt_grpA S x hs) fun r => by rw [cntL_srtM, cntL_grpL, cntL_perm hp], fun e h => hE e (hp.mem_iff.1 h), hp.length_eq⟩
  refine ACalls.pure (by simp [AVal.closed, AVal.isPure]) (acalls_of_body F.has ?_)
  (conv => whnf); refine ACalls.mono (CloneE_raw F.slices_Clone_LEntry_Entry ex l (by omega)) ?_
  rintro r H1 (⟨rfl, h0, rfl⟩ | ⟨rfl, rfl⟩)
  · subst h0
    (conv => whnf); refine ACalls.use (sort0n_spec F.slices_SortFunc_LEntry_Entry _ _) ?_
    conv => whnf
    refine ⟨fun m ρ H1 => H1 = [.arr 2 []] ∧ Sv 66 [(0, .nil), (4, .sl 0 0 0 0), (5, .bool true), (6, .int .i64 0)] ρ, 0, [(4, 2)], ?_, ?_⟩
    · exact ⟨rfl, Sv.intro rfl ⟨rfl, rfl, rfl, rfl, trivial⟩⟩
    rintro m ρ H1 ⟨rfl, d, rfl⟩
    conv => whnf
    refine (done_spec F.bag_done []).mono ?_
    rintro r H1 ⟨rfl, ⟨h, rfl⟩ | ⟨h, rfl⟩⟩
    · cases h
    · conv => whnf
      exact pub2 (pubF rfl rfl rfl rfl) (.closed _ rfl)
  · (conv => whnf); refine ACalls.mono (hS.all l (by omega) (fun e h => by have := (hE e h).1; omega) _ 0 rfl) ?_
    rintro r H1 ⟨rfl, S, hp, hs, rfl⟩
    obtain ⟨hR, hA, hSl⟩ := hN S hp hs
    replace hA : ∀ e ∈ S, EntOk e := hA
    clear hN hE
    have hl2 : S.length ≤ 100000 := by omega
    rw [hR, ← hSl]
    clear hR hSl hl
    conv => whnf
    refine ⟨sumI S S.length, S.length, [(4, 2)], ?_, ?_⟩
    · exact .inl ⟨0, [], by omega, rfl, rfl, Nat.le_refl _, rfl, Sv.intro rfl ⟨rfl, rfl, rfl, rfl, trivial⟩⟩
    rintro m ρ H1 (⟨i, pre, hm, hG, hP, hpl, rfl, d, rfl⟩ | ⟨i, hbad, hi, rfl, d, rfl⟩)
    · have hO : (pre.filter nzB).length ≤ pre.length := List.length_filter_le _ _
      (conv => whnf); refine recT (by rw [eC_length]; exact Nat.beq_refl _) ?_
      (conv => whnf); refine recA (fun hlt => ?_) (fun hlt => ?_)
      · simp at hlt
        obtain ⟨x, hx⟩ : ∃ x, S[i]? = some x := ⟨S[i], List.getElem?_eq_getElem hlt⟩
        obtain ⟨hx1, hx2, hx3⟩ := hA x (List.mem_of_getElem? hx)
        conv => whnf
        refine ⟨fun m1 ρ1 H2 => ∃ (k : Nat) (acc : Int), k + m1 = S.length ∧ ((k = i ∧ acc = 0) ∨ (i < k ∧ grpL (S.drop i) = grpA ⟨x.row, acc⟩ (S.drop k))) ∧ -(65536 * ((k : Int) - i)) ≤ acc ∧ acc ≤ 65536 * ((k : Int) - i) ∧
          H2 = [.arr 2 (eC S), .arr 2 (eC (pre.filter nzB))] ∧ Sv 66 [(0, .sl 0 S.length 0 S.length), (4, .sl 1 (pre.filter nzB).length 0 (pre.filter nzB).length), (6, .int .i64 i), (7, .int .i64 acc), (8, .int .i64 k)] ρ1, S.length - i, [], ?_, ?_⟩
        · exact ⟨i, 0, by omega, .inl ⟨rfl, rfl⟩, by omega, by omega, rfl, Sv.intro rfl ⟨rfl, rfl, rfl, rfl, rfl, trivial⟩⟩
        rintro m1 ρ1 H2 ⟨k, acc, hk, hc, hb1, hb2, rfl, d1, rfl⟩
        (conv => whnf); refine recT (by rw [eC_length]; exact Nat.beq_refl _) ?_
        (conv => whnf); refine recA (fun hkl => ?_) (fun hkl => ?_)
        · simp at hkl
          obtain ⟨y, hy⟩ : ∃ y, S[k]? = some y := ⟨S[k], List.getElem?_eq_getElem hkl⟩
          obtain ⟨hy1, hy2, hy3⟩ := hA y (List.mem_of_getElem? hy)
          (conv => whnf); refine recT (by rw [eC_length]; exact Nat.beq_refl _) ?_
          (conv => whnf); refine And.intro (by omega) ?_
          (conv => whnf); refine recT (by rw [eC_length]; exact Nat.beq_refl _) ?_
          (conv => whnf); refine recO (eC_at0 hx) ?_
          (conv => whnf); refine recT (by rw [eC_length]; exact Nat.beq_refl _) ?_
          (conv => whnf); refine And.intro (by omega) ?_
          (conv => whnf); refine recT (by rw [eC_length]; exact Nat.beq_refl _) ?_
          (conv => whnf); refine recO (eC_at0 hy) ?_
          (conv => whnf); refine ⟨_, value_CompareRows_spec F.value_CompareRows false false x.row y.row (by omega) _, ?_⟩
          (conv => whnf); refine recA (fun hc2 => ?_) (fun hc2 => ?_)
          · replace hc2 : (rowsCmp x.row y.row == 0) = true := hc2
            have hc3 : rowsCmp x.row y.row = 0 := by simpa using hc2
            (conv => whnf); refine recT (by rw [eC_length]; exact Nat.beq_refl _) ?_
            (conv => whnf); refine And.intro (by omega) ?_
            (conv => whnf); refine recT (by rw [eC_length]; exact Nat.beq_refl _) ?_
            (conv => whnf); refine recO (eC_at0 hy) ?_
            conv => whnf
            have ew := wrapI (acc + y.cnt) (by omega) (by omega)
            refine ⟨m1 - 1, by omega, Gp.two 0 1 (by decide) 2 2 (eC S) (eC (pre.filter nzB)) rfl rfl (pureEs_eC _) (pureEs_eC _) rfl ?_ fun ρ2 h => ⟨k + 1, acc + y.cnt, by omega, .inr ⟨by omega, ?_⟩, by omega, by omega, rfl, h⟩⟩
            · exact ⟨pubSl (k := 0) rfl rfl rfl rfl, pubSl (k := 1) rfl rfl rfl rfl, .closed _ rfl, pub_int ew, pub_int (wrapI _ (by omega) (by omega)), trivial⟩
            · rcases hc with ⟨h1, h2⟩ | ⟨h1, h2⟩
              · subst h1 h2
                rw [hx] at hy
                cases hy
                rw [grpL_drop hx, Int.zero_add]
              · exact h2.trans (grpA_step (c := ⟨x.row, acc⟩) hy hc3)
          · replace hc2 : (rowsCmp x.row y.row == 0) = false := hc2
            have hc3 : rowsCmp x.row y.row ≠ 0 := by simpa using hc2
            have hik : i < k ∧ grpL (S.drop i) = grpA ⟨x.row, acc⟩ (S.drop k) := by
              rcases hc with ⟨h1, h2⟩ | h
              · subst h1
                rw [hx] at hy
                cases hy
                exact absurd ((rowsCmp_zero _ _).2 rfl) hc3
              · exact h
            have hend := hik.2.trans (grpA_end (.inr ⟨y, hy, hc3⟩))
            conv => whnf
            have hN : grpL S = (pre ++ [⟨x.row, acc⟩]) ++ grpL (S.drop k) := by rw [hG, hend, List.append_assoc]; rfl
            (conv => whnf); refine recT (by rw [eC_length]; exact Nat.beq_refl _) ?_
            (conv => whnf); refine And.intro (by omega) ?_
            (conv => whnf); refine recT (by rw [eC_length]; exact Nat.beq_refl _) ?_
            (conv => whnf); refine recO (eC_at0 hx) ?_
            (conv => whnf); refine ACalls.mono (put1_spec F.bag_put (.arr 2 (eC S)) false (pre.filter nzB) (by omega) x.row (by omega) acc) ?_
            rintro r H1 (⟨hsm, rfl, rfl⟩ | ⟨hsm, hz0, rfl, rfl⟩ | ⟨hsm, hz0, rfl, rfl⟩)
            · conv => whnf
              refine ⟨m - 1, by omega, Gp.one 0 2 (eC S) rfl (pureEs_eC _) rfl ?_ fun ρ2 h => .inr ⟨k, by rw [hN]; simp [hsm], by omega, rfl, h⟩⟩
              exact ⟨pubSl (k := 0) rfl rfl rfl rfl, .closed _ rfl, .closed _ rfl, .closed _ rfl, trivial⟩
            · have hPN : ((pre ++ [(⟨x.row, acc⟩ : Ent)]).all fun e => smallB e.cnt) = true := by rw [List.all_append, hP]; simp [hsm]
              have hF : (pre ++ [(⟨x.row, acc⟩ : Ent)]).filter nzB = pre.filter nzB := by rw [List.filter_append]; simp [nzB, hz0]
              conv => whnf
              refine ⟨S.length - k, by omega, Gp.two 0 1 (by decide) 2 2 (eC S) (eC ((pre ++ [(⟨x.row, acc⟩ : Ent)]).filter nzB)) rfl (by rw [hF]; rfl) (pureEs_eC _) (pureEs_eC _) rfl ?_ fun ρ2 h => .inl ⟨k, pre ++ [⟨x.row, acc⟩], by omega, hN, hPN, by simp; omega, rfl, h⟩⟩
              exact ⟨pubSl (k := 0) rfl rfl rfl rfl, by rw [hF]; exact pubSl (k := 1) rfl rfl rfl rfl, .closed _ rfl, .closed _ rfl, trivial⟩
            · have hPN : ((pre ++ [(⟨x.row, acc⟩ : Ent)]).all fun e => smallB e.cnt) = true := by rw [List.all_append, hP]; simp [hsm]
              have hF : (pre ++ [(⟨x.row, acc⟩ : Ent)]).filter nzB = pre.filter nzB ++ [⟨x.row, acc⟩] := by rw [List.filter_append]; simp [nzB, hz0]
              have hFl : ((pre ++ [(⟨x.row, acc⟩ : Ent)]).filter nzB).length = (pre.filter nzB).length + 1 := by rw [hF, List.length_append]; rfl
              conv => whnf
              refine ⟨S.length - k, by omega, Gp.two 0 1 (by decide) 2 2 (eC S) (eC ((pre ++ [(⟨x.row, acc⟩ : Ent)]).filter nzB)) rfl (by rw [hF]; rfl) (pureEs_eC _) (pureEs_eC _) rfl ?_ fun ρ2 h => .inl ⟨k, pre ++ [⟨x.row, acc⟩], by omega, hN, hPN, by simp; omega, rfl, h⟩⟩
              exact ⟨pubSl (k := 0) rfl rfl rfl rfl, pubSl (k := 1) rfl rfl hFl.symm hFl.symm, .closed _ rfl, .closed _ rfl, trivial⟩
        · simp at hkl
          have hik : i < k ∧ grpL (S.drop i) = grpA ⟨x.row, acc⟩ (S.drop k) := by
            rcases hc with ⟨h1, h2⟩ | h
            · omega
            · exact h
          have hend := hik.2.trans (grpA_end (.inl hkl))
          conv => whnf
          have hN : grpL S = (pre ++ [⟨x.row, acc⟩]) ++ grpL (S.drop k) := by rw [hG, hend, List.append_assoc]; rfl
          (conv => whnf); refine recT (by rw [eC_length]; exact Nat.beq_refl _) ?_
          (conv => whnf); refine And.intro (by omega) ?_
          (conv => whnf); refine recT (by rw [eC_length]; exact Nat.beq_refl _) ?_
          (conv => whnf); refine recO (eC_at0 hx) ?_
          (conv => whnf); refine ACalls.mono (put1_spec F.bag_put (.arr 2 (eC S)) false (pre.filter nzB) (by omega) x.row (by omega) acc) ?_
          rintro r H1 (⟨hsm, rfl, rfl⟩ | ⟨hsm, hz0, rfl, rfl⟩ | ⟨hsm, hz0, rfl, rfl⟩)
          · conv => whnf
            refine ⟨m - 1, by omega, Gp.one 0 2 (eC S) rfl (pureEs_eC _) rfl ?_ fun ρ2 h => .inr ⟨k, by rw [hN]; simp [hsm], by omega, rfl, h⟩⟩
            exact ⟨pubSl (k := 0) rfl rfl rfl rfl, .closed _ rfl, .closed _ rfl, .closed _ rfl, trivial⟩
          · have hPN : ((pre ++ [(⟨x.row, acc⟩ : Ent)]).all fun e => smallB e.cnt) = true := by rw [List.all_append, hP]; simp [hsm]
            have hF : (pre ++ [(⟨x.row, acc⟩ : Ent)]).filter nzB = pre.filter nzB := by rw [List.filter_append]; simp [nzB, hz0]
            conv => whnf
            refine ⟨S.length - k, by omega, Gp.two 0 1 (by decide) 2 2 (eC S) (eC ((pre ++ [(⟨x.row, acc⟩ : Ent)]).filter nzB)) rfl (by rw [hF]; rfl) (pureEs_eC _) (pureEs_eC _) rfl ?_ fun ρ2 h => .inl ⟨k, pre ++ [⟨x.row, acc⟩], by omega, hN, hPN, by simp; omega, rfl, h⟩⟩
            exact ⟨pubSl (k := 0) rfl rfl rfl rfl, by rw [hF]; exact pubSl (k := 1) rfl rfl rfl rfl, .closed _ rfl, .closed _ rfl, trivial⟩
          · have hPN : ((pre ++ [(⟨x.row, acc⟩ : Ent)]).all fun e => smallB e.cnt) = true := by rw [List.all_append, hP]; simp [hsm]
            have hF : (pre ++ [(⟨x.row, acc⟩ : Ent)]).filter nzB = pre.filter nzB ++ [⟨x.row, acc⟩] := by rw [List.filter_append]; simp [nzB, hz0]
            have hFl : ((pre ++ [(⟨x.row, acc⟩ : Ent)]).filter nzB).length = (pre.filter nzB).length + 1 := by rw [hF, List.length_append]; rfl
            conv => whnf
            refine ⟨S.length - k, by omega, Gp.two 0 1 (by decide) 2 2 (eC S) (eC ((pre ++ [(⟨x.row, acc⟩ : Ent)]).filter nzB)) rfl (by rw [hF]; rfl) (pureEs_eC _) (pureEs_eC _) rfl ?_ fun ρ2 h => .inl ⟨k, pre ++ [⟨x.row, acc⟩], by omega, hN, hPN, by simp; omega, rfl, h⟩⟩
            exact ⟨pubSl (k := 0) rfl rfl rfl rfl, pubSl (k := 1) rfl rfl hFl.symm hFl.symm, .closed _ rfl, .closed _ rfl, trivial⟩
      · simp at hlt
        have hi : S.drop i = [] := List.drop_of_length_le hlt
        rw [hi] at hG
        have hGG : grpL S = pre := by rw [hG]; simp [grpL]
        conv => whnf
        refine (done1_spec F.bag_done _ (pre.filter nzB)).mono ?_
        rintro r H1 ⟨rfl, ⟨h, rfl⟩ | ⟨h, rfl⟩⟩
        · conv => whnf
          rw [hGG, resR, if_neg (by omega)]
          exact pub2 (.closed _ rfl) (.closed _ rfl)
        · conv => whnf
          rw [hGG, resR, if_pos ⟨hP, h⟩]
          exact pub2 (pubF rfl (eC_length _).symm (eC_length _).symm (pureEs_eC _)) (.closed _ rfl)
    · (conv => whnf); refine recT (by rw [eC_length]; exact Nat.beq_refl _) ?_
      (conv => whnf); refine recA (fun hlt => ?_) (fun hlt => ?_)
      all_goals
        conv => whnf
        rw [resR_bad _ hbad]
        exact pub2 (.closed _ rfl) (.closed _ rfl)

end Go.AW

