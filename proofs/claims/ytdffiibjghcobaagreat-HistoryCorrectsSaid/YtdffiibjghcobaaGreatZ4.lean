/-
  An abstract machine over the model, the code of functions on it, and their contracts: what the claim needs.
  No condition: definitions, plain laws, contracts over any program that has this code.
-/
import Derived.Test.YtdffiibjghcobaaGreatZ3
set_option linter.all false
namespace Go.AW
variable [Draws]
attribute [local irreducible] ACalls
def g0 : Grp := ⟨0, []⟩

def n5 : V := ⟨2, 5, bs []⟩

theorem n5_valid : validB n5 = true := by kernel_rfl

theorem mrg_one (v : V) (a b : Int) : mrg [⟨[v], a⟩] [⟨[v], b⟩] = [⟨[v], a + b⟩] := by
 have h : rowsCmp [v] [v] = 0 := (rowsCmp_zero _ _).2 rfl
 rw [mrg_cons, if_neg (by show ¬ rowsCmp [v] [v] < 0; omega), if_neg (by show ¬ 0 < rowsCmp [v] [v]; omega), mrg_nil]

theorem srt_one (e : Ent) : Srt [e] := List.pairwise_singleton ..

theorem bagB_one (v : V) (c : Int) (hv : validB v = true) (hc : c ≠ 0) (hs : smallB c = true) : bagB [⟨[v], c⟩] = 0 :=
 (bagB_iff _).2 ⟨by simp, fun e he => by
  rw [List.mem_singleton] at he; subst he
  exact ⟨(fitB_iff _).2 ⟨by simp, hs, by simp [hv]⟩, hc⟩, srt_one _⟩

theorem bagB_nil : bagB [] = 0 := rfl

theorem grpB_intro {g : Grp} (h1 : rowsB g.n = true) (h2 : bagB g.vals = 0) (h3 : g.vals.all oneB = true) : grpB g = 0 := by
 rw [grpB, if_neg (by simp [h1]), if_neg (by simp [h2]), if_pos h3]

theorem k1 : addGE g0 n5 2 = 0 ∧ addGG g0 n5 2 = ⟨2, [⟨[n5], 2⟩]⟩ := by
 have hp : preE g0 n5 2 = 0 := by rw [preE, if_neg (by simp [grpB_intro (g := g0) rfl rfl rfl]), if_neg (by simp [n5_valid]), if_neg (by decide)]
 have ho : oneG n5 2 = ⟨2, [⟨[n5], 2⟩]⟩ := by rw [oneG, if_pos ⟨by decide, by decide⟩]
 have hm : mrgE g0 ⟨2, [⟨[n5], 2⟩]⟩ = 0 := by
  rw [mrgE, if_neg (by decide), sumE, if_neg (by simp [g0, bagB_nil]), if_neg (by simp [bagB_one n5 2 n5_valid (by decide) (by decide)]), if_pos ⟨by simp [g0, mrg_nil, smallB], by simp [g0, mrg_nil, nzB]⟩]
 have e1 : addGE g0 n5 2 = 0 := by rw [addGE, if_neg (by simp [hp]), ho, hm]
 refine ⟨e1, ?_⟩
 rw [addGG, if_neg (by simp [hp]), ho, mrgG, if_pos hm]
 simp [g0, sumL, mrg_nil, nzB]

theorem k2 : addGE ⟨2, [⟨[n5], 2⟩]⟩ n5 (-1) = 0 ∧ addGG ⟨2, [⟨[n5], 2⟩]⟩ n5 (-1) = ⟨1, [⟨[n5], 1⟩]⟩ := by
 have hb := bagB_one n5 2 n5_valid (by decide) (by decide)
 have hp : preE ⟨2, [⟨[n5], 2⟩]⟩ n5 (-1) = 0 := by rw [preE, if_neg (by simp [grpB_intro (g := ⟨2, [⟨[n5], 2⟩]⟩) rfl hb rfl]), if_neg (by simp [n5_valid]), if_neg (by decide)]
 have ho : oneG n5 (-1) = ⟨-1, [⟨[n5], -1⟩]⟩ := by rw [oneG, if_pos ⟨by decide, by decide⟩]
 have hm : mrgE ⟨2, [⟨[n5], 2⟩]⟩ ⟨-1, [⟨[n5], -1⟩]⟩ = 0 := by
  rw [mrgE, if_neg (by decide), sumE, if_neg (by simp [hb]), if_neg (by simp [bagB_one n5 (-1) n5_valid (by decide) (by decide)]), if_pos ⟨by simp [mrg_one, smallB], by simp [mrg_one, nzB]⟩]
 have e1 : addGE ⟨2, [⟨[n5], 2⟩]⟩ n5 (-1) = 0 := by rw [addGE, if_neg (by simp [hp]), ho, hm]
 refine ⟨e1, ?_⟩
 rw [addGG, if_neg (by simp [hp]), ho, mrgG, if_pos hm]
 simp [sumL, mrg_one, nzB]

def gk : Grp := ⟨1, [⟨[n5], 1⟩]⟩

theorem gk_ok : grpB gk = 0 := grpB_intro rfl (bagB_one n5 1 n5_valid (by decide) (by decide)) rfl

theorem k3 : resE 3 gk = 0 ∧ resV 3 gk = n5 ∧ resE 1 gk = 0 ∧ resV 1 gk = ⟨2, 1, bs []⟩ := by
 have h3 : resE 3 gk = 0 := by rw [resE, if_neg (by decide), if_neg (by simp [gk_ok])]; rfl
 have h1 : resE 1 gk = 0 := by rw [resE, if_neg (by decide), if_neg (by simp [gk_ok])]; rfl
 refine ⟨h3, ?_, h1, ?_⟩
 ·rw [resV, if_neg (by simp [h3])]; kernel_rfl
 ·rw [resV, if_neg (by simp [h1])]; kernel_rfl

theorem k4 : resE 3 g0 = 0 ∧ resV 3 g0 = zV := by
 have h3 : resE 3 g0 = 0 := by rw [resE, if_neg (by decide), if_neg (by simp [grpB_intro (g := g0) rfl rfl rfl])]; rfl
 exact ⟨h3, by rw [resV, if_neg (by simp [h3])]; kernel_rfl⟩

end Go.AW

namespace Go.AW
variable [Draws]
attribute [local irreducible] ACalls
def pureO : AObj → Bool
 | .arr _ es => pureEs es
 | .iter _ _ => true
 | .map kvs => kvs.all fun kv => kv.2.isPure

theorem gpO_of {H : List AObj} {ids : List Nat} : ∀ (is : List Nat) (r : List AObj), is.length = r.length → (∀ (k id : Nat) (o : AObj), is[k]? = some id → r[k]? = some o → H[id]? = some o ∧ pureO o = true) → gpO H ids is r
 | [], [], _, _ => trivial
 | [], _ :: _, h, _ => by simp at h
 | _ :: _, [], h, _ => by simp at h
 | id :: is, o :: r, hl, h => by
  obtain ⟨h1, h2⟩ := h 0 id o rfl rfl
  refine ⟨⟨o, h1, ?_⟩, gpO_of is r (by simpa using hl) fun k id o h1 h2 => h (k + 1) id o (by simpa using h1) (by simpa using h2)⟩
  cases o with
  | arr s es => exact .same s es h2
  | iter s p => exact .iter s p
  | map kvs => exact .mp kvs h2

theorem Gp.first {n : Nat} {live : List (Nat × AVal)} {ρ : List AVal} {H : List AObj} {I : List AVal → List AObj → Prop} (k : Nat) (H1 : List AObj) (hk : H.take k = H1) (hn : H1.length = k) (hp : H1.all pureO = true)
  (hl : ρ.length = n) (h : SvPub H (List.range k) ρ live) (hI : ∀ ρ1, Sv n live ρ1 → I ρ1 H1) : Gp [] ρ H I := by
 refine Gp.some (H1 := H1) (List.range k) List.nodup_range (gpO_of _ _ (by simp [hn]) fun j id o h1 h2 => ?_) hl h hI
 have hj := (List.getElem?_eq_some_iff.1 h2).1
 rw [List.getElem?_range (by omega)] at h1
 cases h1
 refine ⟨?_, List.all_eq_true.1 hp o (List.mem_of_getElem? h2)⟩
 rw [← hk, List.getElem?_take] at h2
 rwa [if_pos (by omega)] at h2

end Go.AW

namespace Go.AW
variable [Draws]
attribute [local irreducible] ACalls
def beN : Nat → Int → List Int
 | 0, _ => []
 | k + 1, n => beN k (n / 256) ++ [n % 256]

theorem beN_length : ∀ (k : Nat) (n : Int), (beN k n).length = k
 | 0, _ => rfl
 | k + 1, n => by rw [beN, List.length_append, beN_length k]; rfl

theorem beN_byt : ∀ (k : Nat) (n : Int), Byt (beN k n)
 | 0, _ => fun x h => by simp [beN] at h
 | k + 1, n => fun x h => by
  rw [beN] at h
  rcases List.mem_append.1 h with h | h
  ·exact beN_byt k _ x h
  ·rw [List.mem_singleton] at h; subst h; omega

theorem beN_head : ∀ (k : Nat) (n : Int), beN (k + 1) n = (n / 256 ^ k) % 256 :: beN k n
 | 0, n => by simp [beN]
 | k + 1, n => by
  rw [beN, beN_head k (n / 256), beN, List.cons_append]
  congr 2
  rw [Int.ediv_ediv_of_nonneg (by omega), Int.pow_succ, Int.mul_comm]

def w2 (n : Int) : List Int := [u8 (n.fdiv (2 ^ 8)), u8 n]

theorem w2_eq (n : Int) : w2 n = beN 2 n := by
 simp only [w2, beN, u8_eq, List.nil_append, List.singleton_append]
 rw [Int.fdiv_eq_ediv_of_nonneg _ (by omega)]; rfl

theorem w4_eq (n : Int) : w4 n = beN 4 n := by
 simp only [w4, beN, u8_eq, List.nil_append, List.singleton_append, List.cons_append]
 rw [Int.fdiv_eq_ediv_of_nonneg _ (by omega), Int.fdiv_eq_ediv_of_nonneg _ (by omega), Int.fdiv_eq_ediv_of_nonneg _ (by omega)]
 congr 1
 ·omega
 congr 1
 ·omega

theorem byteCells_eq (s : ByteArray) : byteCells s.data.toList = bC (bytesI s) := by simp [byteCells, bC, bytesI]

theorem bytesI_length (s : ByteArray) : (bytesI s).length = s.size := by simp [bytesI]

def fnvS (s c : Int) : Int := IntKind.u32.wrap (IntKind.u32.wrap (BitVec.ofInt 32 s ^^^ BitVec.ofInt 32 (IntKind.u32.wrap c)).toNat * 16777619)

def fnvG (l : List Int) (s : Int) : Int := l.foldl fnvS s

def fnv (l : List Int) : Int := fnvG l 2166136261

theorem u32_wrap (n : Int) : IntKind.u32.wrap n = n % 4294967296 := by simp [IntKind.wrap, IntKind.bits, IntKind.signed]

theorem u64_wrap (n : Int) : IntKind.u64.wrap n = n % 18446744073709551616 := by simp [IntKind.wrap, IntKind.bits, IntKind.signed]

theorem fnvS_bound (s c : Int) : 0 ≤ fnvS s c ∧ fnvS s c < 4294967296 := by rw [fnvS, u32_wrap]; omega

theorem fnvG_bound : ∀ (l : List Int) (s : Int), 0 ≤ s → s < 4294967296 → 0 ≤ fnvG l s ∧ fnvG l s < 4294967296
 | [], s, h1, h2 => ⟨h1, h2⟩
 | c :: l, s, _, _ => fnvG_bound l (fnvS s c) (fnvS_bound s c).1 (fnvS_bound s c).2

theorem fnv_bound (l : List Int) : 0 ≤ fnv l ∧ fnv l < 4294967296 := fnvG_bound l _ (by decide) (by decide)

theorem bC_get {l : List Int} {k : Nat} {x : Int} (h : l[k]? = some x) : (bC l)[k]? = some [.int .u8 x] := by rw [bC, List.getElem?_map, h]; rfl

set_option maxRecDepth 20000 in
theorem Checksum_spec {P : Program} (F : F_z07 P) (ex : Bool) (l : List Int) (hl : l.length ≤ 100000000) (H : List AObj) :
  ACalls P F.id [.list ex 1 (bC l)] H (fun r H' => r = .int .u32 (fnv l) ∧ H' = H) := by
 refine ACalls.pure rfl (acalls_of_body F.has ?_)
 conv => whnf
 refine ⟨fun m ρ H1 => ∃ (k : Nat) (s : Int), k + m = l.length ∧ fnvG (l.drop k) s = fnv l ∧ H1 = [] ∧
  Sv 19 [(3, .int .u32 s), (6, .list ex 1 (bC l)), (7, .int .i64 l.length), (8, .int .i64 k)] ρ, l.length, [], ?_, ?_⟩
 ·exact ⟨0, _, by omega, rfl, rfl, Sv.intro rfl ⟨rfl, rfl, intEq (by rw [bC_length]), rfl, trivial⟩⟩
 rintro m ρ H1 ⟨k, s, hk, hr, rfl, d, rfl⟩
 (conv => whnf); refine recA (fun hlt => ?_) (fun hlt => ?_)
 ·simp at hlt
  obtain ⟨x, hx, hd, _⟩ := get_drop hlt
  rw [hd] at hr
  (conv => whnf); refine And.intro (by omega) ?_
  (conv => whnf); refine recO (bC_get hx) ?_
  conv => whnf
  refine ⟨m - 1, by omega, Gp.keep rfl ?_ fun ρ1 h => ⟨k + 1, fnvS s x, by omega, hr, rfl, h⟩⟩
  exact ⟨rfl, rfl, rfl, intEq (wrapI ((k : Int) + 1) (by omega) (by omega)), trivial⟩
 ·simp at hlt
  conv => whnf
  rw [List.drop_eq_nil_of_le hlt] at hr
  exact pubI hr

theorem xor_nat (k : Nat) (a b : Nat) (ha : a < 2 ^ k) (hb : b < 2 ^ k) : (BitVec.ofInt k (a : Int) ^^^ BitVec.ofInt k (b : Int)).toNat = a ^^^ b := by
 rw [BitVec.toNat_xor, BitVec.ofInt_natCast, BitVec.ofInt_natCast, BitVec.toNat_ofNat, BitVec.toNat_ofNat, Nat.mod_eq_of_lt ha, Nat.mod_eq_of_lt hb]

theorem fnv_ref (s c : Int) (h0 : 0 ≤ s) (h1 : s < 4294967296) (c0 : 0 ≤ c) (c1 : c ≤ 255) :
  (IntKind.u64.wrap (IntKind.u64.wrap (BitVec.ofInt 64 s ^^^ BitVec.ofInt 64 (IntKind.u64.wrap c)).toNat * 16777619)).tmod 4294967296 = fnvS s c := by
 obtain ⟨a, rfl⟩ := Int.eq_ofNat_of_zero_le h0
 obtain ⟨b, rfl⟩ := Int.eq_ofNat_of_zero_le c0
 have w1 : IntKind.u64.wrap (b : Int) = b := by rw [u64_wrap]; omega
 have w2 : IntKind.u32.wrap (b : Int) = b := by rw [u32_wrap]; omega
 have hx : a ^^^ b < 2 ^ 32 := Nat.xor_lt_two_pow (by omega) (by omega)
 rw [fnvS, w1, w2, xor_nat 64 a b (by omega) (by omega), xor_nat 32 a b (by omega) (by omega)]
 rw [u64_wrap, u64_wrap, u32_wrap, u32_wrap, Int.tmod_eq_emod_of_nonneg (by omega)]
 omega

set_option maxRecDepth 20000 in
theorem ref24_Checksum_spec {P : Program} (F : F_z2a P) (ex : Bool) (l : List Int) (hl : l.length ≤ 100000000) (hb : Byt l) (H : List AObj) :
  ACalls P F.id [.list ex 1 (bC l)] H (fun r H' => r = .int .u32 (fnv l) ∧ H' = H) := by
 refine ACalls.pure rfl (acalls_of_body F.has ?_)
 conv => whnf
 refine ⟨fun m ρ H1 => ∃ (k : Nat) (s : Int), k + m = l.length ∧ fnvG (l.drop k) s = fnv l ∧ 0 ≤ s ∧ s < 4294967296 ∧ H1 = [] ∧
  Sv 22 [(0, .list ex 1 (bC l)), (3, .int .u64 s), (4, .int .i64 k)] ρ, l.length, [], ?_, ?_⟩
 ·exact ⟨0, _, by omega, rfl, by decide, by decide, rfl, Sv.intro rfl ⟨rfl, rfl, rfl, trivial⟩⟩
 rintro m ρ H1 ⟨k, s, hk, hr, s0, s1, rfl, d, rfl⟩
 (conv => whnf); refine recA (fun hlt => ?_) (fun hlt => ?_)
 ·simp [bC_length] at hlt
  obtain ⟨x, hx, hd, hxm⟩ := get_drop hlt
  rw [hd] at hr
  have hxb := hb x hxm
  (conv => whnf); refine And.intro (by omega) ?_
  (conv => whnf); refine recO (bC_get hx) ?_
  (conv => whnf); refine And.intro (by decide) ?_
  conv => whnf
  refine ⟨m - 1, by omega, Gp.keep rfl ?_ fun ρ1 h => ⟨k + 1, fnvS s x, by omega, hr, (fnvS_bound s x).1, (fnvS_bound s x).2, rfl, h⟩⟩
  exact ⟨rfl, intEq (fnv_ref s x s0 s1 hxb.1 hxb.2), intEq (wrapI ((k : Int) + 1) (by omega) (by omega)), trivial⟩
 ·simp [bC_length] at hlt
  conv => whnf
  rw [List.drop_eq_nil_of_le hlt] at hr
  have e : IntKind.u32.wrap s = s := by rw [u32_wrap]; omega
  exact pubI (by rw [← hr]; exact e)

theorem setEs_bC (l : List Int) (k : Nat) (v : Int) : setEs (bC l) k [.int .u8 v] = bC (l.set k v) := by rw [setEs_eq]; simp [bC]

def numK (k j : Nat) (n : Int) : List Int := List.replicate (k - j) 0 ++ beN j n

theorem numK_length {k j : Nat} (n : Int) (h : j ≤ k) : (numK k j n).length = k := by rw [numK, List.length_append, List.length_replicate, beN_length]; omega

theorem numK_set {k j : Nat} (n : Int) (h : j < k) : (numK k j n).set (k - 1 - j) ((n / 256 ^ j) % 256) = numK k (j + 1) n := by
 rw [numK, numK, beN_head, show k - j = (k - (j + 1)) + 1 by omega, List.replicate_succ', List.append_assoc, List.set_append, if_neg (by simp; omega)]
 simp [show k - 1 - j - (k - (j + 1)) = 0 by omega]

theorem div_pow (n : Int) (j : Nat) : n / 256 ^ j / 256 = n / 256 ^ (j + 1) := by
 rw [Int.ediv_ediv_of_nonneg (Int.pow_nonneg (by omega)), Int.pow_succ]

set_option maxRecDepth 20000 in
theorem ref24_number_raw {P : Program} (F : F_z2g P) (n : Int) (k : Nat) (hn : 0 ≤ n) (hn2 : n ≤ 9000000000000000000) (hk : k ≤ 100) :
  ACalls P F.id [.int .i64 n, .int .i64 k] [] (fun r H' => r = .sl 0 k 0 k ∧ H' = [.arr 1 (bC (beN k n))]) := by
 refine acalls_of_body F.has ?_
 (conv => whnf); refine And.intro (⟨by omega, by omega, by show (k : Int) * ((1 : Nat) : Int) ≤ 1099511627776; omega, by show (k : Int) ≤ 1099511627776; omega⟩) ?_
 conv => whnf
 have ew : IntKind.i64.wrap ((k : Int) - 1) = (k : Int) - 1 := wrapI _ (by omega) (by omega)
 refine ⟨fun m ρ H1 => ∃ j : Nat, j + m = k ∧ H1 = [.arr 1 (bC (numK k j n))] ∧
  Sv 24 [(0, .int .i64 (n / 256 ^ j)), (5, .sl 0 k 0 k), (6, .int .i64 ((k : Int) - 1 - j))] ρ, k, [], ?_, ?_⟩
 ·refine ⟨0, by omega, ?_, Sv.intro rfl ⟨intEq (by simp), rfl, intEq (by rw [ew]; omega), trivial⟩⟩
  simp [numK, beN, bC]
 rintro m ρ H1 ⟨j, hj, rfl, d, rfl⟩
 have hlen : (bC (numK k j n)).length = k := by rw [bC_length, numK_length n (by omega)]
 have hq0 : 0 ≤ n / 256 ^ j := Int.ediv_nonneg hn (Int.pow_nonneg (by omega))
 have hq1 : n / 256 ^ j ≤ n := Int.ediv_le_self _ hn
 (conv => whnf); refine recA (fun hlt => ?_) (fun hlt => ?_)
 ·replace hlt : decide ((k : Int) - 1 - j ≥ 0) = true := hlt
  simp at hlt
  have hjn : ((k : Int) - 1 - j).toNat = k - 1 - j := by omega
  have hg : (bC (numK k j n))[0 + ((k : Int) - 1 - j).toNat]? = some [.int .u8 ((numK k j n)[k - 1 - j]'(by rw [numK_length n (by omega)]; omega))] := by
   rw [Nat.zero_add, hjn]; exact bC_get (List.getElem?_eq_getElem _)
  (conv => whnf); refine And.intro (by decide) ?_
  (conv => whnf); refine recT (by rw [hlen]; exact Nat.beq_refl _) ?_
  (conv => whnf); refine And.intro (⟨by omega, by omega⟩) ?_
  (conv => whnf); refine recT (by rw [hlen]; exact Nat.beq_refl _) ?_
  (conv => whnf); refine recO (hg) ?_
  (conv => whnf); refine And.intro (by decide) ?_
  conv => whnf
  refine ⟨m - 1, by omega, Gp.keep rfl ?_ fun ρ1 h => ⟨j + 1, by omega, ?_, h⟩⟩
  ·refine ⟨intEq ?_, rfl, intEq ?_, trivial⟩
   ·show IntKind.i64.wrap ((n / 256 ^ j).tdiv 256) = _
    rw [Int.tdiv_eq_ediv_of_nonneg hq0, div_pow, wrapI _ (by have := Int.ediv_nonneg hn (Int.pow_nonneg (n := 256) (m := j + 1) (by omega)); omega) (by have := Int.ediv_le_self (256 ^ (j + 1)) hn; omega)]
   ·show IntKind.i64.wrap ((k : Int) - 1 - j - 1) = _
    rw [wrapI _ (by omega) (by omega)]; omega
  ·have hv : IntKind.u8.wrap ((n / 256 ^ j).tmod 256) = (n / 256 ^ j) % 256 := by
    have := u8_eq ((n / 256 ^ j).tmod 256)
    rw [show u8 ((n / 256 ^ j).tmod 256) = IntKind.u8.wrap ((n / 256 ^ j).tmod 256) from rfl] at this
    rw [this, Int.tmod_eq_emod_of_nonneg hq0]; omega
   rw [← numK_set n (by omega), ← setEs_bC, ← hv, ← hjn]
   show [AObj.arr 1 (setEs (bC (numK k j n)) (0 + ((k : Int) - 1 - j).toNat) _)] = _
   rw [Nat.zero_add]
 ·replace hlt : decide ((k : Int) - 1 - j ≥ 0) = false := hlt
  simp at hlt
  have : j = k := by omega
  subst this
  conv => whnf
  refine ⟨rfl, ?_⟩
  simp [numK]

theorem ref24_number_spec {P : Program} (F : F_z2g P) (n : Int) (k : Nat) (hn : 0 ≤ n) (hn2 : n ≤ 9000000000000000000) (hk : k ≤ 100) (H : List AObj) :
  ACalls P F.id [.int .i64 n, .int .i64 k] H (fun r H' => r = .list false 1 (bC (beN k n)) ∧ H' = H) :=
 ACalls.frz1 rfl (ref24_number_raw F n k hn hn2 hk) (by rw [bC_length, beN_length]) (pureEs_bC _)

end Go.AW

namespace Go.AW
variable [Draws]
attribute [local irreducible] ACalls
structure Rec where
 del : Bool
 seq : Int
 row : List V

structure Fil where
 id : ByteArray
 src : ByteArray
 recs : List Rec

def recC (r : Rec) : List AVal := [.bool r.del, .int .i64 r.seq, .list false 3 (vC r.row)]

def rC (l : List Rec) : List (List AVal) := l.map recC

def fV (f : Fil) : List AVal := [.str f.id, .str f.src, .list false 3 (rC f.recs)]

theorem rC_length (l : List Rec) : (rC l).length = l.length := List.length_map ..

theorem rC_append (a b : List Rec) : rC (a ++ b) = rC a ++ rC b := List.map_append

theorem pureEs_rC (l : List Rec) : pureEs (rC l) = true := by simp [pureEs, rC, recC, AVal.isPure]

theorem rC_at {l : List Rec} {k : Nat} {x : Rec} (h : l[k]? = some x) : (rC l)[k]? = some (recC x) := by rw [rC, List.getElem?_map, h]; rfl

def rowE (row : List V) : Int := if 12 < row.length then 2 else if row.all validB then 0 else 8

theorem encR_eq (row : List V) : encR row = if rowE row = 0 then .tuple [.list false 1 (bC (encB row)), .int .i64 0] else .tuple [.nil, .int .i64 (rowE row)] := by
 unfold encR rowE
 split
 ·rw [if_neg (by decide)]
 ·split
  ·rw [if_pos rfl]
  ·rw [if_neg (by decide)]

theorem rowE_zero {row : List V} (h : rowE row = 0) : row.length ≤ 12 ∧ row.all validB = true := by
 unfold rowE at h
 split at h
 ·cases h
 ·split at h
  ·exact ⟨by omega, by assumption⟩
  ·cases h

theorem encB_len {row : List V} (h : rowE row = 0) : (encB row).length ≤ 793 := by
 obtain ⟨h1, h2⟩ := rowE_zero h
 have := encK_len row row.length (by rw [List.take_length]; exact h2)
 rw [encK, List.take_length] at this
 show (u8 row.length :: row.flatMap encV).length ≤ 793
 omega

def recE (r : Rec) : Int := if r.seq < 0 ∨ 1073741824 < r.seq then 1 else rowE r.row

def recsE : List Rec → Int
 | [] => 0
 | r :: l => if recE r ≠ 0 then recE r else recsE l

def filE (f : Fil) : Int := if nameB f.id = false ∨ qualB f.src = false then 4 else if 1024 < f.recs.length then 2 else recsE f.recs

theorem recsE_zero : ∀ {l : List Rec}, recsE l = 0 → ∀ r ∈ l, recE r = 0
 | [], _, r, hr => by simp at hr
 | x :: l, h, r, hr => by
  rw [recsE] at h
  split at h
  ·rename_i hx; exact absurd h hx
  ·rename_i hx
   rcases List.mem_cons.1 hr with rfl | hr
   ·simpa using hx
   ·exact recsE_zero h r hr

theorem recE_zero {r : Rec} (h : recE r = 0) : 0 ≤ r.seq ∧ r.seq ≤ 1073741824 ∧ rowE r.row = 0 := by
 unfold recE at h
 split at h
 ·cases h
 ·exact ⟨by omega, by omega, h⟩

set_option maxRecDepth 20000 in
theorem batch_Validate_spec {P : Program} (F : F_z08 P) (f : Fil) (hs : f.src.size ≤ 1000000) (H : List AObj) :
  ACalls P F.id [.agg (fV f)] H (fun r H' => r = .int .i64 (filE f) ∧ H' = H) := by
 refine ACalls.pure (by simp [AVal.closed, fV, AVal.isPure]) (acalls_of_body F.has ?_)
 (conv => whnf); refine ACalls.use (schema_IsName_spec F.z0y f.id _) ?_
 (conv => whnf); refine recA (fun h1 => ?_) (fun h1 => ?_)
 ·replace h1 : (!(nameB f.id)) = true := h1
  simp at h1
  conv => whnf
  exact pubI (by rw [filE, if_pos (.inl h1)])
 replace h1 : (!(nameB f.id)) = false := h1
 simp at h1
 (conv => whnf); refine ACalls.use (schema_IsQualified_spec F.z0z f.src hs _) ?_
 (conv => whnf); refine recA (fun h2 => ?_) (fun h2 => ?_)
 ·replace h2 : (!(qualB f.src)) = true := h2
  simp at h2
  conv => whnf
  exact pubI (by rw [filE, if_pos (.inr h2)])
 replace h2 : (!(qualB f.src)) = false := h2
 simp at h2
 (conv => whnf); refine recA (fun h3 => ?_) (fun h3 => ?_)
 ·simp [rC_length] at h3
  conv => whnf
  exact pubI (by rw [filE, if_neg (by simp [h1, h2]), if_pos (by omega)])
 simp [rC_length] at h3
 have hR : recsE f.recs = filE f := by rw [filE, if_neg (by simp [h1, h2]), if_neg (by omega)]
 conv => whnf
 refine ⟨fun m ρ H1 => ∃ k : Nat, k + m = f.recs.length ∧ recsE (f.recs.drop k) = recsE f.recs ∧ H1 = [.arr 3 [fV f]] ∧
  Sv 46 [(22, .list false 3 (rC f.recs)), (23, .int .i64 f.recs.length), (24, .int .i64 k)] ρ, f.recs.length, [], ?_, ?_⟩
 ·exact ⟨0, by omega, rfl, rfl, Sv.intro rfl ⟨rfl, intEq (by rw [rC_length]), rfl, trivial⟩⟩
 rintro m ρ H1 ⟨k, hk, hr, rfl, d, rfl⟩
 (conv => whnf); refine recA (fun hlt => ?_) (fun hlt => ?_)
 ·simp at hlt
  obtain ⟨x, hx, hd, _⟩ := get_drop hlt
  rw [hd, recsE] at hr
  (conv => whnf); refine And.intro (by omega) ?_
  (conv => whnf); refine recO (rC_at hx) ?_
  (conv => whnf); refine recA (fun h4 => ?_) (fun h4 => ?_)
  ·simp at h4
   have hx0 : recE x = 1 := by rw [recE, if_pos (by omega)]
   rw [hx0, if_pos (by decide)] at hr
   conv => whnf
   exact pubI (by rw [← hR, hr])
  simp at h4
  (conv => whnf); refine recA (fun h5 => ?_) (fun h5 => ?_)
  ·simp at h5
   have hx0 : recE x = 1 := by rw [recE, if_pos (by omega)]
   rw [hx0, if_pos (by decide)] at hr
   conv => whnf
   exact pubI (by rw [← hR, hr])
  simp at h5
  have hrow := encode_list F.z1q false x.row
  rw [encR_eq] at hrow
  by_cases hz : rowE x.row = 0
  ·rw [if_pos hz] at hrow
   have hx0 : recE x = 0 := by rw [recE, if_neg (by omega)]; exact hz
   rw [if_neg (by simp [hx0])] at hr
   (conv => whnf); refine ACalls.use (hrow _) ?_
   conv => whnf
   refine ⟨m - 1, by omega, Gp.first 1 [.arr 3 [fV f]] rfl rfl (by simp [pureO, pureEs, fV, AVal.isPure]) rfl ?_ fun ρ1 h => ⟨k + 1, by omega, hr, rfl, h⟩⟩
   exact ⟨.closed _ rfl, .closed _ rfl, pub_int (wrapI ((k : Int) + 1) (by omega) (by omega)), trivial⟩
  ·rw [if_neg hz] at hrow
   have hx0 : recE x = rowE x.row := by rw [recE, if_neg (by omega)]
   rw [if_pos (by rw [hx0]; exact hz), hx0] at hr
   (conv => whnf); refine ACalls.use (hrow _) ?_
   (conv => whnf); refine recT (by show (!(rowE x.row == 0)) = true; simp [hz]) ?_
   conv => whnf
   exact pubI (by rw [← hR, hr])
 ·simp at hlt
  conv => whnf
  rw [List.drop_eq_nil_of_le hlt, recsE] at hr
  exact pubI (by rw [← hR, hr])

set_option maxRecDepth 20000 in
theorem ref24_Validate_spec {P : Program} (F : F_z2f P) (f : Fil) (hs : f.src.size ≤ 1000000) (H : List AObj) :
  ACalls P F.id [.agg (fV f)] H (fun r H' => r = .int .i64 (filE f) ∧ H' = H) := by
 refine ACalls.pure (by simp [AVal.closed, fV, AVal.isPure]) (acalls_of_body F.has ?_)
 (conv => whnf); refine ACalls.use (ref5_IsName_spec F.z3a f.id _) ?_
 (conv => whnf); refine recA (fun h1 => ?_) (fun h1 => ?_)
 ·replace h1 : (!(nameB f.id)) = true := h1
  simp at h1
  conv => whnf
  exact pubI (by rw [filE, if_pos (.inl h1)])
 replace h1 : (!(nameB f.id)) = false := h1
 simp at h1
 (conv => whnf); refine ACalls.use (ref5_IsQualified_spec F.z3b f.src hs _) ?_
 (conv => whnf); refine recA (fun h2 => ?_) (fun h2 => ?_)
 ·replace h2 : (!(qualB f.src)) = true := h2
  simp at h2
  conv => whnf
  exact pubI (by rw [filE, if_pos (.inr h2)])
 replace h2 : (!(qualB f.src)) = false := h2
 simp at h2
 (conv => whnf); refine recA (fun h3 => ?_) (fun h3 => ?_)
 ·simp [rC_length] at h3
  conv => whnf
  exact pubI (by rw [filE, if_neg (by simp [h1, h2]), if_pos (by omega)])
 simp [rC_length] at h3
 have hR : recsE f.recs = filE f := by rw [filE, if_neg (by simp [h1, h2]), if_neg (by omega)]
 conv => whnf
 refine ⟨fun m ρ H1 => ∃ k : Nat, k + m = f.recs.length ∧ recsE (f.recs.drop k) = recsE f.recs ∧ H1 = [.arr 3 [fV f]] ∧
  Sv 56 [(1, .ptr 0 1 0 0), (3, .int .i64 k)] ρ, f.recs.length, [], ?_, ?_⟩
 ·exact ⟨0, by omega, rfl, rfl, Sv.intro rfl ⟨rfl, rfl, trivial⟩⟩
 rintro m ρ H1 ⟨k, hk, hr, rfl, d, rfl⟩
 (conv => whnf); refine recA (fun hlt => ?_) (fun hlt => ?_)
 ·simp [rC_length] at hlt
  obtain ⟨x, hx, hd, _⟩ := get_drop hlt
  rw [hd, recsE] at hr
  (conv => whnf); refine And.intro (by omega) ?_
  (conv => whnf); refine recO (rC_at hx) ?_
  (conv => whnf); refine recA (fun h4 => ?_) (fun h4 => ?_)
  ·simp at h4
   have hx0 : recE x = 1 := by rw [recE, if_pos (by omega)]
   rw [hx0, if_pos (by decide)] at hr
   conv => whnf
   exact pubI (by rw [← hR, hr])
  simp at h4
  (conv => whnf); refine And.intro (by omega) ?_
  (conv => whnf); refine recO (rC_at hx) ?_
  (conv => whnf); refine recA (fun h5 => ?_) (fun h5 => ?_)
  ·simp at h5
   have hx0 : recE x = 1 := by rw [recE, if_pos (by omega)]
   rw [hx0, if_pos (by decide)] at hr
   conv => whnf
   exact pubI (by rw [← hR, hr])
  simp at h5
  (conv => whnf); refine And.intro (by omega) ?_
  (conv => whnf); refine recO (rC_at hx) ?_
  have hrow := ref1_Encode_spec F.z22 false x.row
  rw [encR_eq] at hrow
  by_cases hz : rowE x.row = 0
  ·rw [if_pos hz] at hrow
   have hx0 : recE x = 0 := by rw [recE, if_neg (by omega)]; exact hz
   rw [if_neg (by simp [hx0])] at hr
   (conv => whnf); refine ACalls.use (hrow _) ?_
   conv => whnf
   refine ⟨m - 1, by omega, Gp.keep rfl ?_ fun ρ1 h => ⟨k + 1, by omega, hr, rfl, h⟩⟩
   exact ⟨rfl, intEq (wrapI ((k : Int) + 1) (by omega) (by omega)), trivial⟩
  ·rw [if_neg hz] at hrow
   have hx0 : recE x = rowE x.row := by rw [recE, if_neg (by omega)]
   rw [if_pos (by rw [hx0]; exact hz), hx0] at hr
   (conv => whnf); refine ACalls.use (hrow _) ?_
   (conv => whnf); refine recT (by show (!(rowE x.row == 0)) = true; simp [hz]) ?_
   conv => whnf
   exact pubI (by rw [← hR, hr])
 ·simp [rC_length] at hlt
  conv => whnf
  rw [List.drop_eq_nil_of_le hlt, recsE] at hr
  exact pubI (by rw [← hR, hr])

end Go.AW

namespace Go.AW
variable [Draws]
attribute [local irreducible] ACalls
def recB (r : Rec) : List Int := (if r.del then 1 else 0) :: (beN 4 r.seq ++ (beN 2 (encB r.row).length ++ encB r.row))

def headB (f : Fil) : List Int := [87, 72, 70, 49] ++ (u8 f.id.size :: bytesI f.id) ++ (u8 f.src.size :: bytesI f.src) ++ beN 2 f.recs.length

def bodyB (f : Fil) : List Int := headB f ++ f.recs.flatMap recB

def filB (f : Fil) : List Int := bodyB f ++ beN 4 (fnv (bodyB f))

def encFE (f : Fil) : Int := if filE f ≠ 0 then filE f else if 65536 < (filB f).length then 2 else 0

def encFR (f : Fil) : AVal := if encFE f = 0 then .tuple [.list false 1 (bC (filB f)), .int .i64 0] else .tuple [.nil, .int .i64 (encFE f)]

theorem recB_len {r : Rec} (h : recE r = 0) : (recB r).length ≤ 800 := by
 have := encB_len (recE_zero h).2.2
 simp only [recB, List.length_cons, List.length_append, beN_length]; omega

theorem recsB_len : ∀ {l : List Rec}, recsE l = 0 → (l.flatMap recB).length ≤ 800 * l.length
 | [], _ => by simp
 | r :: l, h => by
  have h1 := recB_len (recsE_zero h r (List.mem_cons_self ..))
  have h2 := recsB_len (l := l) (by rw [recsE] at h; split at h; (rename_i hx; exact absurd h hx); exact h)
  rw [List.flatMap_cons, List.length_append, List.length_cons]; omega

theorem recB_byt {r : Rec} (h : Byt (encB r.row)) : Byt (recB r) := by
 intro x hx
 rw [recB] at hx
 rcases List.mem_cons.1 hx with rfl | hx
 ·split <;> omega
 ·rcases List.mem_append.1 hx with hx | hx
  ·exact beN_byt _ _ x hx
  ·rcases List.mem_append.1 hx with hx | hx
   ·exact beN_byt _ _ x hx
   ·exact h x hx

end Go.AW

namespace Go.AW
variable [Draws]
attribute [local irreducible] ACalls
theorem filE_ok {f : Fil} (h1 : filE f = 0) : recsE f.recs = 0 ∧ f.recs.length ≤ 1024 ∧ nameB f.id = true ∧ qualB f.src = true := by
 unfold filE at h1
 split at h1
 ·cases h1
 ·rename_i hn
  split at h1
  ·cases h1
  ·refine ⟨h1, by omega, ?_, ?_⟩
   ·cases h : nameB f.id with
    | true => rfl
    | false => exact absurd (.inl h) hn
   ·cases h : qualB f.src with
    | true => rfl
    | false => exact absurd (.inr h) hn

theorem recsE_take : ∀ (l : List Rec) (k : Nat), recsE l = 0 → recsE (l.take k) = 0
 | [], k, _ => by simp [recsE]
 | r :: l, 0, _ => by simp [recsE]
 | r :: l, k + 1, h => by
  rw [recsE] at h
  split at h
  ·rename_i hx; exact absurd h hx
  ·rename_i hx
   rw [List.take_succ_cons, recsE, if_neg hx]
   exact recsE_take l k h

theorem body_len {f : Fil} (h1 : filE f = 0) (hi : f.id.size ≤ 50000) (hs : f.src.size ≤ 50000) (k : Nat) : (headB f ++ (f.recs.take k).flatMap recB).length ≤ 980000 := by
 obtain ⟨h2, h3, _⟩ := filE_ok h1
 have h4 := recsB_len (recsE_take f.recs k h2)
 have h5 : (f.recs.take k).length ≤ f.recs.length := by rw [List.length_take]; omega
 have h6 : (headB f).length ≤ 100100 := by simp [headB, bytesI_length, beN_length]; omega
 rw [List.length_append]; omega

theorem ref24_Checksum_own {P : Program} (F : F_z2a P) (l : List Int) (hl : l.length ≤ 100000000) (hb : Byt l) (H : List AObj) (id : Nat) (ho : H[id]? = some (.arr 1 (bC l))) :
  ACalls P F.id [.sl id l.length 0 l.length] H (fun r H' => r = .int .u32 (fnv l) ∧ H' = H) := by
 refine ACalls.bor rfl ((ref24_Checksum_spec F false l hl hb []).mono fun r H' h => h.1) (Lents.cons ?_ Lents.nil)
 have := Lent.sl (H := H) id l.length 0 l.length 1 (bC l) ho (by rw [bC_length]) (pureEs_bC _)
 have e : ((bC l).drop 0).take l.length = bC l := by rw [List.drop_zero, List.take_of_length_le (by rw [bC_length]; exact Nat.le_refl _)]
 rwa [e] at this

theorem bytesI_byt (s : ByteArray) : Byt (bytesI s) := fun x hx => by
 obtain ⟨b, _, rfl⟩ := List.mem_map.1 hx
 have := b.toNat_lt; omega

theorem encV_byt (v : V) : Byt (encV v) := by
 intro x hx
 unfold encV at hx
 have hu : ∀ n, 0 ≤ u8 n ∧ u8 n ≤ 255 := fun n => by rw [u8_eq]; omega
 rcases List.mem_cons.1 hx with rfl | hx
 ·exact hu _
 ·split at hx
  ·rw [List.mem_singleton] at hx; subst hx; exact hu _
  ·split at hx
   ·rw [w4_eq] at hx; exact beN_byt _ _ x hx
   ·split at hx
    ·rw [w4_eq] at hx; exact beN_byt _ _ x hx
    ·split at hx
     ·rcases List.mem_cons.1 hx with rfl | hx
      ·exact hu _
      ·exact bytesI_byt _ x hx
     ·simp at hx

theorem encB_byt (row : List V) : Byt (encB row) := fun x hx => by
 rcases List.mem_cons.1 hx with rfl | hx
 ·rw [u8_eq]; omega
 ·obtain ⟨v, _, hv⟩ := List.mem_flatMap.1 hx
  exact encV_byt v x hv

theorem bodyB_byt (f : Fil) : Byt (bodyB f) := by
 intro x hx
 have hu : ∀ n, 0 ≤ u8 n ∧ u8 n ≤ 255 := fun n => by rw [u8_eq]; omega
 rcases List.mem_append.1 hx with hx | hx
 ·rw [headB] at hx
  rcases List.mem_append.1 hx with hx | hx
  ·rcases List.mem_append.1 hx with hx | hx
   ·rcases List.mem_append.1 hx with hx | hx
    ·simp at hx; omega
    ·rcases List.mem_cons.1 hx with rfl | hx
     ·exact hu _
     ·exact bytesI_byt _ x hx
   ·rcases List.mem_cons.1 hx with rfl | hx
    ·exact hu _
    ·exact bytesI_byt _ x hx
  ·exact beN_byt _ _ x hx
 ·obtain ⟨r, _, hr⟩ := List.mem_flatMap.1 hx
  exact recB_byt (encB_byt _) x hr

set_option maxRecDepth 20000 in
theorem ref24_Encode_spec {P : Program} (F : F_z2c P) (f : Fil) (hi : f.id.size ≤ 50000) (hs : f.src.size ≤ 50000) (H : List AObj) :
  ACalls P F.id [.agg (fV f)] H (fun r H' => r = encFR f ∧ H' = H) := by
 refine ACalls.pure (by simp [AVal.closed, fV, AVal.isPure]) (acalls_of_body F.has ?_)
 (conv => whnf); refine ACalls.use (ref24_Validate_spec F.z2f f (by omega) _) ?_
 (conv => whnf); refine recA (fun h1 => ?_) (fun h1 => ?_)
 ·replace h1 : (!(filE f == 0)) = true := h1
  simp at h1
  have hE : encFE f = filE f := by rw [encFE, if_pos h1]
  conv => whnf
  rw [encFR, if_neg (by rw [hE]; exact h1), hE]
  exact pub2 (.closed _ rfl) (.closed _ rfl)
 replace h1 : (!(filE f == 0)) = false := h1
 simp at h1
 have hrec := filE_ok h1
 have hE : encFE f = if 65536 < (filB f).length then 2 else 0 := by rw [encFE, if_neg (by simp [h1])]
 have hbl := body_len h1 hi hs
 have hhead : bC (headB f) = bC [87, 72, 70, 49] ++ [[.int .u8 (u8 f.id.size)]] ++ byteCells f.id.data.toList ++ [[.int .u8 (u8 f.src.size)]] ++ byteCells f.src.data.toList ++ bC (beN 2 (rC f.recs).length) := by
  rw [byteCells_eq, byteCells_eq, rC_length]; simp [headB, bC]
 have li : (byteCells f.id.data.toList).length = f.id.size := by rw [byteCells_eq, bC_length, bytesI_length]
 have ls : (byteCells f.src.data.toList).length = f.src.size := by rw [byteCells_eq, bC_length, bytesI_length]
 (conv => whnf); refine And.intro (⟨roomB_le1 (by simp), roomB_le (by simp), rfl, rfl⟩) ?_
 try ((conv => whnf); refine recT (Nat.beq_refl _) ?_)
 (conv => whnf); refine And.intro (⟨roomB_le1 (by simp [li]; omega), roomB_le (by simp [li]; omega), rfl, rfl⟩) ?_
 try ((conv => whnf); refine recT (Nat.beq_refl _) ?_)
 (conv => whnf); refine And.intro (⟨roomB_le1 (by simp [li]; omega), roomB_le (by simp [li]; omega), rfl, rfl⟩) ?_
 repeat ((conv => whnf); refine And.intro rfl ?_)
 try ((conv => whnf); refine recT (Nat.beq_refl _) ?_)
 (conv => whnf); refine And.intro (⟨roomB_le1 (by simp [li, ls]; omega), roomB_le (by simp [li, ls]; omega), rfl, rfl⟩) ?_
 have hrl := rC_length f.recs
 (conv => whnf); refine ⟨_, ref24_number_spec F.z2g (rC f.recs).length 2 (by omega) (by omega) (by omega) _, ?_⟩
 try ((conv => whnf); refine recT (Nat.beq_refl _) ?_)
 (conv => whnf); refine And.intro (⟨roomB_le1 (by simp [li, ls, bC_length, beN_length]; omega), roomB_le (by simp [li, ls, bC_length, beN_length]; omega), rfl, rfl⟩) ?_
 repeat ((conv => whnf); refine And.intro rfl ?_)
 conv => whnf
 refine ⟨fun m ρ H1 => ∃ k : Nat, k + m = f.recs.length ∧ H1 = [.arr 3 [fV f], .arr 1 (bC (headB f ++ (f.recs.take k).flatMap recB))] ∧
  Sv 90 [(1, .ptr 0 1 0 0), (5, .sl 1 (headB f ++ (f.recs.take k).flatMap recB).length 0 (headB f ++ (f.recs.take k).flatMap recB).length), (6, .int .i64 k)] ρ, f.recs.length, [], ?_, ?_⟩
 ·refine ⟨0, by omega, ?_, Sv.intro rfl ⟨rfl, slEq ?_ ?_, rfl, trivial⟩⟩
  ·rw [List.take_zero, List.flatMap_nil, List.append_nil, hhead]; rfl
  ·rw [List.take_zero, List.flatMap_nil, List.append_nil, ← bC_length, hhead]; rfl
  ·rw [List.take_zero, List.flatMap_nil, List.append_nil, ← bC_length, hhead]; rfl
 rintro m ρ H1 ⟨k, hk, rfl, d, rfl⟩
 have hbk := hbl k
 (conv => whnf); refine recA (fun hlt => ?_) (fun hlt => ?_)
 ·simp [rC_length] at hlt
  obtain ⟨x, hx, hd, hxm⟩ := get_drop hlt
  have htk : headB f ++ (f.recs.take (k + 1)).flatMap recB = headB f ++ (f.recs.take k).flatMap recB ++ recB x := by rw [List.take_add_one, hx]; simp
  obtain ⟨s0, s1, hz⟩ := recE_zero (recsE_zero hrec.1 x hxm)
  have hrow := ref1_Encode_spec F.z22 false x.row
  rw [encR_eq, if_pos hz] at hrow
  have hel := encB_len hz
  (conv => whnf); refine And.intro (by omega) ?_
  (conv => whnf); refine recO (rC_at hx) ?_
  (conv => whnf); refine recA (fun hd' => ?_) (fun hd' => ?_)
  ·replace hd' : x.del = true := hd'
   have hB : recB x = [1] ++ (beN 4 x.seq ++ (beN 2 (encB x.row).length ++ encB x.row)) := (by rw [recB, hd']; rfl)
   have hF : bC (headB f ++ (f.recs.take (k + 1)).flatMap recB) = bC (headB f ++ (f.recs.take k).flatMap recB) ++ [[.int .u8 1]] ++ bC (beN 4 x.seq) ++ bC (beN 2 (encB x.row).length) ++ bC (encB x.row) := by
    rw [htk, hB]; simp [bC]
   have hbk2 := hbk
   rw [List.length_append] at hbk2
   (conv => whnf); refine recT (by rw [bC_length]; exact Nat.beq_refl _) ?_
   (conv => whnf); refine And.intro (⟨roomB_le1 (by simp only [List.length_append, List.length_cons, List.length_nil, List.length_replicate, bC_length, beN_length]; omega), roomB_le (by simp only [List.length_append, List.length_cons, List.length_nil, List.length_replicate, bC_length, beN_length]; omega), rfl, by rw [bC_length]⟩) ?_
   (conv => whnf); refine ACalls.use (hrow _) ?_
   (conv => whnf); refine ACalls.use (ref24_number_spec F.z2g x.seq 4 s0 (by omega) (by omega) _) ?_
   try ((conv => whnf); refine recT (Nat.beq_refl _) ?_)
   (conv => whnf); refine And.intro (⟨roomB_le1 (by simp only [List.length_append, List.length_cons, List.length_nil, List.length_replicate, bC_length, beN_length]; omega), roomB_le (by simp only [List.length_append, List.length_cons, List.length_nil, List.length_replicate, bC_length, beN_length]; omega), rfl, rfl⟩) ?_
   conv => whnf
   rw [bC_length (encB x.row)]
   (conv => whnf); refine ACalls.use (ref24_number_spec F.z2g (encB x.row).length 2 (by omega) (by omega) (by omega) _) ?_
   try ((conv => whnf); refine recT (Nat.beq_refl _) ?_)
   (conv => whnf); refine And.intro (⟨roomB_le1 (by simp only [List.length_append, List.length_cons, List.length_nil, List.length_replicate, bC_length, beN_length]; omega), roomB_le (by simp only [List.length_append, List.length_cons, List.length_nil, List.length_replicate, bC_length, beN_length]; omega), rfl, rfl⟩) ?_
   try ((conv => whnf); refine recT (Nat.beq_refl _) ?_)
   (conv => whnf); refine And.intro (⟨roomB_le1 (by simp only [List.length_append, List.length_cons, List.length_nil, List.length_replicate, bC_length, beN_length]; omega), roomB_le (by simp only [List.length_append, List.length_cons, List.length_nil, List.length_replicate, bC_length, beN_length]; omega), rfl, rfl⟩) ?_
   conv => whnf
   have hLn := ((congrArg List.length hF).symm.trans (bC_length _))
   refine ⟨m - 1, by omega, Gp.first 2 [.arr 3 [fV f], .arr 1 (bC (headB f ++ (f.recs.take (k + 1)).flatMap recB))] (by rw [hF]; rfl) rfl (by simp [pureO, pureEs_bC]; simp [pureEs, fV, AVal.isPure]) rfl ?_ fun ρ1 h => ⟨k + 1, by omega, rfl, h⟩⟩
   exact ⟨.keepP 0 1 0 0 0 rfl, pubSl (k := 1) rfl rfl hLn hLn, pub_int (wrapI ((k : Int) + 1) (by omega) (by omega)), trivial⟩
  ·replace hd' : x.del = false := hd'
   have hB : recB x = [0] ++ (beN 4 x.seq ++ (beN 2 (encB x.row).length ++ encB x.row)) := (by rw [recB, hd']; rfl)
   have hF : bC (headB f ++ (f.recs.take (k + 1)).flatMap recB) = bC (headB f ++ (f.recs.take k).flatMap recB) ++ [[.int .u8 0]] ++ bC (beN 4 x.seq) ++ bC (beN 2 (encB x.row).length) ++ bC (encB x.row) := by
    rw [htk, hB]; simp [bC]
   have hbk2 := hbk
   rw [List.length_append] at hbk2
   (conv => whnf); refine recT (by rw [bC_length]; exact Nat.beq_refl _) ?_
   (conv => whnf); refine And.intro (⟨roomB_le1 (by simp only [List.length_append, List.length_cons, List.length_nil, List.length_replicate, bC_length, beN_length]; omega), roomB_le (by simp only [List.length_append, List.length_cons, List.length_nil, List.length_replicate, bC_length, beN_length]; omega), rfl, by rw [bC_length]⟩) ?_
   (conv => whnf); refine ACalls.use (hrow _) ?_
   (conv => whnf); refine ACalls.use (ref24_number_spec F.z2g x.seq 4 s0 (by omega) (by omega) _) ?_
   try ((conv => whnf); refine recT (Nat.beq_refl _) ?_)
   (conv => whnf); refine And.intro (⟨roomB_le1 (by simp only [List.length_append, List.length_cons, List.length_nil, List.length_replicate, bC_length, beN_length]; omega), roomB_le (by simp only [List.length_append, List.length_cons, List.length_nil, List.length_replicate, bC_length, beN_length]; omega), rfl, rfl⟩) ?_
   conv => whnf
   rw [bC_length (encB x.row)]
   (conv => whnf); refine ACalls.use (ref24_number_spec F.z2g (encB x.row).length 2 (by omega) (by omega) (by omega) _) ?_
   try ((conv => whnf); refine recT (Nat.beq_refl _) ?_)
   (conv => whnf); refine And.intro (⟨roomB_le1 (by simp only [List.length_append, List.length_cons, List.length_nil, List.length_replicate, bC_length, beN_length]; omega), roomB_le (by simp only [List.length_append, List.length_cons, List.length_nil, List.length_replicate, bC_length, beN_length]; omega), rfl, rfl⟩) ?_
   try ((conv => whnf); refine recT (Nat.beq_refl _) ?_)
   (conv => whnf); refine And.intro (⟨roomB_le1 (by simp only [List.length_append, List.length_cons, List.length_nil, List.length_replicate, bC_length, beN_length]; omega), roomB_le (by simp only [List.length_append, List.length_cons, List.length_nil, List.length_replicate, bC_length, beN_length]; omega), rfl, rfl⟩) ?_
   conv => whnf
   have hLn := ((congrArg List.length hF).symm.trans (bC_length _))
   refine ⟨m - 1, by omega, Gp.first 2 [.arr 3 [fV f], .arr 1 (bC (headB f ++ (f.recs.take (k + 1)).flatMap recB))] (by rw [hF]; rfl) rfl (by simp [pureO, pureEs_bC]; simp [pureEs, fV, AVal.isPure]) rfl ?_ fun ρ1 h => ⟨k + 1, by omega, rfl, h⟩⟩
   exact ⟨.keepP 0 1 0 0 0 rfl, pubSl (k := 1) rfl rfl hLn hLn, pub_int (wrapI ((k : Int) + 1) (by omega) (by omega)), trivial⟩
 simp [rC_length] at hlt
 have hkl : f.recs.take k = f.recs := List.take_of_length_le hlt
 rw [hkl] at hbk ⊢
 rw [show headB f ++ f.recs.flatMap recB = bodyB f from rfl] at hbk ⊢
 (conv => whnf); refine ACalls.use (ref24_Checksum_own F.z2a (bodyB f) (by omega) (bodyB_byt f) _ 1 rfl) ?_
 conv => whnf
 have hwf : IntKind.i64.wrap (fnv (bodyB f)) = fnv (bodyB f) := wrapI _ (by have := fnv_bound (bodyB f); omega) (by have := fnv_bound (bodyB f); omega)
 rw [hwf]
 have hfil : bC (filB f) = bC (bodyB f) ++ bC (beN 4 (fnv (bodyB f))) := by rw [filB, bC_append]
 (conv => whnf); refine ACalls.use (ref24_number_spec F.z2g (fnv (bodyB f)) 4 (fnv_bound _).1 (by have := fnv_bound (bodyB f); omega) (by omega) _) ?_
 (conv => whnf); refine recT (by rw [bC_length]; exact Nat.beq_refl _) ?_
 (conv => whnf); refine And.intro (⟨roomB_le1 (by simp [bC_length, beN_length]; omega), roomB_le (by simp [bC_length, beN_length]; omega), rfl, by rw [bC_length]⟩) ?_
 try ((conv => whnf); refine recT (Nat.beq_refl _) ?_)
 (conv => whnf); refine recA (fun h2 => ?_) (fun h2 => ?_)
 ·have h2 : decide ((((bC (bodyB f) ++ bC (beN 4 (fnv (bodyB f)))).length : Nat) : Int) > 65536) = true := h2
  rw [← hfil, bC_length] at h2
  simp at h2
  have hE2 : encFE f = 2 := by rw [hE, if_pos (by omega)]
  conv => whnf
  rw [encFR, if_neg (by rw [hE2]; decide), hE2]
  exact pub2 (.closed _ rfl) (.closed _ rfl)
 ·have h2 : decide ((((bC (bodyB f) ++ bC (beN 4 (fnv (bodyB f)))).length : Nat) : Int) > 65536) = false := h2
  rw [← hfil, bC_length] at h2
  simp at h2
  have hE2 : encFE f = 0 := by rw [hE, if_neg (by omega)]
  conv => whnf
  rw [encFR, if_pos hE2, hfil]
  exact pub2 (pubF (id := 1) rfl rfl rfl (by rw [← hfil]; exact pureEs_bC _)) (.closed _ rfl)

end Go.AW

namespace Go.AW
variable [Draws]
section
variable {P : Program} {C C' : Nat → Nat} {τ τ' : Nat → Option Loc} {H H' : List AObj} {w w' : World}
theorem ACalls.gp {f : FuncId} {args : List AVal} {Q0 Q : AVal → List AObj → Prop} (h : ACalls P f args H Q0)
  (hq : ∀ r H', Q0 r H' → Gp (H.map AObj.olen) [r] H' (fun ρ1 H1 => ∃ r', ρ1 = [r'] ∧ Q r' H1)) : ACalls P f args H Q := by
 intro C τ w vs hw hl hr
 have hc := h C τ w vs hw hl hr
 have fin : ∀ (e : Ending) (w' : World), (∃ v r C' τ' H', e = .returned v ∧ Q0 r H' ∧ Rel C' w' τ' H' r v ∧ St w (PrCall τ H w) C' τ' H' w' ∧ Step C τ H w C' τ' H' w') →
   ∃ v r C' τ' H', e = .returned v ∧ Q r H' ∧ Rel C' w' τ' H' r v ∧ St w (PrCall τ H w) C' τ' H' w' ∧ Step C τ H w C' τ' H' w' := by
  rintro e w' ⟨v, r, C1, τ1, H1, he, hq0, hrel, hst, hstep⟩
  let E : Env := ⟨w, PrCall τ H w, C, τ, H, fun b hb hn => Classical.byContradiction fun ho => hn ⟨hb, ho⟩⟩
  have hsa : SA E C1 τ1 [r] H1 { tmps := #[v], defers := [] } w' := by
   refine ⟨hst, hstep, fun t => ?_, rfl, rfl⟩
   cases t with
   | zero => exact hrel
   | succ t => exact .undef _
  obtain ⟨ρ2, H2, C2, τ2, ⟨r', rfl, hQ⟩, hs2⟩ := hsa.regroup (hq r H1 hq0)
  exact ⟨v, r', C2, τ2, H2, he, hQ, hs2.tmps 0, hs2.st, hs2.step⟩
 unfold CallsX at hc ⊢
 split at hc
 ·exact Calls.mono hc fun e w' hh => fin e w' hh
 ·exact fin _ _ hc
 ·exact hc

def AObj.clean : AObj → Bool
 | .arr _ es => pureEs es
 | .iter _ _ => true
 | .map kvs => kvs.all fun kv => kv.2.isPure

theorem pureKvs_get {kvs : List (AVal × AVal)} (h : (kvs.all fun kv => kv.2.isPure) = true) {i : Nat} {kv : AVal × AVal} (hi : kvs[i]? = some kv) : kv.2.isPure = true :=
 List.all_eq_true.1 h kv (List.mem_of_getElem? hi)

inductive Ren (σ : Nat → Nat) : AVal → AVal → Prop where
 | closed (v : AVal) (h : v.closed = true) : Ren σ v v
 | sl (id ep off len : Nat) : Ren σ (.sl id ep off len) (.sl (σ id) ep off len)
 | ptr (id ep idx fld : Nat) : Ren σ (.ptr id ep idx fld) (.ptr (σ id) ep idx fld)
 | agg (vs rs : List AVal) (hl : vs.length = rs.length) (h : ∀ (i : Nat) (v r : AVal), vs[i]? = some v → rs[i]? = some r → Ren σ v r) : Ren σ (.agg vs) (.agg rs)
 | tuple (vs rs : List AVal) (hl : vs.length = rs.length) (h : ∀ (i : Nat) (v r : AVal), vs[i]? = some v → rs[i]? = some r → Ren σ v r) : Ren σ (.tuple vs) (.tuple rs)

inductive RenO (σ : Nat → Nat) : AObj → AObj → Prop where
 | same (o : AObj) (h : o.clean = true) : RenO σ o o
 | arr (esz : Nat) (es es1 : List (List AVal)) (hl : es1.length = es.length) (hl2 : ∀ (i : Nat) (e e1 : List AVal), es[i]? = some e → es1[i]? = some e1 → e1.length = e.length)
   (h : ∀ (i j : Nat) (e e1 : List AVal) (d d1 : AVal), es[i]? = some e → es1[i]? = some e1 → e[j]? = some d → e1[j]? = some d1 → Ren σ d d1 ∧ d1.isCell = true) :
   RenO σ (.arr esz es) (.arr esz es1)

theorem RenO.after {σ : Nat → Nat} {o o0 o1 : AObj} {t t' : Option Loc} (h : RenO σ o0 o1) (ha : o.after o0 t t') : o.after o1 t t' := by
 cases h with
 | same => exact ha
 | arr esz es es1 hl _ _ =>
  cases o with
  | iter _ _ => exact ha
  | map _ => exact ha
  | arr z es0 => exact ⟨ha.1, by rw [hl]; exact ha.2.1, by rw [hl]; exact ha.2.2⟩

theorem RenO.ok {σ : Nat → Nat} {o0 o1 : AObj} (h : RenO σ o0 o1) (ho : o0.ok) : o1.ok := by
 cases h with
 | same => exact ho
 | arr esz es es1 hl hl2 hp =>
  intro e1 he1
  obtain ⟨n, hn⟩ := List.getElem?_of_mem he1
  have hnl := (List.getElem?_eq_some_iff.1 hn).1
  have he : es[n]? = some es[n] := List.getElem?_eq_getElem (by omega)
  obtain ⟨g1, g2⟩ := ho _ (List.mem_of_getElem? he)
  refine ⟨(hl2 n _ _ he hn).trans g1, fun d1 hd1 => ?_⟩
  obtain ⟨j, hj⟩ := List.getElem?_of_mem hd1
  have hjl := (List.getElem?_eq_some_iff.1 hj).1
  have := hl2 n _ _ he hn
  exact (hp n j _ _ _ d1 he hn (List.getElem?_eq_getElem (by omega)) hj).2

def frN (id n : Nat) (k : Nat) : Nat := match k with
 | 0 => id
 | k + 1 => n + k

theorem ACalls.frame1 {f : FuncId} {args0 args : List AVal} {Q0 Q : AVal → List AObj → Prop} {id : Nat} {o : AObj} (ho : H[id]? = some o)
  (hp : o.clean = true)
  (hal : args0.length = args.length) (ha : ∀ (i : Nat) (a b : AVal), args0[i]? = some a → args[i]? = some b → (a = b ∧ a.closed = true) ∨ (∃ ep idx fld, a = .ptr 0 ep idx fld ∧ b = .ptr id ep idx fld) ∨ ∃ ep off len, a = .sl 0 ep off len ∧ b = .sl id ep off len)
  (h : ACalls P f args0 [o] Q0)
  (hq : ∀ r H1, Q0 r H1 → ∃ r' o1 o1' G G', H1 = o1 :: G ∧ Ren (frN id H.length) r r' ∧ RenO (frN id H.length) o1 o1' ∧ G.length = G'.length ∧
   (∀ (k : Nat) (x y : AObj), G[k]? = some x → G'[k]? = some y → RenO (frN id H.length) x y) ∧ Q r' (H.set id o1' ++ G')) : ACalls P f args H Q := by
 intro C τ w vs hw hl hr
 have hid := (List.getElem?_eq_some_iff.1 ho).1
 let τ0 : Nat → Option Loc := fun k => if k = 0 then τ id else none
 have one : ∀ {k : Nat} {x : AObj}, [o][k]? = some x → k = 0 ∧ x = o := fun {k x} h => by
  cases k with
  | zero => simp at h; exact ⟨rfl, h.symm⟩
  | succ k => simp at h
 have hw0 : WF C τ0 [o] w := by
  refine ⟨fun k x h => ?_, fun k x h ht => ?_, fun k x l h ht => ?_, fun k l hk ht => ?_, fun i j li lj hi hj _ _ _ => ?_, hw.lt⟩
  ·obtain ⟨rfl, rfl⟩ := one h; exact hw.ok id _ ho
  ·obtain ⟨rfl, rfl⟩ := one h; exact hw.virt id _ ho ht
  ·obtain ⟨rfl, rfl⟩ := one h
   have hob := hw.objs id _ l ho ht
   cases x with
   | iter s p => exact hob
   | map kvs =>
    obtain ⟨es, clock, a1, a2, a3⟩ := hob
    exact ⟨es, clock, a1, a2, fun i e kv he hkv => ⟨(a3 i e kv he hkv).1, .rd ((a3 i e kv he hkv).2.pure (pureKvs_get hp hkv))⟩⟩
   | arr esz es =>
    obtain ⟨a1, cells, elem, fz, a2, a3, a4, a5⟩ := hob
    refine ⟨a1, cells, elem, fz, a2, a3, a4, fun i j e d hi hd => ?_⟩
    obtain ⟨x, hx1, hx2⟩ := a5 i j e d hi hd
    exact ⟨x, hx1, .rd (hx2.pure (pureEs_get hp hi hd))⟩
  ·have hk0 : k = 0 := by simp at hk; omega
   subst hk0; exact hw.comm id l hid ht
  ·simp at hi hj; omega
 have hr0 : ∀ (i : Nat) (a : AVal) (v : Value), args0[i]? = some a → vs[i]? = some v → Rel C w τ0 [o] a v := fun i a v h1 h2 => by
  have hi := (List.getElem?_eq_some_iff.1 h1).1
  have hb : args[i]? = some args[i] := List.getElem?_eq_getElem (by omega)
  have hrel := hr i _ v hb h2
  rcases ha i a _ h1 hb with ⟨e, hc⟩ | ⟨ep, idx, fld, rfl, e⟩ | ⟨ep, off, len, rfl, e⟩
  ·rw [← e] at hrel
   exact hrel.closed hc (fun _ => Nat.le_refl _) (fun _ _ _ => rfl)
  ·rw [e] at hrel
   cases hrel with
   | rd h => cases h
   | ptr _ _ _ _ a esz es ho2 hep h3 =>
    rw [ho] at ho2; cases ho2
    exact .ptr 0 ep idx fld a esz es rfl hep h3
  ·rw [e] at hrel
   cases hrel with
   | rd h => cases h
   | sl _ _ _ _ a cap esz es ho2 hep h3 =>
    rw [ho] at ho2; cases ho2
    exact .sl 0 ep off len a cap esz es rfl hep h3
 have hc := h C τ0 w vs hw0 (by omega) hr0
 have fin : ∀ (e : Ending) (w' : World), (∃ v r C' τ' H', e = .returned v ∧ Q0 r H' ∧ Rel C' w' τ' H' r v ∧ St w (PrCall τ0 [o] w) C' τ' H' w' ∧ Step C τ0 [o] w C' τ' H' w') →
   ∃ v r C' τ' H', e = .returned v ∧ Q r H' ∧ Rel C' w' τ' H' r v ∧ St w (PrCall τ H w) C' τ' H' w' ∧ Step C τ H w C' τ' H' w' := by
  rintro e w' ⟨v, r, C1, τ1, H1, he, hq0, hrel, hst, hstep⟩
  obtain ⟨r', o1, o1', G, G', rfl, hrr, hro, hgl, hG, hQ⟩ := hq r H1 hq0
  
  have hoth : ∀ j l, j < H.length → j ≠ id → τ j = some l → PrCall τ0 [o] w l.b := fun j l hj hne ht =>
   ⟨hw.locLt hj ht, by
    rintro ⟨k, l', hk, ht', hb⟩
    have hk0 : k = 0 := by simp at hk; omega
    subst hk0
    exact hne (hw.inj j id l l' hj hid ht ht' hb.symm)⟩
  have hheap : ∀ j l, j < H.length → j ≠ id → τ j = some l → w'.heap[l.b]? = w.heap[l.b]? := fun j l hj hne ht => hst.fr.prot _ (hoth j l hj hne ht)
  let τ2 : Nat → Option Loc := fun i => if i = id then τ1 0 else if i < H.length then τ i else τ1 (i - H.length + 1)
  have t0 : τ2 id = τ1 0 := by simp only [τ2, if_true]
  have tO : ∀ j, j < H.length → j ≠ id → τ2 j = τ j := fun j hj hne => by simp only [τ2, if_neg hne, if_pos hj]
  have tN : ∀ k, τ2 (H.length + k) = τ1 (k + 1) := fun k => by
   simp only [τ2, if_neg (by omega : ¬ H.length + k = id), if_neg (by omega : ¬ H.length + k < H.length), Nat.add_sub_cancel_left]
  have tF : ∀ k, τ2 (frN id H.length k) = τ1 k := fun k => by
   cases k with
   | zero => exact t0
   | succ k => exact tN k
  have gid : (H.set id o1' ++ G')[id]? = some o1' := by rw [List.getElem?_append_left (by rw [List.length_set]; exact hid), List.getElem?_set_self hid]
  have gO : ∀ j, j < H.length → j ≠ id → (H.set id o1' ++ G')[j]? = H[j]? := fun j hj hne => by
   rw [List.getElem?_append_left (by rw [List.length_set]; exact hj), List.getElem?_set_ne (Ne.symm hne)]
  have gN : ∀ k, (H.set id o1' ++ G')[H.length + k]? = G'[k]? := fun k => by
   rw [List.getElem?_append_right (by rw [List.length_set]; omega), List.length_set, Nat.add_sub_cancel_left]
  
  have gF : ∀ k x, (o1 :: G)[k]? = some x → ∃ y, (H.set id o1' ++ G')[frN id H.length k]? = some y ∧ RenO (frN id H.length) x y := fun k x hx => by
   cases k with
   | zero => simp at hx; subst hx; exact ⟨o1', gid, hro⟩
   | succ k =>
    have hk : k < G.length := (List.getElem?_eq_some_iff.1 (by simpa using hx : G[k]? = some x)).1
    have hy : G'[k]? = some G'[k] := List.getElem?_eq_getElem (by omega)
    exact ⟨G'[k], (gN k).trans hy, hG k x _ (by simpa using hx) hy⟩
  have split : ∀ i, i < (H.set id o1' ++ G').length → (i < H.length ∧ i ≠ id) ∨ ∃ k, i = frN id H.length k ∧ k < (o1 :: G).length := fun i hi => by
   rw [List.length_append, List.length_set] at hi
   by_cases h1 : i = id
   ·exact .inr ⟨0, h1, by simp⟩
   ·by_cases h2 : i < H.length
    ·exact .inl ⟨h2, h1⟩
    ·exact .inr ⟨i - H.length + 1, by simp only [frN]; omega, by simp; omega⟩
  have frInj : ∀ k k', frN id H.length k = frN id H.length k' → k = k' := fun k k' h => by
   cases k <;> cases k' <;> simp only [frN] at h <;> omega
  have step : Step C τ H w C1 τ2 (H.set id o1' ++ G') w' := by
   refine ⟨hstep.le, hstep.cell, fun j x hx => ?_, hstep.grow, hstep.old⟩
   have hj := (List.getElem?_eq_some_iff.1 hx).1
   by_cases e1 : j = id
   ·subst e1
    rw [ho] at hx; cases hx
    obtain ⟨o', h1, h2⟩ := hstep.obj 0 o rfl
    simp at h1; subst h1
    refine ⟨o1', gid, ?_⟩
    rw [t0]
    have : τ0 0 = τ j := by simp only [τ0, if_true]
    rw [this] at h2
    exact hro.after h2
   ·exact ⟨x, by rw [gO j hj e1]; exact hx, by rw [tO j hj e1]; exact x.after_refl _⟩
  have ren : ∀ {a b : AVal}, Ren (frN id H.length) a b → ∀ {u : Value}, Rel C1 w' τ1 (o1 :: G) a u → Rel C1 w' τ2 (H.set id o1' ++ G') b u := by
   intro a b hab
   induction hab with
   | closed v h => intro u hu; exact hu.closed h (fun _ => Nat.le_refl _) (fun _ _ _ => rfl)
   | sl k ep off len =>
    intro u hu
    cases hu with
    | rd h => cases h
    | sl _ _ _ _ a cap esz es ho2 hep h3 =>
     obtain ⟨y, hy, hry⟩ := gF k _ ho2
     cases hry with
     | same _ _ => exact .sl _ ep off len a cap esz es hy hep fun e => by rw [tF]; exact h3 e
     | arr _ _ es1 hl1 _ _ => exact .sl _ ep off len a cap esz es1 hy (by omega) fun e => by rw [tF, hl1]; exact h3 (by omega)
   | ptr k ep idx fld =>
    intro u hu
    cases hu with
    | rd h => cases h
    | ptr _ _ _ _ a esz es ho2 hep h3 =>
     obtain ⟨y, hy, hry⟩ := gF k _ ho2
     cases hry with
     | same _ _ => exact .ptr _ ep idx fld a esz es hy hep fun e => by rw [tF]; exact h3 e
     | arr _ _ es1 hl1 _ _ => exact .ptr _ ep idx fld a esz es1 hy (by omega) fun e => by rw [tF]; exact h3 (by omega)
   | agg vs rs hl h ih =>
    intro u hu
    obtain ⟨us, rfl, hl2, hr2⟩ := hu.agg_inv
    refine .agg _ _ (by omega) fun i c v hc hv => ?_
    have hi := (List.getElem?_eq_some_iff.1 hc).1
    have hvi : vs[i]? = some vs[i] := List.getElem?_eq_getElem (by omega)
    exact ih i _ c hvi hc (hr2 i _ v hvi hv)
   | tuple vs rs hl h ih =>
    intro u hu
    obtain ⟨us, rfl, hl2, hr2⟩ := hu.tuple_inv
    refine .tuple _ _ (by omega) fun i c v hc hv => ?_
    have hi := (List.getElem?_eq_some_iff.1 hc).1
    have hvi : vs[i]? = some vs[i] := List.getElem?_eq_getElem (by omega)
    exact ih i _ c hvi hc (hr2 i _ v hvi hv)
  have hgetF : ∀ k, k < (o1 :: G).length → ∃ x, (o1 :: G)[k]? = some x := fun k hk => ⟨_, List.getElem?_eq_getElem hk⟩
  refine ⟨v, r', C1, τ2, H.set id o1' ++ G', he, hQ, ren hrr hrel, ⟨⟨fun i x hx => ?_, fun i x hx ht => ?_, fun i x l hx ht => ?_, fun i l hi ht => ?_, fun i j li lj hi hj hti htj hb => ?_, hst.wf.lt⟩,
   ⟨hst.fr.os, hst.fr.tape, hst.fr.output, hst.fr.size, fun b hb => hst.fr.prot b ⟨hb.1, ?_⟩, hst.fr.drawn⟩, ?_, fun b hb => hb.1⟩, step⟩
  ·rcases split i (List.getElem?_eq_some_iff.1 hx).1 with ⟨h1, h2⟩ | ⟨k, rfl, hk⟩
   ·rw [gO i h1 h2] at hx; exact hw.ok i x hx
   ·obtain ⟨z, hz⟩ := hgetF k hk
    obtain ⟨y, hy, hry⟩ := gF k z hz
    rw [hx] at hy; cases hy
    exact hry.ok (hst.wf.ok k z hz)
  ·rcases split i (List.getElem?_eq_some_iff.1 hx).1 with ⟨h1, h2⟩ | ⟨k, rfl, hk⟩
   ·rw [gO i h1 h2] at hx; rw [tO i h1 h2] at ht; exact hw.virt i x hx ht
   ·obtain ⟨z, hz⟩ := hgetF k hk
    obtain ⟨y, hy, hry⟩ := gF k z hz
    rw [hx] at hy; cases hy
    rw [tF] at ht
    obtain ⟨esz, rfl⟩ := hst.wf.virt k z hz ht
    cases hry with
    | same _ _ => exact ⟨esz, rfl⟩
    | arr _ _ es1 hl1 _ _ =>
     have : es1 = [] := List.length_eq_zero_iff.1 hl1
     subst this; exact ⟨esz, rfl⟩
  ·rcases split i (List.getElem?_eq_some_iff.1 hx).1 with ⟨h1, h2⟩ | ⟨k, rfl, hk⟩
   ·rw [gO i h1 h2] at hx; rw [tO i h1 h2] at ht
    exact (hw.objs i x l hx ht).mono step (hheap i l h1 h2 ht)
   ·obtain ⟨z, hz⟩ := hgetF k hk
    obtain ⟨y, hy, hry⟩ := gF k z hz
    rw [hx] at hy; cases hy
    rw [tF] at ht
    have hob := hst.wf.objs k z l hz ht
    cases hry with
    | same _ hpz =>
     cases x with
     | iter s p => exact hob
     | map kvs =>
      obtain ⟨es, clock, a1, a2, a3⟩ := hob
      exact ⟨es, clock, a1, a2, fun i e kv he hkv => ⟨(a3 i e kv he hkv).1, .rd ((a3 i e kv he hkv).2.pure (pureKvs_get hpz hkv))⟩⟩
     | arr esz es =>
      obtain ⟨a1, cells, elem, fz, a2, a3, a4, a5⟩ := hob
      refine ⟨a1, cells, elem, fz, a2, a3, a4, fun i j e d hi hd => ?_⟩
      obtain ⟨x, hx1, hx2⟩ := a5 i j e d hi hd
      exact ⟨x, hx1, .rd (hx2.pure (pureEs_get hpz hi hd))⟩
    | arr esz es es1 hl1 hl2 hp2 =>
     obtain ⟨a1, cells, elem, fz, a2, a3, a4, a5⟩ := hob
     refine ⟨by omega, cells, elem, fz, a2, a3, a4, fun i j e1 d1 hi hd => ?_⟩
     have hil := (List.getElem?_eq_some_iff.1 hi).1
     have hjl := (List.getElem?_eq_some_iff.1 hd).1
     have he : es[i]? = some es[i] := List.getElem?_eq_getElem (by omega)
     have hl3 := hl2 i _ _ he hi
     have hd0 : es[i][j]? = some es[i][j] := List.getElem?_eq_getElem (by omega)
     obtain ⟨x, hx1, hx2⟩ := a5 i j _ _ he hd0
     exact ⟨x, hx1, ren (hp2 i j _ _ _ d1 he hi hd0 hd).1 hx2⟩
  ·rcases split i hi with ⟨h1, h2⟩ | ⟨k, rfl, hk⟩
   ·rw [tO i h1 h2] at ht
    rw [hstep.old _ (hw.locLt h1 ht)]; exact hw.comm i l h1 ht
   ·rw [tF] at ht; exact hst.wf.comm k l hk ht
  ·rcases split i hi with ⟨h1, h2⟩ | ⟨k, rfl, hk⟩ <;> rcases split j hj with ⟨h3, h4⟩ | ⟨k', rfl, hk'⟩
   ·rw [tO i h1 h2] at hti; rw [tO j h3 h4] at htj; exact hw.inj i j li lj h1 h3 hti htj hb
   ·rw [tO i h1 h2] at hti; rw [tF] at htj
    exact absurd (hb ▸ hoth i li h1 h2 hti) (hst.own _ ⟨k', lj, hk', htj, rfl⟩)
   ·rw [tF] at hti; rw [tO j h3 h4] at htj
    exact absurd (hb ▸ hoth j lj h3 h4 htj) (hst.own _ ⟨k, li, hk, hti, rfl⟩)
   ·rw [tF] at hti htj
    rw [hst.wf.inj k k' li lj hk hk' hti htj hb]
  ·rintro ⟨k, l, hk, ht, hb2⟩
   have hk0 : k = 0 := by simp at hk; omega
   subst hk0
   exact hb.2 ⟨id, l, hid, ht, hb2⟩
  ·rintro b ⟨i, l, hi, ht, rfl⟩ hp2
   rcases split i hi with ⟨h1, h2⟩ | ⟨k, rfl, hk⟩
   ·rw [tO i h1 h2] at ht; exact hp2.2 ⟨i, l, h1, ht, rfl⟩
   ·rw [tF] at ht
    refine hst.own _ ⟨k, l, hk, ht, rfl⟩ ⟨hp2.1, ?_⟩
    rintro ⟨k2, l2, hk2, ht2, hb2⟩
    have hk0 : k2 = 0 := by simp at hk2; omega
    subst hk0
    exact hp2.2 ⟨id, l2, hid, ht2, hb2⟩
 unfold CallsX at hc ⊢
 split at hc
 ·exact Calls.mono hc fun e w' hh => fin e w' hh
 ·exact fin _ _ hc
 ·exact hc

def FrArgs (id : Nat) : List AVal → List AVal → Prop
 | [], [] => True
 | a :: asv, b :: bs => ((a = b ∧ a.closed = true) ∨ (∃ ep idx fld, a = .ptr 0 ep idx fld ∧ b = .ptr id ep idx fld) ∨ ∃ ep off len, a = .sl 0 ep off len ∧ b = .sl id ep off len) ∧ FrArgs id asv bs
 | _, _ => False

theorem FrArgs.get {id : Nat} : ∀ {asv bs : List AVal}, FrArgs id asv bs → asv.length = bs.length ∧ ∀ (i : Nat) (a b : AVal), asv[i]? = some a → bs[i]? = some b → (a = b ∧ a.closed = true) ∨ (∃ ep idx fld, a = .ptr 0 ep idx fld ∧ b = .ptr id ep idx fld) ∨ ∃ ep off len, a = .sl 0 ep off len ∧ b = .sl id ep off len
 | [], [], _ => ⟨rfl, fun i a b h => by simp at h⟩
 | a :: asv, b :: bs, h => by
  obtain ⟨h1, h2⟩ := FrArgs.get h.2
  refine ⟨by simp [h1], fun i x y hx hy => ?_⟩
  cases i with
  | zero => simp at hx hy; subst hx hy; exact h.1
  | succ i => exact h2 i x y (by simpa using hx) (by simpa using hy)
 | [], _ :: _, h => h.elim
 | _ :: _, [], h => h.elim

theorem FrArgs.cl {id : Nat} {a : AVal} {asv bs : List AVal} (h : a.closed = true) (hs : FrArgs id asv bs) : FrArgs id (a :: asv) (a :: bs) := ⟨.inl ⟨rfl, h⟩, hs⟩

theorem FrArgs.pt {id : Nat} {ep idx fld : Nat} {asv bs : List AVal} (hs : FrArgs id asv bs) : FrArgs id (.ptr 0 ep idx fld :: asv) (.ptr id ep idx fld :: bs) := ⟨.inr (.inl ⟨_, _, _, rfl, rfl⟩), hs⟩

theorem ACalls.fr {f : FuncId} {args0 args : List AVal} {id : Nat} {o o1 : AObj} {R : AVal} (h : ACalls P f args0 [o] (fun r H' => r = R ∧ H' = [o1])) (ho : H[id]? = some o)
  (hp : o.clean = true) (hp1 : o1.clean = true) (ha : FrArgs id args0 args) (hR : Ren (frN id H.length) R R) : ACalls P f args H (fun r H' => r = R ∧ H' = H.set id o1) := by
 obtain ⟨hl, ha⟩ := ha.get
 refine ACalls.frame1 ho hp hl ha h ?_
 rintro r H1 ⟨rfl, rfl⟩
 exact ⟨_, o1, o1, [], [], rfl, hR, .same _ hp1, rfl, fun k x y h => by simp at h, rfl, by simp⟩

theorem ACalls.frG {f : FuncId} {args0 args : List AVal} {id : Nat} {o o1 : AObj} {R R' : AVal} {G : List AObj} (h : ACalls P f args0 [o] (fun r H' => r = R ∧ H' = o1 :: G)) (ho : H[id]? = some o)
  (hp : o.clean = true) (hp1 : o1.clean = true) (hG : ∀ x ∈ G, x.clean = true) (ha : FrArgs id args0 args) (hR : Ren (frN id H.length) R R') : ACalls P f args H (fun r H' => r = R' ∧ H' = H.set id o1 ++ G) := by
 obtain ⟨hl, ha⟩ := ha.get
 refine ACalls.frame1 ho hp hl ha h ?_
 rintro r H1 ⟨rfl, rfl⟩
 exact ⟨_, o1, o1, G, G, rfl, hR, .same _ hp1, rfl, fun k x y h1 h2 => by rw [h1] at h2; cases h2; exact .same _ (hG x (List.mem_of_getElem? h1)), rfl, rfl⟩

end
theorem Gp.keepL {n0 : List Nat} {n : Nat} {live : List (Nat × AVal)} {ρ : List AVal} {H H1 : List AObj} {I : List AVal → List AObj → Prop} (ids : List Nat) (hnd : ids.Nodup) (hb : keepB n0 ids H) (ho : gpO H ids ids H1) (hl : ρ.length = n) (h : SvPub H ids ρ live)
  (hI : ∀ ρ1, Sv n live ρ1 → I ρ1 H1) : Gp n0 ρ H I :=
 .inr ⟨ids, mkSl n n live fun _ => .undef, H1, hnd, hb, ho, mkSl_pub n n live ρ ρ (Nat.le_refl _) (fun k => by rw [Nat.sub_self, Nat.zero_add]) hl h, hI _ ⟨_, rfl⟩⟩

theorem keepB_one {a : Nat} {ids : List Nat} {H : List AObj} {o : AObj} (h1 : ids[0]? = some 0) (h2 : H[0]? = some o) (h3 : o.olen = a) : keepB [a] ids H := fun k n hk => by
 cases k with
 | zero => simp at hk; subst hk; exact ⟨h1, o, h2, h3⟩
 | succ k => simp at hk

theorem Gp.res {n0 : List Nat} {r r' : AVal} {H H1 : List AObj} {I : List AVal → List AObj → Prop} (ids : List Nat) (hnd : ids.Nodup) (hb : keepB n0 ids H) (ho : gpO H ids ids H1) (hp : Pub H 0 ids r r') (hI : I [r'] H1) : Gp n0 [r] H I :=
 .inr ⟨ids, [r'], H1, hnd, hb, ho, ⟨hp, trivial⟩, hI⟩

end Go.AW

namespace Go.AW
variable [Draws]
attribute [local irreducible] ACalls
structure RdS where
 rest : List Int
 bad : Bool

def tkB (n : Int) (s : RdS) : Bool := !s.bad && decide (n ≤ s.rest.length)

def tkL (n : Int) (s : RdS) : List Int := if tkB n s then s.rest.take n.toNat else []

def tkS (n : Int) (s : RdS) : RdS := if tkB n s then ⟨s.rest.drop n.toNat, false⟩ else ⟨s.rest, true⟩

def nbV (n : Int) (s : RdS) : Int := num (tkL n s)

def txS (s : RdS) : RdS := tkS (nbV 1 s) (tkS 1 s)

end Go.AW

namespace Go.AW
variable [Draws]
attribute [local irreducible] ACalls
def f0 : Fil := ⟨bs [], bs [], []⟩

def dS (l : List Int) : RdS := ⟨l.take (l.length - 4), false⟩

end Go.AW

namespace Go.AW
variable [Draws]
attribute [local irreducible] ACalls
theorem keepB_hd {a : Nat} {o : AObj} {G : List AObj} (h3 : o.olen = a) : keepB [a] [0] (o :: G) := keepB_one rfl rfl h3

end Go.AW

namespace Go.AW
variable [Draws]
attribute [local irreducible] ACalls
def z1 (l : List Int) : RdS := tkS 4 (dS l)

def z2 (l : List Int) : RdS := txS (z1 l)

def z3 (l : List Int) : RdS := txS (z2 l)

def z4 (l : List Int) : RdS := tkS 2 (z3 l)

theorem ob3 {H : List AObj} {ids : List Nat} {a b : ByteArray} {c c1 : AVal} (h : Pub H 0 ids c c1) (hc : c1.isCell = true) : ObP H ids (.arr 3 [[.str a, .str b, c]]) (.arr 3 [[.str a, .str b, c1]]) := by
 refine .map 3 _ _ rfl (fun i e e1 h1 h2 => ?_) (fun i j e e1 d d1 h1 h2 h3 h4 => ?_)
 ·rcases i with _ | i
  ·cases h1; cases h2; rfl
  ·simp at h1
 ·rcases i with _ | i
  ·cases h1; cases h2
   rcases j with _ | _ | _ | j
   ·cases h3; cases h4; exact ⟨.closed _ rfl, rfl⟩
   ·cases h3; cases h4; exact ⟨.closed _ rfl, rfl⟩
   ·cases h3; cases h4; exact ⟨h, hc⟩
   ·simp at h3
  ·simp at h1

end Go.AW

namespace Go.AW
variable [Draws]
attribute [local irreducible] ACalls
theorem pubFI {H1 : List AObj} {n : Nat} {ids : List Nat} {id ep len sz : Nat} {es : List (List AVal)} (hid : id ∉ ids) (ho : H1[id]? = some (.arr sz es)) (he : ep = es.length) (hl : len = es.length) (hp : pureEs es = true) : Pub H1 n ids (.sl id ep 0 len) (.list false sz es) := by
 subst hl he
 have := Pub.frz (n := n) (ids := ids) id es.length 0 es.length sz es ho rfl hp hid
 rwa [List.drop_zero, List.take_length] at this

end Go.AW

namespace Go.AW
variable [Draws]
attribute [local irreducible] ACalls
theorem place_eq (x k : Int) (hk : 1 ≤ k) (hk2 : k ≤ 1000000) : (IntKind.i64.wrap (x.tmod k + k)).tmod k = x % k := by
 have h1 := Int.tmod_lt_of_pos x (show 0 < k by omega)
 have h2 := Int.lt_tmod_of_pos x (show 0 < k by omega)
 rw [wrapI _ (by omega) (by omega), Int.tmod_eq_emod_of_nonneg (by omega), Int.add_emod_right, Int.tmod_def, Int.sub_mul_emod_self_left]

theorem Place_spec {P : Program} (F : F_z3r P) (x k : Int) (hk : 1 ≤ k) (hk2 : k ≤ 1000000) (H : List AObj) :
  ACalls P F.id [.int .i64 x, .int .i64 k] H (fun r H' => r = .int .i64 (x % k) ∧ H' = H) := by
 refine ACalls.pure rfl (acalls_of_body F.has ?_)
 (conv => whnf); refine recF (by simp; omega) ?_
 (conv => whnf); refine And.intro (by omega) ?_
 (conv => whnf); refine And.intro (by omega) ?_
 conv => whnf
 exact pub_int (place_eq x k hk hk2)

end Go.AW

namespace Go.AW
def c_z0u : AFunc := ⟨25,[.tmp 2],(.seq (.region [ iD 2 (.move (.c (.int .i64 0)))]) (.seq (.seq (.region [ iD 3 (.move (.t 0)),iD 4 (.bin .geq (.t 3) (.c (.int .u64 4294967296)))]) (.cond (.t 4) (.seq (.region [ iD 5 (.move (.t 0)),iD 6 (.bin .shr (.t 5) (.c (.int .u64 32))),iD 0 (.move (.t 6))]) (.region [ iD 2 (.move (.c (.int .i64 32)))])) .skip)) (.seq (.seq (.region [ iD 7 (.move (.t 0)),iD 8 (.bin .geq (.t 7) (.c (.int .u64 65536)))]) (.cond (.t 8) (.seq (.region [ iD 9 (.move (.t 0)),iD 10 (.bin .shr (.t 9) (.c (.int .u64 16))),iD 0 (.move (.t 10))]) (.region [ iD 11 (.move (.t 2)),iD 12 (.bin .add (.t 11) (.c (.int .i64 16))),iD 2 (.move (.t 12))])) .skip)) (.seq (.seq (.region [ iD 13 (.move (.t 0)),iD 14 (.bin .geq (.t 13) (.c (.int .u64 256)))]) (.cond (.t 14) (.seq (.region [ iD 15 (.move (.t 0)),iD 16 (.bin .shr (.t 15) (.c (.int .u64 8))),iD 0 (.move (.t 16))]) (.region [ iD 17 (.move (.t 2)),iD 18 (.bin .add (.t 17) (.c (.int .i64 8))),iD 2 (.move (.t 18))])) .skip)) (.seq (.region [ iD 19 (.move (.t 2)),iD 20 (.move (.t 0)),iD 21 (.conv .u8 (.t 20)),iD 22 (.indexStr (.c (.str (bs [0,1,2,2,3,3,3,3,4,4,4,4,4,4,4,4,5,5,5,5,5,5,5,5,5,5,5,5,5,5,5,5,6,6,6,6,6,6,6,6,6,6,6,6,6,6,6,6,6,6,6,6,6,6,6,6,6,6,6,6,6,6,6,6,7,7,7,7,7,7,7,7,7,7,7,7,7,7,7,7,7,7,7,7,7,7,7,7,7,7,7,7,7,7,7,7,7,7,7,7,7,7,7,7,7,7,7,7,7,7,7,7,7,7,7,7,7,7,7,7,7,7,7,7,7,7,7,7,8,8,8,8,8,8,8,8,8,8,8,8,8,8,8,8,8,8,8,8,8,8,8,8,8,8,8,8,8,8,8,8,8,8,8,8,8,8,8,8,8,8,8,8,8,8,8,8,8,8,8,8,8,8,8,8,8,8,8,8,8,8,8,8,8,8,8,8,8,8,8,8,8,8,8,8,8,8,8,8,8,8,8,8,8,8,8,8,8,8,8,8,8,8,8,8,8,8,8,8,8,8,8,8,8,8,8,8,8,8,8,8,8,8,8,8,8,8,8,8,8,8,8,8,8,8,8,8]))) (.t 21)),iD 23 (.conv .i64 (.t 22)),iD 24 (.bin .add (.t 19) (.t 23)),iD 2 (.move (.t 24))]) .ret)))))⟩

structure F_z0u (P : Program) where
 id : FuncId
 has : Has P id [] c_z0u

def c_z0t (f_math_bits_Len32 : FuncId) (f_z0u : FuncId) : AFunc := ⟨8,[.tmp 2],(.seq (.region [ iD 2 (.move (.c (.int .i64 0)))]) (.seq (.cond (.c (.bool false)) (.seq (.region [ iD 3 (.move (.t 0)),iD 4 (.conv .u32 (.t 3)),iD 5 (.call f_math_bits_Len32 [(.t 4)]),iD 2 (.move (.t 5))]) .ret) .skip) (.seq (.region [ iD 6 (.move (.t 0)),iD 7 (.call f_z0u [(.t 6)]),iD 2 (.move (.t 7))]) .ret)))⟩

structure F_z0t (P : Program) where
 id : FuncId
 math_bits_Len32 : RawF
 z0u : F_z0u P
 has : Has P id [] (c_z0t math_bits_Len32.id z0u.id)

def c_z1d : AFunc := ⟨53,[],(.seq (.region [ iD 10 (.move (.t 1)),iD 11 (.bin .add (.t 10) (.c (.int .i64 1))),iD 8 (.move (.t 11))]) (.block 0 (.loop (.seq (.seq (.region [ iD 12 (.move (.t 8)),iD 13 (.move (.t 2)),iD 14 (.bin .lss (.t 12) (.t 13))]) (.cond (.t 14) .skip (.exit 0))) (.seq (.block 1 (.seq (.region [ iD 17 (.move (.t 8)),iD 9 (.move (.t 17))]) (.block 2 (.loop (.seq (.seq (.draw [ jD 18 (.move (.t 9)),jD 19 (.move (.t 1)),jD 20 (.bin .gtr (.t 18) (.t 19)),jD 21 (.move (.t 20)),(⟨(some 22),.move (.t 3),some (some 21,true)⟩,[]),(⟨(some 23),.move (.t 0),some (some 21,true)⟩,[]),(⟨(some 24),.move (.t 9),some (some 21,true)⟩,[]),(⟨(some 25),.indexAddr 2 (.t 23) (.t 24),some (some 21,true)⟩,[]),(⟨(some 26),.load true 2 (.t 25),some (some 21,true)⟩,[]),(⟨(some 27),.move (.t 0),some (some 21,true)⟩,[]),(⟨(some 28),.move (.t 9),some (some 21,true)⟩,[]),(⟨(some 29),.bin .sub (.t 28) (.c (.int .i64 1)),some (some 21,true)⟩,[]),(⟨(some 30),.indexAddr 2 (.t 27) (.t 29),some (some 21,true)⟩,[]),(⟨(some 31),.load true 2 (.t 30),some (some 21,true)⟩,[]),(⟨(some 32),.callv (.t 22) [(.t 26),(.t 31)],some (some 21,true)⟩,[]),(⟨(some 33),.bin .lss (.t 32) (.c (.int .i64 0)),some (some 21,true)⟩,[]),jD 34 (.pick (.t 21) (.t 33) (.c (.bool false)))]) (.cond (.t 34) .skip (.exit 2))) (.seq (.block 3 (.draw [ jD 37 (.move (.t 0)),jD 38 (.move (.t 9)),jD 39 (.move (.t 0)),jD 40 (.move (.t 9)),jD 41 (.bin .sub (.t 40) (.c (.int .i64 1))),jD 42 (.move (.t 0)),jD 43 (.move (.t 9)),jD 44 (.bin .sub (.t 43) (.c (.int .i64 1))),jD 45 (.indexAddr 2 (.t 42) (.t 44)),jD 46 (.load true 2 (.t 45)),jD 47 (.move (.t 0)),jD 48 (.move (.t 9)),jD 49 (.indexAddr 2 (.t 47) (.t 48)),jD 50 (.load true 2 (.t 49)),jD 51 (.indexAddr 2 (.t 37) (.t 38)),(iN (.store 2 (.t 51) (.t 46)),[]),jD 52 (.indexAddr 2 (.t 39) (.t 41)),(iN (.store 2 (.t 52) (.t 50)),[])])) (.region [ iD 35 (.move (.t 9)),iD 36 (.bin .sub (.t 35) (.c (.int .i64 1))),iD 9 (.move (.t 36))]))))))) (.region [ iD 15 (.move (.t 8)),iD 16 (.bin .add (.t 15) (.c (.int .i64 1))),iD 8 (.move (.t 16))]))))))⟩

structure F_z1d (P : Program) where
 id : FuncId
 has : Has P id [] c_z1d

def c_z1f (f_z1d : FuncId) (f_slices_heapSortCmpFunc_Entry : FuncId) (f_slices_breakPatternsCmpFunc_Entry : FuncId) (f_slices_choosePivotCmpFunc_Entry : FuncId) (f_slices_reverseRangeCmpFunc_Entry : FuncId) (f_slices_partialInsertionSortCmpFunc_Entry : FuncId) (f_slices_partitionEqualCmpFunc_Entry : FuncId) (f_slices_partitionCmpFunc_Entry : FuncId) (f_z1f : FuncId) : AFunc := ⟨148,[],(.seq (.region [ iD 10 (.move (.c (.bool true)))]) (.seq (.region [ iD 11 (.move (.c (.bool true)))]) (.block 0 (.loop (.block 1 (.seq (.region [ iD 21 (.move (.t 2)),iD 22 (.move (.t 1)),iD 23 (.bin .sub (.t 21) (.t 22)),iD 12 (.move (.t 23))]) (.seq (.seq (.region [ iD 24 (.move (.t 12)),iD 25 (.bin .leq (.t 24) (.c (.int .i64 12)))]) (.cond (.t 25) (.seq (.region [ iD 26 (.move (.t 0)),iD 27 (.move (.t 1)),iD 28 (.move (.t 2)),iD 29 (.move (.t 4)),iD 30 (.call f_z1d [(.t 26),(.t 27),(.t 28),(.t 29)])]) .ret) .skip)) (.seq (.seq (.region [ iD 31 (.move (.t 3)),iD 32 (.bin .eql (.t 31) (.c (.int .i64 0)))]) (.cond (.t 32) (.seq (.region [ iD 33 (.move (.t 0)),iD 34 (.move (.t 1)),iD 35 (.move (.t 2)),iD 36 (.move (.t 4)),iD 37 (.call f_slices_heapSortCmpFunc_Entry [(.t 33),(.t 34),(.t 35),(.t 36)])]) .ret) .skip)) (.seq (.seq (.region [ iD 38 (.move (.t 10)),iD 39 (.un .not (.t 38))]) (.cond (.t 39) (.seq (.region [ iD 40 (.move (.t 0)),iD 41 (.move (.t 1)),iD 42 (.move (.t 2)),iD 43 (.move (.t 4)),iD 44 (.call f_slices_breakPatternsCmpFunc_Entry [(.t 40),(.t 41),(.t 42),(.t 43)])]) (.region [ iD 45 (.move (.t 3)),iD 46 (.bin .sub (.t 45) (.c (.int .i64 1))),iD 3 (.move (.t 46))])) .skip)) (.seq (.region [ iD 48 (.move (.t 0)),iD 49 (.move (.t 1)),iD 50 (.move (.t 2)),iD 51 (.move (.t 4)),iD 52 (.call f_slices_choosePivotCmpFunc_Entry [(.t 48),(.t 49),(.t 50),(.t 51)]),iD 47 (.move (.t 52)),iD 53 (.extract (.t 47) 0),iD 54 (.extract (.t 47) 1),iD 13 (.move (.t 53)),iD 14 (.move (.t 54))]) (.seq (.seq (.region [ iD 55 (.move (.t 14)),iD 56 (.bin .eql (.t 55) (.c (.int .i64 2)))]) (.cond (.t 56) (.seq (.region [ iD 57 (.move (.t 0)),iD 58 (.move (.t 1)),iD 59 (.move (.t 2)),iD 60 (.move (.t 4)),iD 61 (.call f_slices_reverseRangeCmpFunc_Entry [(.t 57),(.t 58),(.t 59),(.t 60)])]) (.seq (.region [ iD 62 (.move (.t 2)),iD 63 (.bin .sub (.t 62) (.c (.int .i64 1))),iD 64 (.move (.t 13)),iD 65 (.move (.t 1)),iD 66 (.bin .sub (.t 64) (.t 65)),iD 67 (.bin .sub (.t 63) (.t 66)),iD 13 (.move (.t 67))]) (.region [ iD 14 (.move (.c (.int .i64 1)))]))) .skip)) (.seq (.seq (.region [ iD 68 (.move (.t 10)),iD 69 (.move (.t 68)),⟨(some 70),.move (.t 11),some (some 69,true)⟩,iD 71 (.pick (.t 69) (.t 70) (.c (.bool false))),iD 72 (.move (.t 71)),⟨(some 73),.move (.t 14),some (some 72,true)⟩,⟨(some 74),.bin .eql (.t 73) (.c (.int .i64 1)),some (some 72,true)⟩,iD 75 (.pick (.t 72) (.t 74) (.c (.bool false)))]) (.cond (.t 75) (.seq (.region [ iD 76 (.move (.t 0)),iD 77 (.move (.t 1)),iD 78 (.move (.t 2)),iD 79 (.move (.t 4)),iD 80 (.call f_slices_partialInsertionSortCmpFunc_Entry [(.t 76),(.t 77),(.t 78),(.t 79)])]) (.cond (.t 80) .ret .skip)) .skip)) (.seq (.seq (.draw [ jD 81 (.move (.t 1)),jD 82 (.bin .gtr (.t 81) (.c (.int .i64 0))),jD 83 (.move (.t 82)),(⟨(some 84),.move (.t 4),some (some 83,true)⟩,[]),(⟨(some 85),.move (.t 0),some (some 83,true)⟩,[]),(⟨(some 86),.move (.t 1),some (some 83,true)⟩,[]),(⟨(some 87),.bin .sub (.t 86) (.c (.int .i64 1)),some (some 83,true)⟩,[]),(⟨(some 88),.indexAddr 2 (.t 85) (.t 87),some (some 83,true)⟩,[]),(⟨(some 89),.load true 2 (.t 88),some (some 83,true)⟩,[]),(⟨(some 90),.move (.t 0),some (some 83,true)⟩,[]),(⟨(some 91),.move (.t 13),some (some 83,true)⟩,[]),(⟨(some 92),.indexAddr 2 (.t 90) (.t 91),some (some 83,true)⟩,[]),(⟨(some 93),.load true 2 (.t 92),some (some 83,true)⟩,[]),(⟨(some 94),.callv (.t 84) [(.t 89),(.t 93)],some (some 83,true)⟩,[]),(⟨(some 95),.bin .lss (.t 94) (.c (.int .i64 0)),some (some 83,true)⟩,[]),(⟨(some 96),.un .not (.t 95),some (some 83,true)⟩,[]),jD 97 (.pick (.t 83) (.t 96) (.c (.bool false)))]) (.cond (.t 97) (.seq (.region [ iD 98 (.move (.t 0)),iD 99 (.move (.t 1)),iD 100 (.move (.t 2)),iD 101 (.move (.t 13)),iD 102 (.move (.t 4)),iD 103 (.call f_slices_partitionEqualCmpFunc_Entry [(.t 98),(.t 99),(.t 100),(.t 101),(.t 102)]),iD 15 (.move (.t 103))]) (.seq (.region [ iD 104 (.move (.t 15)),iD 1 (.move (.t 104))]) (.exit 1))) .skip)) (.seq (.region [ iD 106 (.move (.t 0)),iD 107 (.move (.t 1)),iD 108 (.move (.t 2)),iD 109 (.move (.t 13)),iD 110 (.move (.t 4)),iD 111 (.call f_slices_partitionCmpFunc_Entry [(.t 106),(.t 107),(.t 108),(.t 109),(.t 110)]),iD 105 (.move (.t 111)),iD 112 (.extract (.t 105) 0),iD 113 (.extract (.t 105) 1),iD 16 (.move (.t 112)),iD 17 (.move (.t 113))]) (.seq (.region [ iD 114 (.move (.t 17)),iD 11 (.move (.t 114))]) (.seq (.region [ iD 115 (.move (.t 16)),iD 116 (.move (.t 1)),iD 117 (.bin .sub (.t 115) (.t 116)),iD 118 (.move (.t 2)),iD 119 (.move (.t 16)),iD 120 (.bin .sub (.t 118) (.t 119)),iD 18 (.move (.t 117)),iD 19 (.move (.t 120))]) (.seq (.region [ iD 121 (.move (.t 12)),iD 122 (.bin .quo (.t 121) (.c (.int .i64 8))),iD 20 (.move (.t 122))]) (.seq (.region [ iD 123 (.move (.t 18)),iD 124 (.move (.t 19)),iD 125 (.bin .lss (.t 123) (.t 124))]) (.cond (.t 125) (.seq (.region [ iD 126 (.move (.t 18)),iD 127 (.move (.t 20)),iD 128 (.bin .geq (.t 126) (.t 127)),iD 10 (.move (.t 128))]) (.seq (.region [ iD 129 (.move (.t 0)),iD 130 (.move (.t 1)),iD 131 (.move (.t 16)),iD 132 (.move (.t 3)),iD 133 (.move (.t 4)),iD 134 (.call f_z1f [(.t 129),(.t 130),(.t 131),(.t 132),(.t 133)])]) (.region [ iD 135 (.move (.t 16)),iD 136 (.bin .add (.t 135) (.c (.int .i64 1))),iD 1 (.move (.t 136))]))) (.seq (.region [ iD 137 (.move (.t 19)),iD 138 (.move (.t 20)),iD 139 (.bin .geq (.t 137) (.t 138)),iD 10 (.move (.t 139))]) (.seq (.region [ iD 140 (.move (.t 0)),iD 141 (.move (.t 16)),iD 142 (.bin .add (.t 141) (.c (.int .i64 1))),iD 143 (.move (.t 2)),iD 144 (.move (.t 3)),iD 145 (.move (.t 4)),iD 146 (.call f_z1f [(.t 140),(.t 142),(.t 143),(.t 144),(.t 145)])]) (.region [ iD 147 (.move (.t 16)),iD 2 (.move (.t 147))]))))))))))))))))))))))⟩

structure F_z1f (P : Program) where
 id : FuncId
 z1d : F_z1d P
 slices_heapSortCmpFunc_Entry : RawF
 slices_breakPatternsCmpFunc_Entry : RawF
 slices_choosePivotCmpFunc_Entry : RawF
 slices_reverseRangeCmpFunc_Entry : RawF
 slices_partialInsertionSortCmpFunc_Entry : RawF
 slices_partitionEqualCmpFunc_Entry : RawF
 slices_partitionCmpFunc_Entry : RawF
 has : Has P id [] (c_z1f z1d.id slices_heapSortCmpFunc_Entry.id slices_breakPatternsCmpFunc_Entry.id slices_choosePivotCmpFunc_Entry.id slices_reverseRangeCmpFunc_Entry.id slices_partialInsertionSortCmpFunc_Entry.id slices_partitionEqualCmpFunc_Entry.id slices_partitionCmpFunc_Entry.id id)

def c_z1b (f_z0t : FuncId) (f_z1f : FuncId) : AFunc := ⟨14,[],(.seq (.region [ iD 5 (.move (.t 0)),iD 6 (.len (.t 5)),iD 4 (.move (.t 6))]) (.region [ iD 7 (.move (.t 0)),iD 8 (.move (.t 4)),iD 9 (.move (.t 4)),iD 10 (.conv .u64 (.t 9)),iD 11 (.call f_z0t [(.t 10)]),iD 12 (.move (.t 1)),iD 13 (.call f_z1f [(.t 7),(.c (.int .i64 0)),(.t 8),(.t 11),(.t 12)])]))⟩

structure F_z1b (P : Program) where
 id : FuncId
 z0t : F_z0t P
 z1f : F_z1f P
 has : Has P id [] (c_z1b z0t.id z1f.id)

def c_z06 (f_z1p : FuncId) : AFunc := ⟨10,[.tmp 4],(.seq (.region [ iD 2 (.box (.t 0)),iD 3 (.box (.t 1)),iD 4 (.move (.c (.int .i64 0)))]) (.seq (.region [ iD 5 (.fieldAddr 0 (.t 2)),iD 6 (.load false 1 (.t 5)),iD 7 (.fieldAddr 0 (.t 3)),iD 8 (.load false 1 (.t 7)),iD 9 (.call f_z1p [(.t 6),(.t 8)]),iD 4 (.move (.t 9))]) .ret))⟩

structure F_z06 (P : Program) where
 id : FuncId
 z1p : F_z1p P
 has : Has P id [] (c_z06 z1p.id)

def c_z05 (f_z12 : FuncId) (f_z1b : FuncId) (f_z06 : FuncId) (f_z1p : FuncId) (f_z04 : FuncId) (f_z02 : FuncId) : AFunc := ⟨66,[.tmp 2,.tmp 3],(.seq (.region [ iD 2 (.move (.c .nil)),iD 3 (.move (.c (.int .i64 0)))]) (.seq (.region [ iD 9 (.move (.t 0)),iD 10 (.call f_z12 [(.t 9)]),iD 0 (.move (.t 10))]) (.seq (.region [ iD 11 (.move (.t 0)),iD 12 (.call f_z1b [(.t 11),(.c (.fn f_z06 []))])]) (.seq (.region [ iD 4 (.move (.c .nil))]) (.seq (.region [ iD 5 (.move (.c (.bool true)))]) (.seq (.seq (.region [ iD 6 (.move (.c (.int .i64 0)))]) (.block 0 (.loop (.seq (.seq (.region [ iD 13 (.move (.t 6)),iD 14 (.move (.t 0)),iD 15 (.len (.t 14)),iD 16 (.bin .lss (.t 13) (.t 15)),iD 17 (.move (.t 16)),⟨(some 18),.move (.t 5),some (some 17,true)⟩,iD 19 (.pick (.t 17) (.t 18) (.c (.bool false)))]) (.cond (.t 19) .skip (.exit 0))) (.block 1 (.seq (.region [ iD 20 (.move (.t 6)),iD 7 (.move (.c (.int .i64 0))),iD 8 (.move (.t 20))]) (.seq (.block 2 (.loop (.seq (.seq (.draw [ jD 21 (.move (.t 8)),jD 22 (.move (.t 0)),jD 23 (.len (.t 22)),jD 24 (.bin .lss (.t 21) (.t 23)),jD 25 (.move (.t 24)),(⟨(some 26),.move (.t 0),some (some 25,true)⟩,[]),(⟨(some 27),.move (.t 6),some (some 25,true)⟩,[]),(⟨(some 28),.indexAddr 2 (.t 26) (.t 27),some (some 25,true)⟩,[]),(⟨(some 29),.fieldAddr 0 (.t 28),some (some 25,true)⟩,[]),(⟨(some 30),.load false 1 (.t 29),some (some 25,true)⟩,[]),(⟨(some 31),.move (.t 0),some (some 25,true)⟩,[]),(⟨(some 32),.move (.t 8),some (some 25,true)⟩,[]),(⟨(some 33),.indexAddr 2 (.t 31) (.t 32),some (some 25,true)⟩,[]),(⟨(some 34),.fieldAddr 0 (.t 33),some (some 25,true)⟩,[]),(⟨(some 35),.load false 1 (.t 34),some (some 25,true)⟩,[]),(⟨(some 36),.call f_z1p [(.t 30),(.t 35)],some (some 25,true)⟩,[]),(⟨(some 37),.bin .eql (.t 36) (.c (.int .i64 0)),some (some 25,true)⟩,[]),jD 38 (.pick (.t 25) (.t 37) (.c (.bool false)))]) (.cond (.t 38) .skip (.exit 2))) (.seq (.block 3 (.region [ iD 41 (.move (.t 7)),iD 42 (.move (.t 0)),iD 43 (.move (.t 8)),iD 44 (.indexAddr 2 (.t 42) (.t 43)),iD 45 (.fieldAddr 1 (.t 44)),iD 46 (.load false 1 (.t 45)),iD 47 (.bin .add (.t 41) (.t 46)),iD 7 (.move (.t 47))])) (.region [ iD 39 (.move (.t 8)),iD 40 (.bin .add (.t 39) (.c (.int .i64 1))),iD 8 (.move (.t 40))]))))) (.seq (.region [ iD 49 (.move (.t 4)),iD 50 (.move (.t 0)),iD 51 (.move (.t 6)),iD 52 (.indexAddr 2 (.t 50) (.t 51)),iD 53 (.fieldAddr 0 (.t 52)),iD 54 (.load false 1 (.t 53)),iD 55 (.move (.t 7)),iD 56 (.call f_z04 [(.t 49),(.t 54),(.t 55)]),iD 48 (.move (.t 56)),iD 57 (.extract (.t 48) 0),iD 58 (.extract (.t 48) 1),iD 4 (.move (.t 57)),iD 5 (.move (.t 58))]) (.region [ iD 59 (.move (.t 8)),iD 6 (.move (.t 59))]))))))))) (.seq (.seq (.region [ iD 60 (.move (.t 5)),iD 61 (.un .not (.t 60))]) (.cond (.t 61) (.seq (.region [ iD 2 (.move (.c .nil)),iD 3 (.move (.c (.int .i64 2)))]) .ret) .skip)) (.seq (.region [ iD 62 (.move (.t 4)),iD 63 (.call f_z02 [(.t 62)]),iD 64 (.extract (.t 63) 0),iD 65 (.extract (.t 63) 1),iD 2 (.move (.t 64)),iD 3 (.move (.t 65))]) .ret))))))))⟩

structure F_z05 (P : Program) where
 id : FuncId
 z12 : F_z12 P
 z1b : F_z1b P
 z06 : RawF
 z1p : F_z1p P
 z04 : F_z04 P
 z02 : F_z02 P
 has : Has P id [] (c_z05 z12.id z1b.id z06.id z1p.id z04.id z02.id)

def c_z00 (f_z03 : FuncId) (f_z05 : FuncId) : AFunc := ⟨23,[.tmp 2,.tmp 3],(.seq (.region [ iD 2 (.move (.c .nil)),iD 3 (.move (.c (.int .i64 0)))]) (.seq (.seq (.region [ iD 7 (.move (.t 0)),iD 8 (.len (.t 7)),iD 9 (.move (.c (.int .i64 0)))]) (.block 0 (.loop (.seq (.region [ iD 10 (.bin .lss (.t 9) (.t 8))]) (.seq (.cond (.t 10) .skip (.exit 0)) (.seq (.block 1 (.seq (.region [ iD 11 (.indexAddr 2 (.t 7) (.t 9)),iD 12 (.load true 2 (.t 11)),iD 5 (.alloc [.nil,(.int .i64 0)]),iN (.store 2 (.t 5) (.t 12))]) (.seq (.region [ iD 13 (.load true 2 (.t 5)),iD 14 (.call f_z03 [(.t 13)]),iD 6 (.move (.t 14))]) (.seq (.region [ iD 15 (.move (.t 6)),iD 16 (.bin .neq (.t 15) (.c (.int .i64 0)))]) (.cond (.t 16) (.seq (.region [ iD 17 (.move (.t 6)),iD 2 (.move (.c .nil)),iD 3 (.move (.t 17))]) .ret) .skip))))) (.region [ iD 18 (.bin .add (.t 9) (.c (.int .i64 1))),iD 9 (.move (.t 18))]))))))) (.seq (.region [ iD 19 (.move (.t 0)),iD 20 (.call f_z05 [(.t 19)]),iD 21 (.extract (.t 20) 0),iD 22 (.extract (.t 20) 1),iD 2 (.move (.t 21)),iD 3 (.move (.t 22))]) .ret)))⟩

structure F_z00 (P : Program) where
 id : FuncId
 z03 : F_z03 P
 z05 : F_z05 P
 has : Has P id [] (c_z00 z03.id z05.id)

def c_z3i (f_z3i : FuncId) (f_z3f : FuncId) : AFunc := ⟨21,[.tmp 2],(.seq (.region [ iD 2 (.move (.c .nil))]) (.seq (.seq (.region [ iD 3 (.move (.t 0)),iD 4 (.len (.t 3)),iD 5 (.bin .lss (.t 4) (.c (.int .i64 2)))]) (.cond (.t 5) (.seq (.region [ iD 6 (.move (.t 0)),iD 7 (.append 2 32 [.nil,(.int .i64 0)] (.c .nil) (.t 6)),iD 2 (.move (.t 7))]) .ret) .skip)) (.seq (.draw [ jD 8 (.move (.t 0)),jD 9 (.move (.t 0)),jD 10 (.len (.t 9)),jD 11 (.bin .quo (.t 10) (.c (.int .i64 2))),jD 12 (.slice 2 (.t 8) none (some (.t 11))),jD 13 (.call f_z3i [(.t 12)]),jD 14 (.move (.t 0)),jD 15 (.move (.t 0)),jD 16 (.len (.t 15)),jD 17 (.bin .quo (.t 16) (.c (.int .i64 2))),jD 18 (.slice 2 (.t 14) (some (.t 17)) none),jD 19 (.call f_z3i [(.t 18)]),jD 20 (.call f_z3f [(.t 13),(.t 19)]),jD 2 (.move (.t 20))]) .ret)))⟩

structure F_z3i (P : Program) where
 id : FuncId
 z3f : F_z3f P
 has : Has P id [] (c_z3i id z3f.id)

def c_z3d (f_z3i : FuncId) (f_z3g : FuncId) : AFunc := ⟨9,[.tmp 2,.tmp 3],(.seq (.region [ iD 2 (.move (.c .nil)),iD 3 (.move (.c (.int .i64 0)))]) (.seq (.region [ iD 4 (.move (.t 0)),iD 5 (.call f_z3i [(.t 4)]),iD 6 (.call f_z3g [(.t 5)]),iD 7 (.extract (.t 6) 0),iD 8 (.extract (.t 6) 1),iD 2 (.move (.t 7)),iD 3 (.move (.t 8))]) .ret))⟩

structure F_z3d (P : Program) where
 id : FuncId
 z3i : F_z3i P
 z3g : F_z3g P
 has : Has P id [] (c_z3d z3i.id z3g.id)

def c_z3c (f_z3e : FuncId) (f_z3d : FuncId) : AFunc := ⟨24,[.tmp 2,.tmp 3],(.seq (.region [ iD 2 (.move (.c .nil)),iD 3 (.move (.c (.int .i64 0)))]) (.seq (.seq (.region [ iD 4 (.move (.c (.int .i64 0)))]) (.block 0 (.loop (.seq (.seq (.region [ iD 6 (.move (.t 4)),iD 7 (.move (.t 0)),iD 8 (.len (.t 7)),iD 9 (.bin .lss (.t 6) (.t 8))]) (.cond (.t 9) .skip (.exit 0))) (.seq (.block 1 (.seq (.region [ iD 12 (.move (.t 0)),iD 13 (.move (.t 4)),iD 14 (.indexAddr 2 (.t 12) (.t 13)),iD 15 (.load true 2 (.t 14)),iD 16 (.call f_z3e [(.t 15)]),iD 5 (.move (.t 16))]) (.seq (.region [ iD 17 (.move (.t 5)),iD 18 (.bin .neq (.t 17) (.c (.int .i64 0)))]) (.cond (.t 18) (.seq (.region [ iD 19 (.move (.t 5)),iD 2 (.move (.c .nil)),iD 3 (.move (.t 19))]) .ret) .skip)))) (.region [ iD 10 (.move (.t 4)),iD 11 (.bin .add (.t 10) (.c (.int .i64 1))),iD 4 (.move (.t 11))])))))) (.seq (.region [ iD 20 (.move (.t 0)),iD 21 (.call f_z3d [(.t 20)]),iD 22 (.extract (.t 21) 0),iD 23 (.extract (.t 21) 1),iD 2 (.move (.t 22)),iD 3 (.move (.t 23))]) .ret)))⟩

structure F_z3c (P : Program) where
 id : FuncId
 z3e : F_z3e P
 z3d : F_z3d P
 has : Has P id [] (c_z3c z3e.id z3d.id)

end Go.AW

