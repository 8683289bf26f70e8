/-
  An abstract machine over the model, the code of functions on it, and their contracts: what the claim needs.
  No condition: definitions, plain laws, contracts over any program that has this code.
-/
import Derived.Test.YtdffiibjghcobaaGreatZ3
set_option linter.all false
namespace Go.AW
variable [Draws]
attribute [local irreducible] ACalls
def g0 : Grp := ⟨0, []⟩
def n5 : V := ⟨2, 5, bs []⟩
theorem n5_valid : validB n5 = true := by kernel_rfl
theorem mrg_one (v : V) (a b : Int) : mrg [⟨[v], a⟩] [⟨[v], b⟩] = [⟨[v], a + b⟩] := by
 have h : rowsCmp [v] [v] = 0 := (rowsCmp_zero _ _).2 rfl
 rw [mrg_cons, if_neg (by show ¬ rowsCmp [v] [v] < 0; omega), if_neg (by show ¬ 0 < rowsCmp [v] [v]; omega), mrg_nil]
theorem srt_one (e : Ent) : Srt [e] := List.pairwise_singleton ..
theorem bagB_one (v : V) (c : Int) (hv : validB v = true) (hc : c ≠ 0) (hs : smallB c = true) : bagB [⟨[v], c⟩] = 0 :=
 (bagB_iff _).2 ⟨by simp, fun e he => by
  rw [List.mem_singleton] at he; subst he
  exact ⟨(fitB_iff _).2 ⟨by simp, hs, by simp [hv]⟩, hc⟩, srt_one _⟩
theorem bagB_nil : bagB [] = 0 := rfl
theorem grpB_intro {g : Grp} (h1 : rowsB g.n = true) (h2 : bagB g.vals = 0) (h3 : g.vals.all oneB = true) : grpB g = 0 := by
 rw [grpB, if_neg (by simp [h1]), if_neg (by simp [h2]), if_pos h3]
theorem k1 : addGE g0 n5 2 = 0 ∧ addGG g0 n5 2 = ⟨2, [⟨[n5], 2⟩]⟩ := by
 have hp : preE g0 n5 2 = 0 := by rw [preE, if_neg (by simp [grpB_intro (g := g0) rfl rfl rfl]), if_neg (by simp [n5_valid]), if_neg (by decide)]
 have ho : oneG n5 2 = ⟨2, [⟨[n5], 2⟩]⟩ := by rw [oneG, if_pos ⟨by decide, by decide⟩]
 have hm : mrgE g0 ⟨2, [⟨[n5], 2⟩]⟩ = 0 := by
  rw [mrgE, if_neg (by decide), sumE, if_neg (by simp [g0, bagB_nil]), if_neg (by simp [bagB_one n5 2 n5_valid (by decide) (by decide)]), if_pos ⟨by simp [g0, mrg_nil, smallB], by simp [g0, mrg_nil, nzB]⟩]
 have e1 : addGE g0 n5 2 = 0 := by rw [addGE, if_neg (by simp [hp]), ho, hm]
 refine ⟨e1, ?_⟩
 rw [addGG, if_neg (by simp [hp]), ho, mrgG, if_pos hm]
 simp [g0, sumL, mrg_nil, nzB]
theorem k2 : addGE ⟨2, [⟨[n5], 2⟩]⟩ n5 (-1) = 0 ∧ addGG ⟨2, [⟨[n5], 2⟩]⟩ n5 (-1) = ⟨1, [⟨[n5], 1⟩]⟩ := by
 have hb := bagB_one n5 2 n5_valid (by decide) (by decide)
 have hp : preE ⟨2, [⟨[n5], 2⟩]⟩ n5 (-1) = 0 := by rw [preE, if_neg (by simp [grpB_intro (g := ⟨2, [⟨[n5], 2⟩]⟩) rfl hb rfl]), if_neg (by simp [n5_valid]), if_neg (by decide)]
 have ho : oneG n5 (-1) = ⟨-1, [⟨[n5], -1⟩]⟩ := by rw [oneG, if_pos ⟨by decide, by decide⟩]
 have hm : mrgE ⟨2, [⟨[n5], 2⟩]⟩ ⟨-1, [⟨[n5], -1⟩]⟩ = 0 := by
  rw [mrgE, if_neg (by decide), sumE, if_neg (by simp [hb]), if_neg (by simp [bagB_one n5 (-1) n5_valid (by decide) (by decide)]), if_pos ⟨by simp [mrg_one, smallB], by simp [mrg_one, nzB]⟩]
 have e1 : addGE ⟨2, [⟨[n5], 2⟩]⟩ n5 (-1) = 0 := by rw [addGE, if_neg (by simp [hp]), ho, hm]
 refine ⟨e1, ?_⟩
 rw [addGG, if_neg (by simp [hp]), ho, mrgG, if_pos hm]
 simp [sumL, mrg_one, nzB]
def gk : Grp := ⟨1, [⟨[n5], 1⟩]⟩
theorem gk_ok : grpB gk = 0 := grpB_intro rfl (bagB_one n5 1 n5_valid (by decide) (by decide)) rfl
theorem k3 : resE 3 gk = 0 ∧ resV 3 gk = n5 ∧ resE 1 gk = 0 ∧ resV 1 gk = ⟨2, 1, bs []⟩ := by
 have h3 : resE 3 gk = 0 := by rw [resE, if_neg (by decide), if_neg (by simp [gk_ok])]; rfl
 have h1 : resE 1 gk = 0 := by rw [resE, if_neg (by decide), if_neg (by simp [gk_ok])]; rfl
 refine ⟨h3, ?_, h1, ?_⟩
 ·rw [resV, if_neg (by simp [h3])]; kernel_rfl
 ·rw [resV, if_neg (by simp [h1])]; kernel_rfl
theorem k4 : resE 3 g0 = 0 ∧ resV 3 g0 = zV := by
 have h3 : resE 3 g0 = 0 := by rw [resE, if_neg (by decide), if_neg (by simp [grpB_intro (g := g0) rfl rfl rfl])]; rfl
 exact ⟨h3, by rw [resV, if_neg (by simp [h3])]; kernel_rfl⟩
def pureO : AObj → Bool
 | .arr _ es => pureEs es
 | .iter _ _ => true
 | .map kvs => kvs.all fun kv => kv.2.isPure
theorem gpO_of {H : List AObj} {ids : List Nat} : ∀ (is : List Nat) (r : List AObj), is.length = r.length → (∀ (k id : Nat) (o : AObj), is[k]? = some id → r[k]? = some o → H[id]? = some o ∧ pureO o = true) → gpO H ids is r
 | [], [], _, _ => trivial
 | [], _ :: _, h, _ => by simp at h
 | _ :: _, [], h, _ => by simp at h
 | id :: is, o :: r, hl, h => by
  obtain ⟨h1, h2⟩ := h 0 id o rfl rfl
  refine ⟨⟨o, h1, ?_⟩, gpO_of is r (by simpa using hl) fun k id o h1 h2 => h (k + 1) id o (by simpa using h1) (by simpa using h2)⟩
  cases o with
  | arr s es => exact .same s es h2
  | iter s p => exact .iter s p
  | map kvs => exact .mp kvs h2
theorem Gp.first {n : Nat} {live : List (Nat × AVal)} {ρ : List AVal} {H : List AObj} {I : List AVal → List AObj → Prop} (k : Nat) (H1 : List AObj) (hk : H.take k = H1) (hn : H1.length = k) (hp : H1.all pureO = true)
  (hl : ρ.length = n) (h : SvPub H (List.range k) ρ live) (hI : ∀ ρ1, Sv n live ρ1 → I ρ1 H1) : Gp [] ρ H I := by
 refine Gp.some (H1 := H1) (List.range k) List.nodup_range (gpO_of _ _ (by simp [hn]) fun j id o h1 h2 => ?_) hl h hI
 have hj := (List.getElem?_eq_some_iff.1 h2).1
 rw [List.getElem?_range (by omega)] at h1
 cases h1
 refine ⟨?_, List.all_eq_true.1 hp o (List.mem_of_getElem? h2)⟩
 rw [← hk, List.getElem?_take] at h2
 rwa [if_pos (by omega)] at h2
def beN : Nat → Int → List Int
 | 0, _ => []
 | k + 1, n => beN k (n / 256) ++ [n % 256]
theorem beN_length : ∀ (k : Nat) (n : Int), (beN k n).length = k
 | 0, _ => rfl
 | k + 1, n => by rw [beN, List.length_append, beN_length k]; rfl
theorem beN_byt : ∀ (k : Nat) (n : Int), Byt (beN k n)
 | 0, _ => fun x h => by simp [beN] at h
 | k + 1, n => fun x h => by
  rw [beN] at h
  rcases List.mem_append.1 h with h | h
  ·exact beN_byt k _ x h
  ·rw [List.mem_singleton] at h; subst h; omega
theorem beN_head : ∀ (k : Nat) (n : Int), beN (k + 1) n = (n / 256 ^ k) % 256 :: beN k n
 | 0, n => by simp [beN]
 | k + 1, n => by
  rw [beN, beN_head k (n / 256), beN, List.cons_append]
  congr 2
  rw [Int.ediv_ediv_of_nonneg (by omega), Int.pow_succ, Int.mul_comm]
def w2 (n : Int) : List Int := [u8 (n.fdiv (2 ^ 8)), u8 n]
theorem w2_eq (n : Int) : w2 n = beN 2 n := by
 simp only [w2, beN, u8_eq, List.nil_append, List.singleton_append]
 rw [Int.fdiv_eq_ediv_of_nonneg _ (by omega)]; rfl
theorem w4_eq (n : Int) : w4 n = beN 4 n := by
 simp only [w4, beN, u8_eq, List.nil_append, List.singleton_append, List.cons_append]
 rw [Int.fdiv_eq_ediv_of_nonneg _ (by omega), Int.fdiv_eq_ediv_of_nonneg _ (by omega), Int.fdiv_eq_ediv_of_nonneg _ (by omega)]
 congr 1
 ·omega
 congr 1
 ·omega
theorem byteCells_eq (s : ByteArray) : byteCells s.data.toList = bC (bytesI s) := by simp [byteCells, bC, bytesI]
theorem bytesI_length (s : ByteArray) : (bytesI s).length = s.size := by simp [bytesI]
def fnvS (s c : Int) : Int := IntKind.u32.wrap (IntKind.u32.wrap (BitVec.ofInt 32 s ^^^ BitVec.ofInt 32 (IntKind.u32.wrap c)).toNat * 16777619)
def fnvG (l : List Int) (s : Int) : Int := l.foldl fnvS s
def fnv (l : List Int) : Int := fnvG l 2166136261
theorem u32_wrap (n : Int) : IntKind.u32.wrap n = n % 4294967296 := by simp [IntKind.wrap, IntKind.bits, IntKind.signed]
theorem u64_wrap (n : Int) : IntKind.u64.wrap n = n % 18446744073709551616 := by simp [IntKind.wrap, IntKind.bits, IntKind.signed]
theorem fnvS_bound (s c : Int) : 0 ≤ fnvS s c ∧ fnvS s c < 4294967296 := by rw [fnvS, u32_wrap]; omega
theorem fnvG_bound : ∀ (l : List Int) (s : Int), 0 ≤ s → s < 4294967296 → 0 ≤ fnvG l s ∧ fnvG l s < 4294967296
 | [], s, h1, h2 => ⟨h1, h2⟩
 | c :: l, s, _, _ => fnvG_bound l (fnvS s c) (fnvS_bound s c).1 (fnvS_bound s c).2
theorem fnv_bound (l : List Int) : 0 ≤ fnv l ∧ fnv l < 4294967296 := fnvG_bound l _ (by decide) (by decide)
theorem bC_get {l : List Int} {k : Nat} {x : Int} (h : l[k]? = some x) : (bC l)[k]? = some [.int .u8 x] := by rw [bC, List.getElem?_map, h]; rfl
set_option maxRecDepth 20000 in
theorem Checksum_spec {P : Program} (F : F_z07 P) (ex : Bool) (l : List Int) (hl : l.length ≤ 100000000) (H : List AObj) :
  ACalls P F.id [.list ex 1 (bC l)] H (fun r H' => r = .int .u32 (fnv l) ∧ H' = H) := by
 refine ACalls.pure rfl (acalls_of_body F.has ?_)
 conv => whnf
 refine ⟨fun m ρ H1 => ∃ (k : Nat) (s : Int), k + m = l.length ∧ fnvG (l.drop k) s = fnv l ∧ H1 = [] ∧
  Sv 19 [(3, .int .u32 s), (6, .list ex 1 (bC l)), (7, .int .i64 l.length), (8, .int .i64 k)] ρ, l.length, [], ?_, ?_⟩
 ·exact ⟨0, _, by omega, rfl, rfl, Sv.intro rfl ⟨rfl, rfl, intEq (by rw [bC_length]), rfl, trivial⟩⟩
 rintro m ρ H1 ⟨k, s, hk, hr, rfl, d, rfl⟩
 (conv => whnf); refine recA (fun hlt => ?_) (fun hlt => ?_)
 ·simp at hlt
  obtain ⟨x, hx, hd, _⟩ := get_drop hlt
  rw [hd] at hr
  (conv => whnf); refine And.intro (by omega) ?_
  (conv => whnf); refine recO (bC_get hx) ?_
  conv => whnf
  refine ⟨m - 1, by omega, Gp.keep rfl ?_ fun ρ1 h => ⟨k + 1, fnvS s x, by omega, hr, rfl, h⟩⟩
  exact ⟨rfl, rfl, rfl, intEq (wrapI ((k : Int) + 1) (by omega) (by omega)), trivial⟩
 ·simp at hlt
  conv => whnf
  rw [List.drop_eq_nil_of_le hlt] at hr
  exact pubI hr
theorem xor_nat (k : Nat) (a b : Nat) (ha : a < 2 ^ k) (hb : b < 2 ^ k) : (BitVec.ofInt k (a : Int) ^^^ BitVec.ofInt k (b : Int)).toNat = a ^^^ b := by
 rw [BitVec.toNat_xor, BitVec.ofInt_natCast, BitVec.ofInt_natCast, BitVec.toNat_ofNat, BitVec.toNat_ofNat, Nat.mod_eq_of_lt ha, Nat.mod_eq_of_lt hb]
theorem fnv_ref (s c : Int) (h0 : 0 ≤ s) (h1 : s < 4294967296) (c0 : 0 ≤ c) (c1 : c ≤ 255) :
  (IntKind.u64.wrap (IntKind.u64.wrap (BitVec.ofInt 64 s ^^^ BitVec.ofInt 64 (IntKind.u64.wrap c)).toNat * 16777619)).tmod 4294967296 = fnvS s c := by
 obtain ⟨a, rfl⟩ := Int.eq_ofNat_of_zero_le h0
 obtain ⟨b, rfl⟩ := Int.eq_ofNat_of_zero_le c0
 have w1 : IntKind.u64.wrap (b : Int) = b := by rw [u64_wrap]; omega
 have w2 : IntKind.u32.wrap (b : Int) = b := by rw [u32_wrap]; omega
 have hx : a ^^^ b < 2 ^ 32 := Nat.xor_lt_two_pow (by omega) (by omega)
 rw [fnvS, w1, w2, xor_nat 64 a b (by omega) (by omega), xor_nat 32 a b (by omega) (by omega)]
 rw [u64_wrap, u64_wrap, u32_wrap, u32_wrap, Int.tmod_eq_emod_of_nonneg (by omega)]
 omega
set_option maxRecDepth 20000 in
theorem ref24_Checksum_spec {P : Program} (F : F_z2l P) (ex : Bool) (l : List Int) (hl : l.length ≤ 100000000) (hb : Byt l) (H : List AObj) :
  ACalls P F.id [.list ex 1 (bC l)] H (fun r H' => r = .int .u32 (fnv l) ∧ H' = H) := by
 refine ACalls.pure rfl (acalls_of_body F.has ?_)
 conv => whnf
 refine ⟨fun m ρ H1 => ∃ (k : Nat) (s : Int), k + m = l.length ∧ fnvG (l.drop k) s = fnv l ∧ 0 ≤ s ∧ s < 4294967296 ∧ H1 = [] ∧
  Sv 22 [(0, .list ex 1 (bC l)), (3, .int .u64 s), (4, .int .i64 k)] ρ, l.length, [], ?_, ?_⟩
 ·exact ⟨0, _, by omega, rfl, by decide, by decide, rfl, Sv.intro rfl ⟨rfl, rfl, rfl, trivial⟩⟩
 rintro m ρ H1 ⟨k, s, hk, hr, s0, s1, rfl, d, rfl⟩
 (conv => whnf); refine recA (fun hlt => ?_) (fun hlt => ?_)
 ·simp [bC_length] at hlt
  obtain ⟨x, hx, hd, hxm⟩ := get_drop hlt
  rw [hd] at hr
  have hxb := hb x hxm
  (conv => whnf); refine And.intro (by omega) ?_
  (conv => whnf); refine recO (bC_get hx) ?_
  (conv => whnf); refine And.intro (by decide) ?_
  conv => whnf
  refine ⟨m - 1, by omega, Gp.keep rfl ?_ fun ρ1 h => ⟨k + 1, fnvS s x, by omega, hr, (fnvS_bound s x).1, (fnvS_bound s x).2, rfl, h⟩⟩
  exact ⟨rfl, intEq (fnv_ref s x s0 s1 hxb.1 hxb.2), intEq (wrapI ((k : Int) + 1) (by omega) (by omega)), trivial⟩
 ·simp [bC_length] at hlt
  conv => whnf
  rw [List.drop_eq_nil_of_le hlt] at hr
  have e : IntKind.u32.wrap s = s := by rw [u32_wrap]; omega
  exact pubI (by rw [← hr]; exact e)
theorem setEs_bC (l : List Int) (k : Nat) (v : Int) : setEs (bC l) k [.int .u8 v] = bC (l.set k v) := by rw [setEs_eq]; simp [bC]
def numK (k j : Nat) (n : Int) : List Int := List.replicate (k - j) 0 ++ beN j n
theorem numK_length {k j : Nat} (n : Int) (h : j ≤ k) : (numK k j n).length = k := by rw [numK, List.length_append, List.length_replicate, beN_length]; omega
theorem numK_set {k j : Nat} (n : Int) (h : j < k) : (numK k j n).set (k - 1 - j) ((n / 256 ^ j) % 256) = numK k (j + 1) n := by
 rw [numK, numK, beN_head, show k - j = (k - (j + 1)) + 1 by omega, List.replicate_succ', List.append_assoc, List.set_append, if_neg (by simp; omega)]
 simp [show k - 1 - j - (k - (j + 1)) = 0 by omega]
theorem div_pow (n : Int) (j : Nat) : n / 256 ^ j / 256 = n / 256 ^ (j + 1) := by
 rw [Int.ediv_ediv_of_nonneg (Int.pow_nonneg (by omega)), Int.pow_succ]
set_option maxRecDepth 20000 in
theorem ref24_number_raw {P : Program} (F : F_z2r P) (n : Int) (k : Nat) (hn : 0 ≤ n) (hn2 : n ≤ 9000000000000000000) (hk : k ≤ 100) :
  ACalls P F.id [.int .i64 n, .int .i64 k] [] (fun r H' => r = .sl 0 k 0 k ∧ H' = [.arr 1 (bC (beN k n))]) := by
 refine acalls_of_body F.has ?_
 (conv => whnf); refine And.intro (⟨by omega, by omega, by show (k : Int) * ((1 : Nat) : Int) ≤ 1099511627776; omega, by show (k : Int) ≤ 1099511627776; omega⟩) ?_
 conv => whnf
 have ew : IntKind.i64.wrap ((k : Int) - 1) = (k : Int) - 1 := wrapI _ (by omega) (by omega)
 refine ⟨fun m ρ H1 => ∃ j : Nat, j + m = k ∧ H1 = [.arr 1 (bC (numK k j n))] ∧
  Sv 24 [(0, .int .i64 (n / 256 ^ j)), (5, .sl 0 k 0 k), (6, .int .i64 ((k : Int) - 1 - j))] ρ, k, [], ?_, ?_⟩
 ·refine ⟨0, by omega, ?_, Sv.intro rfl ⟨intEq (by simp), rfl, intEq (by rw [ew]; omega), trivial⟩⟩
  simp [numK, beN, bC]
 rintro m ρ H1 ⟨j, hj, rfl, d, rfl⟩
 have hlen : (bC (numK k j n)).length = k := by rw [bC_length, numK_length n (by omega)]
 have hq0 : 0 ≤ n / 256 ^ j := Int.ediv_nonneg hn (Int.pow_nonneg (by omega))
 have hq1 : n / 256 ^ j ≤ n := Int.ediv_le_self _ hn
 (conv => whnf); refine recA (fun hlt => ?_) (fun hlt => ?_)
 ·replace hlt : decide ((k : Int) - 1 - j ≥ 0) = true := hlt
  simp at hlt
  have hjn : ((k : Int) - 1 - j).toNat = k - 1 - j := by omega
  have hg : (bC (numK k j n))[0 + ((k : Int) - 1 - j).toNat]? = some [.int .u8 ((numK k j n)[k - 1 - j]'(by rw [numK_length n (by omega)]; omega))] := by
   rw [Nat.zero_add, hjn]; exact bC_get (List.getElem?_eq_getElem _)
  (conv => whnf); refine And.intro (by decide) ?_
  (conv => whnf); refine recT (by rw [hlen]; exact Nat.beq_refl _) ?_
  (conv => whnf); refine And.intro (⟨by omega, by omega⟩) ?_
  (conv => whnf); refine recT (by rw [hlen]; exact Nat.beq_refl _) ?_
  (conv => whnf); refine recO (hg) ?_
  (conv => whnf); refine And.intro (by decide) ?_
  conv => whnf
  refine ⟨m - 1, by omega, Gp.keep rfl ?_ fun ρ1 h => ⟨j + 1, by omega, ?_, h⟩⟩
  ·refine ⟨intEq ?_, rfl, intEq ?_, trivial⟩
   ·show IntKind.i64.wrap ((n / 256 ^ j).tdiv 256) = _
    rw [Int.tdiv_eq_ediv_of_nonneg hq0, div_pow, wrapI _ (by have := Int.ediv_nonneg hn (Int.pow_nonneg (n := 256) (m := j + 1) (by omega)); omega) (by have := Int.ediv_le_self (256 ^ (j + 1)) hn; omega)]
   ·show IntKind.i64.wrap ((k : Int) - 1 - j - 1) = _
    rw [wrapI _ (by omega) (by omega)]; omega
  ·have hv : IntKind.u8.wrap ((n / 256 ^ j).tmod 256) = (n / 256 ^ j) % 256 := by
    have := u8_eq ((n / 256 ^ j).tmod 256)
    rw [show u8 ((n / 256 ^ j).tmod 256) = IntKind.u8.wrap ((n / 256 ^ j).tmod 256) from rfl] at this
    rw [this, Int.tmod_eq_emod_of_nonneg hq0]; omega
   rw [← numK_set n (by omega), ← setEs_bC, ← hv, ← hjn]
   show [AObj.arr 1 (setEs (bC (numK k j n)) (0 + ((k : Int) - 1 - j).toNat) _)] = _
   rw [Nat.zero_add]
 ·replace hlt : decide ((k : Int) - 1 - j ≥ 0) = false := hlt
  simp at hlt
  have : j = k := by omega
  subst this
  conv => whnf
  refine ⟨rfl, ?_⟩
  simp [numK]
theorem ref24_number_spec {P : Program} (F : F_z2r P) (n : Int) (k : Nat) (hn : 0 ≤ n) (hn2 : n ≤ 9000000000000000000) (hk : k ≤ 100) (H : List AObj) :
  ACalls P F.id [.int .i64 n, .int .i64 k] H (fun r H' => r = .list false 1 (bC (beN k n)) ∧ H' = H) :=
 ACalls.frz1 rfl (ref24_number_raw F n k hn hn2 hk) (by rw [bC_length, beN_length]) (pureEs_bC _)
structure Rec where
 del : Bool
 seq : Int
 row : List V
structure Fil where
 id : ByteArray
 src : ByteArray
 recs : List Rec
def recC (r : Rec) : List AVal := [.bool r.del, .int .i64 r.seq, .list false 3 (vC r.row)]
def rC (l : List Rec) : List (List AVal) := l.map recC
def fV (f : Fil) : List AVal := [.str f.id, .str f.src, .list false 3 (rC f.recs)]
theorem rC_length (l : List Rec) : (rC l).length = l.length := List.length_map ..
theorem rC_append (a b : List Rec) : rC (a ++ b) = rC a ++ rC b := List.map_append
theorem pureEs_rC (l : List Rec) : pureEs (rC l) = true := by simp [pureEs, rC, recC, AVal.isPure]
theorem rC_at {l : List Rec} {k : Nat} {x : Rec} (h : l[k]? = some x) : (rC l)[k]? = some (recC x) := by rw [rC, List.getElem?_map, h]; rfl
def rowE (row : List V) : Int := if 12 < row.length then 2 else if row.all validB then 0 else 8
theorem encR_eq (row : List V) : encR row = if rowE row = 0 then .tuple [.list false 1 (bC (encB row)), .int .i64 0] else .tuple [.nil, .int .i64 (rowE row)] := by
 unfold encR rowE
 split
 ·rw [if_neg (by decide)]
 ·split
  ·rw [if_pos rfl]
  ·rw [if_neg (by decide)]
theorem rowE_zero {row : List V} (h : rowE row = 0) : row.length ≤ 12 ∧ row.all validB = true := by
 unfold rowE at h
 split at h
 ·cases h
 ·split at h
  ·exact ⟨by omega, by assumption⟩
  ·cases h
theorem encB_len {row : List V} (h : rowE row = 0) : (encB row).length ≤ 793 := by
 obtain ⟨h1, h2⟩ := rowE_zero h
 have := encK_len row row.length (by rw [List.take_length]; exact h2)
 rw [encK, List.take_length] at this
 show (u8 row.length :: row.flatMap encV).length ≤ 793
 omega
def recE (r : Rec) : Int := if r.seq < 0 ∨ 1073741824 < r.seq then 1 else rowE r.row
def recsE : List Rec → Int
 | [] => 0
 | r :: l => if recE r ≠ 0 then recE r else recsE l
def filE (f : Fil) : Int := if nameB f.id = false ∨ qualB f.src = false then 4 else if 1024 < f.recs.length then 2 else recsE f.recs
theorem recsE_zero : ∀ {l : List Rec}, recsE l = 0 → ∀ r ∈ l, recE r = 0
 | [], _, r, hr => by simp at hr
 | x :: l, h, r, hr => by
  rw [recsE] at h
  split at h
  ·rename_i hx; exact absurd h hx
  ·rename_i hx
   rcases List.mem_cons.1 hr with rfl | hr
   ·simpa using hx
   ·exact recsE_zero h r hr
theorem recE_zero {r : Rec} (h : recE r = 0) : 0 ≤ r.seq ∧ r.seq ≤ 1073741824 ∧ rowE r.row = 0 := by
 unfold recE at h
 split at h
 ·cases h
 ·exact ⟨by omega, by omega, h⟩
set_option maxRecDepth 20000 in
theorem batch_Validate_spec {P : Program} (F : F_z08 P) (f : Fil) (hs : f.src.size ≤ 1000000) (H : List AObj) :
  ACalls P F.id [.agg (fV f)] H (fun r H' => r = .int .i64 (filE f) ∧ H' = H) := by
 refine ACalls.pure (by simp [AVal.closed, fV, AVal.isPure]) (acalls_of_body F.has ?_)
 (conv => whnf); refine ACalls.use (schema_IsName_spec F.z17 f.id _) ?_
 (conv => whnf); refine recA (fun h1 => ?_) (fun h1 => ?_)
 ·replace h1 : (!(nameB f.id)) = true := h1
  simp at h1
  conv => whnf
  exact pubI (by rw [filE, if_pos (.inl h1)])
 replace h1 : (!(nameB f.id)) = false := h1
 simp at h1
 (conv => whnf); refine ACalls.use (schema_IsQualified_spec F.z18 f.src hs _) ?_
 (conv => whnf); refine recA (fun h2 => ?_) (fun h2 => ?_)
 ·replace h2 : (!(qualB f.src)) = true := h2
  simp at h2
  conv => whnf
  exact pubI (by rw [filE, if_pos (.inr h2)])
 replace h2 : (!(qualB f.src)) = false := h2
 simp at h2
 (conv => whnf); refine recA (fun h3 => ?_) (fun h3 => ?_)
 ·simp [rC_length] at h3
  conv => whnf
  exact pubI (by rw [filE, if_neg (by simp [h1, h2]), if_pos (by omega)])
 simp [rC_length] at h3
 have hR : recsE f.recs = filE f := by rw [filE, if_neg (by simp [h1, h2]), if_neg (by omega)]
 conv => whnf
 refine ⟨fun m ρ H1 => ∃ k : Nat, k + m = f.recs.length ∧ recsE (f.recs.drop k) = recsE f.recs ∧ H1 = [.arr 3 [fV f]] ∧
  Sv 46 [(22, .list false 3 (rC f.recs)), (23, .int .i64 f.recs.length), (24, .int .i64 k)] ρ, f.recs.length, [], ?_, ?_⟩
 ·exact ⟨0, by omega, rfl, rfl, Sv.intro rfl ⟨rfl, intEq (by rw [rC_length]), rfl, trivial⟩⟩
 rintro m ρ H1 ⟨k, hk, hr, rfl, d, rfl⟩
 (conv => whnf); refine recA (fun hlt => ?_) (fun hlt => ?_)
 ·simp at hlt
  obtain ⟨x, hx, hd, _⟩ := get_drop hlt
  rw [hd, recsE] at hr
  (conv => whnf); refine And.intro (by omega) ?_
  (conv => whnf); refine recO (rC_at hx) ?_
  (conv => whnf); refine recA (fun h4 => ?_) (fun h4 => ?_)
  ·simp at h4
   have hx0 : recE x = 1 := by rw [recE, if_pos (by omega)]
   rw [hx0, if_pos (by decide)] at hr
   conv => whnf
   exact pubI (by rw [← hR, hr])
  simp at h4
  (conv => whnf); refine recA (fun h5 => ?_) (fun h5 => ?_)
  ·simp at h5
   have hx0 : recE x = 1 := by rw [recE, if_pos (by omega)]
   rw [hx0, if_pos (by decide)] at hr
   conv => whnf
   exact pubI (by rw [← hR, hr])
  simp at h5
  have hrow := encode_list F.z23 false x.row
  rw [encR_eq] at hrow
  by_cases hz : rowE x.row = 0
  ·rw [if_pos hz] at hrow
   have hx0 : recE x = 0 := by rw [recE, if_neg (by omega)]; exact hz
   rw [if_neg (by simp [hx0])] at hr
   (conv => whnf); refine ACalls.use (hrow _) ?_
   conv => whnf
   refine ⟨m - 1, by omega, Gp.first 1 [.arr 3 [fV f]] rfl rfl (by simp [pureO, pureEs, fV, AVal.isPure]) rfl ?_ fun ρ1 h => ⟨k + 1, by omega, hr, rfl, h⟩⟩
   exact ⟨.closed _ rfl, .closed _ rfl, pub_int (wrapI ((k : Int) + 1) (by omega) (by omega)), trivial⟩
  ·rw [if_neg hz] at hrow
   have hx0 : recE x = rowE x.row := by rw [recE, if_neg (by omega)]
   rw [if_pos (by rw [hx0]; exact hz), hx0] at hr
   (conv => whnf); refine ACalls.use (hrow _) ?_
   (conv => whnf); refine recT (by show (!(rowE x.row == 0)) = true; simp [hz]) ?_
   conv => whnf
   exact pubI (by rw [← hR, hr])
 ·simp at hlt
  conv => whnf
  rw [List.drop_eq_nil_of_le hlt, recsE] at hr
  exact pubI (by rw [← hR, hr])
set_option maxRecDepth 20000 in
theorem ref24_Validate_spec {P : Program} (F : F_z2q P) (f : Fil) (hs : f.src.size ≤ 1000000) (H : List AObj) :
  ACalls P F.id [.agg (fV f)] H (fun r H' => r = .int .i64 (filE f) ∧ H' = H) := by
 refine ACalls.pure (by simp [AVal.closed, fV, AVal.isPure]) (acalls_of_body F.has ?_)
 (conv => whnf); refine ACalls.use (ref5_IsName_spec F.z3h f.id _) ?_
 (conv => whnf); refine recA (fun h1 => ?_) (fun h1 => ?_)
 ·replace h1 : (!(nameB f.id)) = true := h1
  simp at h1
  conv => whnf
  exact pubI (by rw [filE, if_pos (.inl h1)])
 replace h1 : (!(nameB f.id)) = false := h1
 simp at h1
 (conv => whnf); refine ACalls.use (ref5_IsQualified_spec F.z3i f.src hs _) ?_
 (conv => whnf); refine recA (fun h2 => ?_) (fun h2 => ?_)
 ·replace h2 : (!(qualB f.src)) = true := h2
  simp at h2
  conv => whnf
  exact pubI (by rw [filE, if_pos (.inr h2)])
 replace h2 : (!(qualB f.src)) = false := h2
 simp at h2
 (conv => whnf); refine recA (fun h3 => ?_) (fun h3 => ?_)
 ·simp [rC_length] at h3
  conv => whnf
  exact pubI (by rw [filE, if_neg (by simp [h1, h2]), if_pos (by omega)])
 simp [rC_length] at h3
 have hR : recsE f.recs = filE f := by rw [filE, if_neg (by simp [h1, h2]), if_neg (by omega)]
 conv => whnf
 refine ⟨fun m ρ H1 => ∃ k : Nat, k + m = f.recs.length ∧ recsE (f.recs.drop k) = recsE f.recs ∧ H1 = [.arr 3 [fV f]] ∧
  Sv 56 [(1, .ptr 0 1 0 0), (3, .int .i64 k)] ρ, f.recs.length, [], ?_, ?_⟩
 ·exact ⟨0, by omega, rfl, rfl, Sv.intro rfl ⟨rfl, rfl, trivial⟩⟩
 rintro m ρ H1 ⟨k, hk, hr, rfl, d, rfl⟩
 (conv => whnf); refine recA (fun hlt => ?_) (fun hlt => ?_)
 ·simp [rC_length] at hlt
  obtain ⟨x, hx, hd, _⟩ := get_drop hlt
  rw [hd, recsE] at hr
  (conv => whnf); refine And.intro (by omega) ?_
  (conv => whnf); refine recO (rC_at hx) ?_
  (conv => whnf); refine recA (fun h4 => ?_) (fun h4 => ?_)
  ·simp at h4
   have hx0 : recE x = 1 := by rw [recE, if_pos (by omega)]
   rw [hx0, if_pos (by decide)] at hr
   conv => whnf
   exact pubI (by rw [← hR, hr])
  simp at h4
  (conv => whnf); refine And.intro (by omega) ?_
  (conv => whnf); refine recO (rC_at hx) ?_
  (conv => whnf); refine recA (fun h5 => ?_) (fun h5 => ?_)
  ·simp at h5
   have hx0 : recE x = 1 := by rw [recE, if_pos (by omega)]
   rw [hx0, if_pos (by decide)] at hr
   conv => whnf
   exact pubI (by rw [← hR, hr])
  simp at h5
  (conv => whnf); refine And.intro (by omega) ?_
  (conv => whnf); refine recO (rC_at hx) ?_
  have hrow := ref1_Encode_spec F.z2d false x.row
  rw [encR_eq] at hrow
  by_cases hz : rowE x.row = 0
  ·rw [if_pos hz] at hrow
   have hx0 : recE x = 0 := by rw [recE, if_neg (by omega)]; exact hz
   rw [if_neg (by simp [hx0])] at hr
   (conv => whnf); refine ACalls.use (hrow _) ?_
   conv => whnf
   refine ⟨m - 1, by omega, Gp.keep rfl ?_ fun ρ1 h => ⟨k + 1, by omega, hr, rfl, h⟩⟩
   exact ⟨rfl, intEq (wrapI ((k : Int) + 1) (by omega) (by omega)), trivial⟩
  ·rw [if_neg hz] at hrow
   have hx0 : recE x = rowE x.row := by rw [recE, if_neg (by omega)]
   rw [if_pos (by rw [hx0]; exact hz), hx0] at hr
   (conv => whnf); refine ACalls.use (hrow _) ?_
   (conv => whnf); refine recT (by show (!(rowE x.row == 0)) = true; simp [hz]) ?_
   conv => whnf
   exact pubI (by rw [← hR, hr])
 ·simp [rC_length] at hlt
  conv => whnf
  rw [List.drop_eq_nil_of_le hlt, recsE] at hr
  exact pubI (by rw [← hR, hr])
def recB (r : Rec) : List Int := (if r.del then 1 else 0) :: (beN 4 r.seq ++ (beN 2 (encB r.row).length ++ encB r.row))
def headB (f : Fil) : List Int := [87, 72, 70, 49] ++ (u8 f.id.size :: bytesI f.id) ++ (u8 f.src.size :: bytesI f.src) ++ beN 2 f.recs.length
def bodyB (f : Fil) : List Int := headB f ++ f.recs.flatMap recB
def filB (f : Fil) : List Int := bodyB f ++ beN 4 (fnv (bodyB f))
def encFE (f : Fil) : Int := if filE f ≠ 0 then filE f else if 65536 < (filB f).length then 2 else 0
def encFR (f : Fil) : AVal := if encFE f = 0 then .tuple [.list false 1 (bC (filB f)), .int .i64 0] else .tuple [.nil, .int .i64 (encFE f)]
theorem recB_len {r : Rec} (h : recE r = 0) : (recB r).length ≤ 800 := by
 have := encB_len (recE_zero h).2.2
 simp only [recB, List.length_cons, List.length_append, beN_length]; omega
theorem recsB_len : ∀ {l : List Rec}, recsE l = 0 → (l.flatMap recB).length ≤ 800 * l.length
 | [], _ => by simp
 | r :: l, h => by
  have h1 := recB_len (recsE_zero h r (List.mem_cons_self ..))
  have h2 := recsB_len (l := l) (by rw [recsE] at h; split at h; (rename_i hx; exact absurd h hx); exact h)
  rw [List.flatMap_cons, List.length_append, List.length_cons]; omega
theorem recB_byt {r : Rec} (h : Byt (encB r.row)) : Byt (recB r) := by
 intro x hx
 rw [recB] at hx
 rcases List.mem_cons.1 hx with rfl | hx
 ·split <;> omega
 ·rcases List.mem_append.1 hx with hx | hx
  ·exact beN_byt _ _ x hx
  ·rcases List.mem_append.1 hx with hx | hx
   ·exact beN_byt _ _ x hx
   ·exact h x hx
theorem filE_ok {f : Fil} (h1 : filE f = 0) : recsE f.recs = 0 ∧ f.recs.length ≤ 1024 ∧ nameB f.id = true ∧ qualB f.src = true := by
 unfold filE at h1
 split at h1
 ·cases h1
 ·rename_i hn
  split at h1
  ·cases h1
  ·refine ⟨h1, by omega, ?_, ?_⟩
   ·cases h : nameB f.id with
    | true => rfl
    | false => exact absurd (.inl h) hn
   ·cases h : qualB f.src with
    | true => rfl
    | false => exact absurd (.inr h) hn
theorem recsE_take : ∀ (l : List Rec) (k : Nat), recsE l = 0 → recsE (l.take k) = 0
 | [], k, _ => by simp [recsE]
 | r :: l, 0, _ => by simp [recsE]
 | r :: l, k + 1, h => by
  rw [recsE] at h
  split at h
  ·rename_i hx; exact absurd h hx
  ·rename_i hx
   rw [List.take_succ_cons, recsE, if_neg hx]
   exact recsE_take l k h
theorem body_len {f : Fil} (h1 : filE f = 0) (hi : f.id.size ≤ 50000) (hs : f.src.size ≤ 50000) (k : Nat) : (headB f ++ (f.recs.take k).flatMap recB).length ≤ 980000 := by
 obtain ⟨h2, h3, _⟩ := filE_ok h1
 have h4 := recsB_len (recsE_take f.recs k h2)
 have h5 : (f.recs.take k).length ≤ f.recs.length := by rw [List.length_take]; omega
 have h6 : (headB f).length ≤ 100100 := by simp [headB, bytesI_length, beN_length]; omega
 rw [List.length_append]; omega
theorem ref24_Checksum_own {P : Program} (F : F_z2l P) (l : List Int) (hl : l.length ≤ 100000000) (hb : Byt l) (H : List AObj) (id : Nat) (ho : H[id]? = some (.arr 1 (bC l))) :
  ACalls P F.id [.sl id l.length 0 l.length] H (fun r H' => r = .int .u32 (fnv l) ∧ H' = H) := by
 refine ACalls.bor rfl ((ref24_Checksum_spec F false l hl hb []).mono fun r H' h => h.1) (Lents.cons ?_ Lents.nil)
 have := Lent.sl (H := H) id l.length 0 l.length 1 (bC l) ho (by rw [bC_length]) (pureEs_bC _)
 have e : ((bC l).drop 0).take l.length = bC l := by rw [List.drop_zero, List.take_of_length_le (by rw [bC_length]; exact Nat.le_refl _)]
 rwa [e] at this
theorem bytesI_byt (s : ByteArray) : Byt (bytesI s) := fun x hx => by
 obtain ⟨b, _, rfl⟩ := List.mem_map.1 hx
 have := b.toNat_lt; omega
theorem encV_byt (v : V) : Byt (encV v) := by
 intro x hx
 unfold encV at hx
 have hu : ∀ n, 0 ≤ u8 n ∧ u8 n ≤ 255 := fun n => by rw [u8_eq]; omega
 rcases List.mem_cons.1 hx with rfl | hx
 ·exact hu _
 ·split at hx
  ·rw [List.mem_singleton] at hx; subst hx; exact hu _
  ·split at hx
   ·rw [w4_eq] at hx; exact beN_byt _ _ x hx
   ·split at hx
    ·rw [w4_eq] at hx; exact beN_byt _ _ x hx
    ·split at hx
     ·rcases List.mem_cons.1 hx with rfl | hx
      ·exact hu _
      ·exact bytesI_byt _ x hx
     ·simp at hx
theorem encB_byt (row : List V) : Byt (encB row) := fun x hx => by
 rcases List.mem_cons.1 hx with rfl | hx
 ·rw [u8_eq]; omega
 ·obtain ⟨v, _, hv⟩ := List.mem_flatMap.1 hx
  exact encV_byt v x hv
theorem bodyB_byt (f : Fil) : Byt (bodyB f) := by
 intro x hx
 have hu : ∀ n, 0 ≤ u8 n ∧ u8 n ≤ 255 := fun n => by rw [u8_eq]; omega
 rcases List.mem_append.1 hx with hx | hx
 ·rw [headB] at hx
  rcases List.mem_append.1 hx with hx | hx
  ·rcases List.mem_append.1 hx with hx | hx
   ·rcases List.mem_append.1 hx with hx | hx
    ·simp at hx; omega
    ·rcases List.mem_cons.1 hx with rfl | hx
     ·exact hu _
     ·exact bytesI_byt _ x hx
   ·rcases List.mem_cons.1 hx with rfl | hx
    ·exact hu _
    ·exact bytesI_byt _ x hx
  ·exact beN_byt _ _ x hx
 ·obtain ⟨r, _, hr⟩ := List.mem_flatMap.1 hx
  exact recB_byt (encB_byt _) x hr
set_option maxRecDepth 20000 in
theorem ref24_Encode_spec {P : Program} (F : F_z2n P) (f : Fil) (hi : f.id.size ≤ 50000) (hs : f.src.size ≤ 50000) (H : List AObj) :
  ACalls P F.id [.agg (fV f)] H (fun r H' => r = encFR f ∧ H' = H) := by
 refine ACalls.pure (by simp [AVal.closed, fV, AVal.isPure]) (acalls_of_body F.has ?_)
 (conv => whnf); refine ACalls.use (ref24_Validate_spec F.z2q f (by omega) _) ?_
 (conv => whnf); refine recA (fun h1 => ?_) (fun h1 => ?_)
 ·replace h1 : (!(filE f == 0)) = true := h1
  simp at h1
  have hE : encFE f = filE f := by rw [encFE, if_pos h1]
  conv => whnf
  rw [encFR, if_neg (by rw [hE]; exact h1), hE]
  exact pub2 (.closed _ rfl) (.closed _ rfl)
 replace h1 : (!(filE f == 0)) = false := h1
 simp at h1
 have hrec := filE_ok h1
 have hE : encFE f = if 65536 < (filB f).length then 2 else 0 := by rw [encFE, if_neg (by simp [h1])]
 have hbl := body_len h1 hi hs
 have hhead : bC (headB f) = bC [87, 72, 70, 49] ++ [[.int .u8 (u8 f.id.size)]] ++ byteCells f.id.data.toList ++ [[.int .u8 (u8 f.src.size)]] ++ byteCells f.src.data.toList ++ bC (beN 2 (rC f.recs).length) := by
  rw [byteCells_eq, byteCells_eq, rC_length]; simp [headB, bC]
 have li : (byteCells f.id.data.toList).length = f.id.size := by rw [byteCells_eq, bC_length, bytesI_length]
 have ls : (byteCells f.src.data.toList).length = f.src.size := by rw [byteCells_eq, bC_length, bytesI_length]
 (conv => whnf); refine And.intro (⟨roomB_le1 (by simp), roomB_le (by simp), rfl, rfl⟩) ?_
 try ((conv => whnf); refine recT (Nat.beq_refl _) ?_)
 (conv => whnf); refine And.intro (⟨roomB_le1 (by simp [li]; omega), roomB_le (by simp [li]; omega), rfl, rfl⟩) ?_
 try ((conv => whnf); refine recT (Nat.beq_refl _) ?_)
 (conv => whnf); refine And.intro (⟨roomB_le1 (by simp [li]; omega), roomB_le (by simp [li]; omega), rfl, rfl⟩) ?_
 repeat ((conv => whnf); refine And.intro rfl ?_)
 try ((conv => whnf); refine recT (Nat.beq_refl _) ?_)
 (conv => whnf); refine And.intro (⟨roomB_le1 (by simp [li, ls]; omega), roomB_le (by simp [li, ls]; omega), rfl, rfl⟩) ?_
 have hrl := rC_length f.recs
 (conv => whnf); refine ⟨_, ref24_number_spec F.z2r (rC f.recs).length 2 (by omega) (by omega) (by omega) _, ?_⟩
 try ((conv => whnf); refine recT (Nat.beq_refl _) ?_)
 (conv => whnf); refine And.intro (⟨roomB_le1 (by simp [li, ls, bC_length, beN_length]; omega), roomB_le (by simp [li, ls, bC_length, beN_length]; omega), rfl, rfl⟩) ?_
 repeat ((conv => whnf); refine And.intro rfl ?_)
 conv => whnf
 refine ⟨fun m ρ H1 => ∃ k : Nat, k + m = f.recs.length ∧ H1 = [.arr 3 [fV f], .arr 1 (bC (headB f ++ (f.recs.take k).flatMap recB))] ∧
  Sv 90 [(1, .ptr 0 1 0 0), (5, .sl 1 (headB f ++ (f.recs.take k).flatMap recB).length 0 (headB f ++ (f.recs.take k).flatMap recB).length), (6, .int .i64 k)] ρ, f.recs.length, [], ?_, ?_⟩
 ·refine ⟨0, by omega, ?_, Sv.intro rfl ⟨rfl, slEq ?_ ?_, rfl, trivial⟩⟩
  ·rw [List.take_zero, List.flatMap_nil, List.append_nil, hhead]; rfl
  ·rw [List.take_zero, List.flatMap_nil, List.append_nil, ← bC_length, hhead]; rfl
  ·rw [List.take_zero, List.flatMap_nil, List.append_nil, ← bC_length, hhead]; rfl
 rintro m ρ H1 ⟨k, hk, rfl, d, rfl⟩
 have hbk := hbl k
 (conv => whnf); refine recA (fun hlt => ?_) (fun hlt => ?_)
 ·simp [rC_length] at hlt
  obtain ⟨x, hx, hd, hxm⟩ := get_drop hlt
  have htk : headB f ++ (f.recs.take (k + 1)).flatMap recB = headB f ++ (f.recs.take k).flatMap recB ++ recB x := by rw [List.take_add_one, hx]; simp
  obtain ⟨s0, s1, hz⟩ := recE_zero (recsE_zero hrec.1 x hxm)
  have hrow := ref1_Encode_spec F.z2d false x.row
  rw [encR_eq, if_pos hz] at hrow
  have hel := encB_len hz
  (conv => whnf); refine And.intro (by omega) ?_
  (conv => whnf); refine recO (rC_at hx) ?_
  (conv => whnf); refine recA (fun hd' => ?_) (fun hd' => ?_)
  ·replace hd' : x.del = true := hd'
   have hB : recB x = [1] ++ (beN 4 x.seq ++ (beN 2 (encB x.row).length ++ encB x.row)) := (by rw [recB, hd']; rfl)
   have hF : bC (headB f ++ (f.recs.take (k + 1)).flatMap recB) = bC (headB f ++ (f.recs.take k).flatMap recB) ++ [[.int .u8 1]] ++ bC (beN 4 x.seq) ++ bC (beN 2 (encB x.row).length) ++ bC (encB x.row) := by
    rw [htk, hB]; simp [bC]
   have hbk2 := hbk
   rw [List.length_append] at hbk2
   (conv => whnf); refine recT (by rw [bC_length]; exact Nat.beq_refl _) ?_
   (conv => whnf); refine And.intro (⟨roomB_le1 (by simp only [List.length_append, List.length_cons, List.length_nil, List.length_replicate, bC_length, beN_length]; omega), roomB_le (by simp only [List.length_append, List.length_cons, List.length_nil, List.length_replicate, bC_length, beN_length]; omega), rfl, by rw [bC_length]⟩) ?_
   (conv => whnf); refine ACalls.use (hrow _) ?_
   (conv => whnf); refine ACalls.use (ref24_number_spec F.z2r x.seq 4 s0 (by omega) (by omega) _) ?_
   try ((conv => whnf); refine recT (Nat.beq_refl _) ?_)
   (conv => whnf); refine And.intro (⟨roomB_le1 (by simp only [List.length_append, List.length_cons, List.length_nil, List.length_replicate, bC_length, beN_length]; omega), roomB_le (by simp only [List.length_append, List.length_cons, List.length_nil, List.length_replicate, bC_length, beN_length]; omega), rfl, rfl⟩) ?_
   conv => whnf
   rw [bC_length (encB x.row)]
   (conv => whnf); refine ACalls.use (ref24_number_spec F.z2r (encB x.row).length 2 (by omega) (by omega) (by omega) _) ?_
   try ((conv => whnf); refine recT (Nat.beq_refl _) ?_)
   (conv => whnf); refine And.intro (⟨roomB_le1 (by simp only [List.length_append, List.length_cons, List.length_nil, List.length_replicate, bC_length, beN_length]; omega), roomB_le (by simp only [List.length_append, List.length_cons, List.length_nil, List.length_replicate, bC_length, beN_length]; omega), rfl, rfl⟩) ?_
   try ((conv => whnf); refine recT (Nat.beq_refl _) ?_)
   (conv => whnf); refine And.intro (⟨roomB_le1 (by simp only [List.length_append, List.length_cons, List.length_nil, List.length_replicate, bC_length, beN_length]; omega), roomB_le (by simp only [List.length_append, List.length_cons, List.length_nil, List.length_replicate, bC_length, beN_length]; omega), rfl, rfl⟩) ?_
   conv => whnf
   have hLn := ((congrArg List.length hF).symm.trans (bC_length _))
   refine ⟨m - 1, by omega, Gp.first 2 [.arr 3 [fV f], .arr 1 (bC (headB f ++ (f.recs.take (k + 1)).flatMap recB))] (by rw [hF]; rfl) rfl (by simp [pureO, pureEs_bC]; simp [pureEs, fV, AVal.isPure]) rfl ?_ fun ρ1 h => ⟨k + 1, by omega, rfl, h⟩⟩
   exact ⟨.keepP 0 1 0 0 0 rfl, pubSl (k := 1) rfl rfl hLn hLn, pub_int (wrapI ((k : Int) + 1) (by omega) (by omega)), trivial⟩
  ·replace hd' : x.del = false := hd'
   have hB : recB x = [0] ++ (beN 4 x.seq ++ (beN 2 (encB x.row).length ++ encB x.row)) := (by rw [recB, hd']; rfl)
   have hF : bC (headB f ++ (f.recs.take (k + 1)).flatMap recB) = bC (headB f ++ (f.recs.take k).flatMap recB) ++ [[.int .u8 0]] ++ bC (beN 4 x.seq) ++ bC (beN 2 (encB x.row).length) ++ bC (encB x.row) := by
    rw [htk, hB]; simp [bC]
   have hbk2 := hbk
   rw [List.length_append] at hbk2
   (conv => whnf); refine recT (by rw [bC_length]; exact Nat.beq_refl _) ?_
   (conv => whnf); refine And.intro (⟨roomB_le1 (by simp only [List.length_append, List.length_cons, List.length_nil, List.length_replicate, bC_length, beN_length]; omega), roomB_le (by simp only [List.length_append, List.length_cons, List.length_nil, List.length_replicate, bC_length, beN_length]; omega), rfl, by rw [bC_length]⟩) ?_
   (conv => whnf); refine ACalls.use (hrow _) ?_
   (conv => whnf); refine ACalls.use (ref24_number_spec F.z2r x.seq 4 s0 (by omega) (by omega) _) ?_
   try ((conv => whnf); refine recT (Nat.beq_refl _) ?_)
   (conv => whnf); refine And.intro (⟨roomB_le1 (by simp only [List.length_append, List.length_cons, List.length_nil, List.length_replicate, bC_length, beN_length]; omega), roomB_le (by simp only [List.length_append, List.length_cons, List.length_nil, List.length_replicate, bC_length, beN_length]; omega), rfl, rfl⟩) ?_
   conv => whnf
   rw [bC_length (encB x.row)]
   (conv => whnf); refine ACalls.use (ref24_number_spec F.z2r (encB x.row).length 2 (by omega) (by omega) (by omega) _) ?_
   try ((conv => whnf); refine recT (Nat.beq_refl _) ?_)
   (conv => whnf); refine And.intro (⟨roomB_le1 (by simp only [List.length_append, List.length_cons, List.length_nil, List.length_replicate, bC_length, beN_length]; omega), roomB_le (by simp only [List.length_append, List.length_cons, List.length_nil, List.length_replicate, bC_length, beN_length]; omega), rfl, rfl⟩) ?_
   try ((conv => whnf); refine recT (Nat.beq_refl _) ?_)
   (conv => whnf); refine And.intro (⟨roomB_le1 (by simp only [List.length_append, List.length_cons, List.length_nil, List.length_replicate, bC_length, beN_length]; omega), roomB_le (by simp only [List.length_append, List.length_cons, List.length_nil, List.length_replicate, bC_length, beN_length]; omega), rfl, rfl⟩) ?_
   conv => whnf
   have hLn := ((congrArg List.length hF).symm.trans (bC_length _))
   refine ⟨m - 1, by omega, Gp.first 2 [.arr 3 [fV f], .arr 1 (bC (headB f ++ (f.recs.take (k + 1)).flatMap recB))] (by rw [hF]; rfl) rfl (by simp [pureO, pureEs_bC]; simp [pureEs, fV, AVal.isPure]) rfl ?_ fun ρ1 h => ⟨k + 1, by omega, rfl, h⟩⟩
   exact ⟨.keepP 0 1 0 0 0 rfl, pubSl (k := 1) rfl rfl hLn hLn, pub_int (wrapI ((k : Int) + 1) (by omega) (by omega)), trivial⟩
 simp [rC_length] at hlt
 have hkl : f.recs.take k = f.recs := List.take_of_length_le hlt
 rw [hkl] at hbk ⊢
 rw [show headB f ++ f.recs.flatMap recB = bodyB f from rfl] at hbk ⊢
 (conv => whnf); refine ACalls.use (ref24_Checksum_own F.z2l (bodyB f) (by omega) (bodyB_byt f) _ 1 rfl) ?_
 conv => whnf
 have hwf : IntKind.i64.wrap (fnv (bodyB f)) = fnv (bodyB f) := wrapI _ (by have := fnv_bound (bodyB f); omega) (by have := fnv_bound (bodyB f); omega)
 rw [hwf]
 have hfil : bC (filB f) = bC (bodyB f) ++ bC (beN 4 (fnv (bodyB f))) := by rw [filB, bC_append]
 (conv => whnf); refine ACalls.use (ref24_number_spec F.z2r (fnv (bodyB f)) 4 (fnv_bound _).1 (by have := fnv_bound (bodyB f); omega) (by omega) _) ?_
 (conv => whnf); refine recT (by rw [bC_length]; exact Nat.beq_refl _) ?_
 (conv => whnf); refine And.intro (⟨roomB_le1 (by simp [bC_length, beN_length]; omega), roomB_le (by simp [bC_length, beN_length]; omega), rfl, by rw [bC_length]⟩) ?_
 try ((conv => whnf); refine recT (Nat.beq_refl _) ?_)
 (conv => whnf); refine recA (fun h2 => ?_) (fun h2 => ?_)
 ·have h2 : decide ((((bC (bodyB f) ++ bC (beN 4 (fnv (bodyB f)))).length : Nat) : Int) > 65536) = true := h2
  rw [← hfil, bC_length] at h2
  simp at h2
  have hE2 : encFE f = 2 := by rw [hE, if_pos (by omega)]
  conv => whnf
  rw [encFR, if_neg (by rw [hE2]; decide), hE2]
  exact pub2 (.closed _ rfl) (.closed _ rfl)
 ·have h2 : decide ((((bC (bodyB f) ++ bC (beN 4 (fnv (bodyB f)))).length : Nat) : Int) > 65536) = false := h2
  rw [← hfil, bC_length] at h2
  simp at h2
  have hE2 : encFE f = 0 := by rw [hE, if_neg (by omega)]
  conv => whnf
  rw [encFR, if_pos hE2, hfil]
  exact pub2 (pubF (id := 1) rfl rfl rfl (by rw [← hfil]; exact pureEs_bC _)) (.closed _ rfl)
end Go.AW
namespace Go.AW
variable [Draws]
section
variable {P : Program} {C C' : Nat → Nat} {τ τ' : Nat → Option Loc} {H H' : List AObj} {w w' : World}
theorem ACalls.gp {f : FuncId} {args : List AVal} {Q0 Q : AVal → List AObj → Prop} (h : ACalls P f args H Q0)
  (hq : ∀ r H', Q0 r H' → Gp (H.map AObj.olen) [r] H' (fun ρ1 H1 => ∃ r', ρ1 = [r'] ∧ Q r' H1)) : ACalls P f args H Q := by
 intro C τ w vs hw hl hr
 have hc := h C τ w vs hw hl hr
 have fin : ∀ (e : Ending) (w' : World), (∃ v r C' τ' H', e = .returned v ∧ Q0 r H' ∧ Rel C' w' τ' H' r v ∧ St w (PrCall τ H w) C' τ' H' w' ∧ Step C τ H w C' τ' H' w') →
   ∃ v r C' τ' H', e = .returned v ∧ Q r H' ∧ Rel C' w' τ' H' r v ∧ St w (PrCall τ H w) C' τ' H' w' ∧ Step C τ H w C' τ' H' w' := by
  rintro e w' ⟨v, r, C1, τ1, H1, he, hq0, hrel, hst, hstep⟩
  let E : Env := ⟨w, PrCall τ H w, C, τ, H, fun b hb hn => Classical.byContradiction fun ho => hn ⟨hb, ho⟩⟩
  have hsa : SA E C1 τ1 [r] H1 { tmps := #[v], defers := [] } w' := by
   refine ⟨hst, hstep, fun t => ?_, rfl, rfl⟩
   cases t with
   | zero => exact hrel
   | succ t => exact .undef _
  obtain ⟨ρ2, H2, C2, τ2, ⟨r', rfl, hQ⟩, hs2⟩ := hsa.regroup (hq r H1 hq0)
  exact ⟨v, r', C2, τ2, H2, he, hQ, hs2.tmps 0, hs2.st, hs2.step⟩
 unfold CallsX at hc ⊢
 split at hc
 ·exact Calls.mono hc fun e w' hh => fin e w' hh
 ·exact fin _ _ hc
 ·exact hc
def AObj.clean : AObj → Bool
 | .arr _ es => pureEs es
 | .iter _ _ => true
 | .map kvs => kvs.all fun kv => kv.2.isPure
theorem pureKvs_get {kvs : List (AVal × AVal)} (h : (kvs.all fun kv => kv.2.isPure) = true) {i : Nat} {kv : AVal × AVal} (hi : kvs[i]? = some kv) : kv.2.isPure = true :=
 List.all_eq_true.1 h kv (List.mem_of_getElem? hi)
inductive Ren (σ : Nat → Nat) : AVal → AVal → Prop where
 | closed (v : AVal) (h : v.closed = true) : Ren σ v v
 | sl (id ep off len : Nat) : Ren σ (.sl id ep off len) (.sl (σ id) ep off len)
 | ptr (id ep idx fld : Nat) : Ren σ (.ptr id ep idx fld) (.ptr (σ id) ep idx fld)
 | agg (vs rs : List AVal) (hl : vs.length = rs.length) (h : ∀ (i : Nat) (v r : AVal), vs[i]? = some v → rs[i]? = some r → Ren σ v r) : Ren σ (.agg vs) (.agg rs)
 | tuple (vs rs : List AVal) (hl : vs.length = rs.length) (h : ∀ (i : Nat) (v r : AVal), vs[i]? = some v → rs[i]? = some r → Ren σ v r) : Ren σ (.tuple vs) (.tuple rs)
inductive RenO (σ : Nat → Nat) : AObj → AObj → Prop where
 | same (o : AObj) (h : o.clean = true) : RenO σ o o
 | arr (esz : Nat) (es es1 : List (List AVal)) (hl : es1.length = es.length) (hl2 : ∀ (i : Nat) (e e1 : List AVal), es[i]? = some e → es1[i]? = some e1 → e1.length = e.length)
   (h : ∀ (i j : Nat) (e e1 : List AVal) (d d1 : AVal), es[i]? = some e → es1[i]? = some e1 → e[j]? = some d → e1[j]? = some d1 → Ren σ d d1 ∧ d1.isCell = true) :
   RenO σ (.arr esz es) (.arr esz es1)
theorem RenO.after {σ : Nat → Nat} {o o0 o1 : AObj} {t t' : Option Loc} (h : RenO σ o0 o1) (ha : o.after o0 t t') : o.after o1 t t' := by
 cases h with
 | same => exact ha
 | arr esz es es1 hl _ _ =>
  cases o with
  | iter _ _ => exact ha
  | map _ => exact ha
  | arr z es0 => exact ⟨ha.1, by rw [hl]; exact ha.2.1, by rw [hl]; exact ha.2.2⟩
theorem RenO.ok {σ : Nat → Nat} {o0 o1 : AObj} (h : RenO σ o0 o1) (ho : o0.ok) : o1.ok := by
 cases h with
 | same => exact ho
 | arr esz es es1 hl hl2 hp =>
  intro e1 he1
  obtain ⟨n, hn⟩ := List.getElem?_of_mem he1
  have hnl := (List.getElem?_eq_some_iff.1 hn).1
  have he : es[n]? = some es[n] := List.getElem?_eq_getElem (by omega)
  obtain ⟨g1, g2⟩ := ho _ (List.mem_of_getElem? he)
  refine ⟨(hl2 n _ _ he hn).trans g1, fun d1 hd1 => ?_⟩
  obtain ⟨j, hj⟩ := List.getElem?_of_mem hd1
  have hjl := (List.getElem?_eq_some_iff.1 hj).1
  have := hl2 n _ _ he hn
  exact (hp n j _ _ _ d1 he hn (List.getElem?_eq_getElem (by omega)) hj).2
def frN (id n : Nat) (k : Nat) : Nat := match k with
 | 0 => id
 | k + 1 => n + k
theorem ACalls.frame1 {f : FuncId} {args0 args : List AVal} {Q0 Q : AVal → List AObj → Prop} {id : Nat} {o : AObj} (ho : H[id]? = some o)
  (hp : o.clean = true)
  (hal : args0.length = args.length) (ha : ∀ (i : Nat) (a b : AVal), args0[i]? = some a → args[i]? = some b → (a = b ∧ a.closed = true) ∨ (∃ ep idx fld, a = .ptr 0 ep idx fld ∧ b = .ptr id ep idx fld) ∨ ∃ ep off len, a = .sl 0 ep off len ∧ b = .sl id ep off len)
  (h : ACalls P f args0 [o] Q0)
  (hq : ∀ r H1, Q0 r H1 → ∃ r' o1 o1' G G', H1 = o1 :: G ∧ Ren (frN id H.length) r r' ∧ RenO (frN id H.length) o1 o1' ∧ G.length = G'.length ∧
   (∀ (k : Nat) (x y : AObj), G[k]? = some x → G'[k]? = some y → RenO (frN id H.length) x y) ∧ Q r' (H.set id o1' ++ G')) : ACalls P f args H Q := by
 intro C τ w vs hw hl hr
 have hid := (List.getElem?_eq_some_iff.1 ho).1
 let τ0 : Nat → Option Loc := fun k => if k = 0 then τ id else none
 have one : ∀ {k : Nat} {x : AObj}, [o][k]? = some x → k = 0 ∧ x = o := fun {k x} h => by
  cases k with
  | zero => simp at h; exact ⟨rfl, h.symm⟩
  | succ k => simp at h
 have hw0 : WF C τ0 [o] w := by
  refine ⟨fun k x h => ?_, fun k x h ht => ?_, fun k x l h ht => ?_, fun k l hk ht => ?_, fun i j li lj hi hj _ _ _ => ?_, hw.lt⟩
  ·obtain ⟨rfl, rfl⟩ := one h; exact hw.ok id _ ho
  ·obtain ⟨rfl, rfl⟩ := one h; exact hw.virt id _ ho ht
  ·obtain ⟨rfl, rfl⟩ := one h
   have hob := hw.objs id _ l ho ht
   cases x with
   | iter s p => exact hob
   | map kvs =>
    obtain ⟨es, clock, a1, a2, a3⟩ := hob
    exact ⟨es, clock, a1, a2, fun i e kv he hkv => ⟨(a3 i e kv he hkv).1, .rd ((a3 i e kv he hkv).2.pure (pureKvs_get hp hkv))⟩⟩
   | arr esz es =>
    obtain ⟨a1, cells, elem, fz, a2, a3, a4, a5⟩ := hob
    refine ⟨a1, cells, elem, fz, a2, a3, a4, fun i j e d hi hd => ?_⟩
    obtain ⟨x, hx1, hx2⟩ := a5 i j e d hi hd
    exact ⟨x, hx1, .rd (hx2.pure (pureEs_get hp hi hd))⟩
  ·have hk0 : k = 0 := by simp at hk; omega
   subst hk0; exact hw.comm id l hid ht
  ·simp at hi hj; omega
 have hr0 : ∀ (i : Nat) (a : AVal) (v : Value), args0[i]? = some a → vs[i]? = some v → Rel C w τ0 [o] a v := fun i a v h1 h2 => by
  have hi := (List.getElem?_eq_some_iff.1 h1).1
  have hb : args[i]? = some args[i] := List.getElem?_eq_getElem (by omega)
  have hrel := hr i _ v hb h2
  rcases ha i a _ h1 hb with ⟨e, hc⟩ | ⟨ep, idx, fld, rfl, e⟩ | ⟨ep, off, len, rfl, e⟩
  ·rw [← e] at hrel
   exact hrel.closed hc (fun _ => Nat.le_refl _) (fun _ _ _ => rfl)
  ·rw [e] at hrel
   cases hrel with
   | rd h => cases h
   | ptr _ _ _ _ a esz es ho2 hep h3 =>
    rw [ho] at ho2; cases ho2
    exact .ptr 0 ep idx fld a esz es rfl hep h3
  ·rw [e] at hrel
   cases hrel with
   | rd h => cases h
   | sl _ _ _ _ a cap esz es ho2 hep h3 =>
    rw [ho] at ho2; cases ho2
    exact .sl 0 ep off len a cap esz es rfl hep h3
 have hc := h C τ0 w vs hw0 (by omega) hr0
 have fin : ∀ (e : Ending) (w' : World), (∃ v r C' τ' H', e = .returned v ∧ Q0 r H' ∧ Rel C' w' τ' H' r v ∧ St w (PrCall τ0 [o] w) C' τ' H' w' ∧ Step C τ0 [o] w C' τ' H' w') →
   ∃ v r C' τ' H', e = .returned v ∧ Q r H' ∧ Rel C' w' τ' H' r v ∧ St w (PrCall τ H w) C' τ' H' w' ∧ Step C τ H w C' τ' H' w' := by
  rintro e w' ⟨v, r, C1, τ1, H1, he, hq0, hrel, hst, hstep⟩
  obtain ⟨r', o1, o1', G, G', rfl, hrr, hro, hgl, hG, hQ⟩ := hq r H1 hq0
  
  have hoth : ∀ j l, j < H.length → j ≠ id → τ j = some l → PrCall τ0 [o] w l.b := fun j l hj hne ht =>
   ⟨hw.locLt hj ht, by
    rintro ⟨k, l', hk, ht', hb⟩
    have hk0 : k = 0 := by simp at hk; omega
    subst hk0
    exact hne (hw.inj j id l l' hj hid ht ht' hb.symm)⟩
  have hheap : ∀ j l, j < H.length → j ≠ id → τ j = some l → w'.heap[l.b]? = w.heap[l.b]? := fun j l hj hne ht => hst.fr.prot _ (hoth j l hj hne ht)
  let τ2 : Nat → Option Loc := fun i => if i = id then τ1 0 else if i < H.length then τ i else τ1 (i - H.length + 1)
  have t0 : τ2 id = τ1 0 := by simp only [τ2, if_true]
  have tO : ∀ j, j < H.length → j ≠ id → τ2 j = τ j := fun j hj hne => by simp only [τ2, if_neg hne, if_pos hj]
  have tN : ∀ k, τ2 (H.length + k) = τ1 (k + 1) := fun k => by
   simp only [τ2, if_neg (by omega : ¬ H.length + k = id), if_neg (by omega : ¬ H.length + k < H.length), Nat.add_sub_cancel_left]
  have tF : ∀ k, τ2 (frN id H.length k) = τ1 k := fun k => by
   cases k with
   | zero => exact t0
   | succ k => exact tN k
  have gid : (H.set id o1' ++ G')[id]? = some o1' := by rw [List.getElem?_append_left (by rw [List.length_set]; exact hid), List.getElem?_set_self hid]
  have gO : ∀ j, j < H.length → j ≠ id → (H.set id o1' ++ G')[j]? = H[j]? := fun j hj hne => by
   rw [List.getElem?_append_left (by rw [List.length_set]; exact hj), List.getElem?_set_ne (Ne.symm hne)]
  have gN : ∀ k, (H.set id o1' ++ G')[H.length + k]? = G'[k]? := fun k => by
   rw [List.getElem?_append_right (by rw [List.length_set]; omega), List.length_set, Nat.add_sub_cancel_left]
  
  have gF : ∀ k x, (o1 :: G)[k]? = some x → ∃ y, (H.set id o1' ++ G')[frN id H.length k]? = some y ∧ RenO (frN id H.length) x y := fun k x hx => by
   cases k with
   | zero => simp at hx; subst hx; exact ⟨o1', gid, hro⟩
   | succ k =>
    have hk : k < G.length := (List.getElem?_eq_some_iff.1 (by simpa using hx : G[k]? = some x)).1
    have hy : G'[k]? = some G'[k] := List.getElem?_eq_getElem (by omega)
    exact ⟨G'[k], (gN k).trans hy, hG k x _ (by simpa using hx) hy⟩
  have split : ∀ i, i < (H.set id o1' ++ G').length → (i < H.length ∧ i ≠ id) ∨ ∃ k, i = frN id H.length k ∧ k < (o1 :: G).length := fun i hi => by
   rw [List.length_append, List.length_set] at hi
   by_cases h1 : i = id
   ·exact .inr ⟨0, h1, by simp⟩
   ·by_cases h2 : i < H.length
    ·exact .inl ⟨h2, h1⟩
    ·exact .inr ⟨i - H.length + 1, by simp only [frN]; omega, by simp; omega⟩
  have frInj : ∀ k k', frN id H.length k = frN id H.length k' → k = k' := fun k k' h => by
   cases k <;> cases k' <;> simp only [frN] at h <;> omega
  have step : Step C τ H w C1 τ2 (H.set id o1' ++ G') w' := by
   refine ⟨hstep.le, hstep.cell, fun j x hx => ?_, hstep.grow, hstep.old⟩
   have hj := (List.getElem?_eq_some_iff.1 hx).1
   by_cases e1 : j = id
   ·subst e1
    rw [ho] at hx; cases hx
    obtain ⟨o', h1, h2⟩ := hstep.obj 0 o rfl
    simp at h1; subst h1
    refine ⟨o1', gid, ?_⟩
    rw [t0]
    have : τ0 0 = τ j := by simp only [τ0, if_true]
    rw [this] at h2
    exact hro.after h2
   ·exact ⟨x, by rw [gO j hj e1]; exact hx, by rw [tO j hj e1]; exact x.after_refl _⟩
  have ren : ∀ {a b : AVal}, Ren (frN id H.length) a b → ∀ {u : Value}, Rel C1 w' τ1 (o1 :: G) a u → Rel C1 w' τ2 (H.set id o1' ++ G') b u := by
   intro a b hab
   induction hab with
   | closed v h => intro u hu; exact hu.closed h (fun _ => Nat.le_refl _) (fun _ _ _ => rfl)
   | sl k ep off len =>
    intro u hu
    cases hu with
    | rd h => cases h
    | sl _ _ _ _ a cap esz es ho2 hep h3 =>
     obtain ⟨y, hy, hry⟩ := gF k _ ho2
     cases hry with
     | same _ _ => exact .sl _ ep off len a cap esz es hy hep fun e => by rw [tF]; exact h3 e
     | arr _ _ es1 hl1 _ _ => exact .sl _ ep off len a cap esz es1 hy (by omega) fun e => by rw [tF, hl1]; exact h3 (by omega)
   | ptr k ep idx fld =>
    intro u hu
    cases hu with
    | rd h => cases h
    | ptr _ _ _ _ a esz es ho2 hep h3 =>
     obtain ⟨y, hy, hry⟩ := gF k _ ho2
     cases hry with
     | same _ _ => exact .ptr _ ep idx fld a esz es hy hep fun e => by rw [tF]; exact h3 e
     | arr _ _ es1 hl1 _ _ => exact .ptr _ ep idx fld a esz es1 hy (by omega) fun e => by rw [tF]; exact h3 (by omega)
   | agg vs rs hl h ih =>
    intro u hu
    obtain ⟨us, rfl, hl2, hr2⟩ := hu.agg_inv
    refine .agg _ _ (by omega) fun i c v hc hv => ?_
    have hi := (List.getElem?_eq_some_iff.1 hc).1
    have hvi : vs[i]? = some vs[i] := List.getElem?_eq_getElem (by omega)
    exact ih i _ c hvi hc (hr2 i _ v hvi hv)
   | tuple vs rs hl h ih =>
    intro u hu
    obtain ⟨us, rfl, hl2, hr2⟩ := hu.tuple_inv
    refine .tuple _ _ (by omega) fun i c v hc hv => ?_
    have hi := (List.getElem?_eq_some_iff.1 hc).1
    have hvi : vs[i]? = some vs[i] := List.getElem?_eq_getElem (by omega)
    exact ih i _ c hvi hc (hr2 i _ v hvi hv)
  have hgetF : ∀ k, k < (o1 :: G).length → ∃ x, (o1 :: G)[k]? = some x := fun k hk => ⟨_, List.getElem?_eq_getElem hk⟩
  refine ⟨v, r', C1, τ2, H.set id o1' ++ G', he, hQ, ren hrr hrel, ⟨⟨fun i x hx => ?_, fun i x hx ht => ?_, fun i x l hx ht => ?_, fun i l hi ht => ?_, fun i j li lj hi hj hti htj hb => ?_, hst.wf.lt⟩,
   ⟨hst.fr.os, hst.fr.tape, hst.fr.output, hst.fr.size, fun b hb => hst.fr.prot b ⟨hb.1, ?_⟩, hst.fr.drawn⟩, ?_, fun b hb => hb.1⟩, step⟩
  ·rcases split i (List.getElem?_eq_some_iff.1 hx).1 with ⟨h1, h2⟩ | ⟨k, rfl, hk⟩
   ·rw [gO i h1 h2] at hx; exact hw.ok i x hx
   ·obtain ⟨z, hz⟩ := hgetF k hk
    obtain ⟨y, hy, hry⟩ := gF k z hz
    rw [hx] at hy; cases hy
    exact hry.ok (hst.wf.ok k z hz)
  ·rcases split i (List.getElem?_eq_some_iff.1 hx).1 with ⟨h1, h2⟩ | ⟨k, rfl, hk⟩
   ·rw [gO i h1 h2] at hx; rw [tO i h1 h2] at ht; exact hw.virt i x hx ht
   ·obtain ⟨z, hz⟩ := hgetF k hk
    obtain ⟨y, hy, hry⟩ := gF k z hz
    rw [hx] at hy; cases hy
    rw [tF] at ht
    obtain ⟨esz, rfl⟩ := hst.wf.virt k z hz ht
    cases hry with
    | same _ _ => exact ⟨esz, rfl⟩
    | arr _ _ es1 hl1 _ _ =>
     have : es1 = [] := List.length_eq_zero_iff.1 hl1
     subst this; exact ⟨esz, rfl⟩
  ·rcases split i (List.getElem?_eq_some_iff.1 hx).1 with ⟨h1, h2⟩ | ⟨k, rfl, hk⟩
   ·rw [gO i h1 h2] at hx; rw [tO i h1 h2] at ht
    exact (hw.objs i x l hx ht).mono step (hheap i l h1 h2 ht)
   ·obtain ⟨z, hz⟩ := hgetF k hk
    obtain ⟨y, hy, hry⟩ := gF k z hz
    rw [hx] at hy; cases hy
    rw [tF] at ht
    have hob := hst.wf.objs k z l hz ht
    cases hry with
    | same _ hpz =>
     cases x with
     | iter s p => exact hob
     | map kvs =>
      obtain ⟨es, clock, a1, a2, a3⟩ := hob
      exact ⟨es, clock, a1, a2, fun i e kv he hkv => ⟨(a3 i e kv he hkv).1, .rd ((a3 i e kv he hkv).2.pure (pureKvs_get hpz hkv))⟩⟩
     | arr esz es =>
      obtain ⟨a1, cells, elem, fz, a2, a3, a4, a5⟩ := hob
      refine ⟨a1, cells, elem, fz, a2, a3, a4, fun i j e d hi hd => ?_⟩
      obtain ⟨x, hx1, hx2⟩ := a5 i j e d hi hd
      exact ⟨x, hx1, .rd (hx2.pure (pureEs_get hpz hi hd))⟩
    | arr esz es es1 hl1 hl2 hp2 =>
     obtain ⟨a1, cells, elem, fz, a2, a3, a4, a5⟩ := hob
     refine ⟨by omega, cells, elem, fz, a2, a3, a4, fun i j e1 d1 hi hd => ?_⟩
     have hil := (List.getElem?_eq_some_iff.1 hi).1
     have hjl := (List.getElem?_eq_some_iff.1 hd).1
     have he : es[i]? = some es[i] := List.getElem?_eq_getElem (by omega)
     have hl3 := hl2 i _ _ he hi
     have hd0 : es[i][j]? = some es[i][j] := List.getElem?_eq_getElem (by omega)
     obtain ⟨x, hx1, hx2⟩ := a5 i j _ _ he hd0
     exact ⟨x, hx1, ren (hp2 i j _ _ _ d1 he hi hd0 hd).1 hx2⟩
  ·rcases split i hi with ⟨h1, h2⟩ | ⟨k, rfl, hk⟩
   ·rw [tO i h1 h2] at ht
    rw [hstep.old _ (hw.locLt h1 ht)]; exact hw.comm i l h1 ht
   ·rw [tF] at ht; exact hst.wf.comm k l hk ht
  ·rcases split i hi with ⟨h1, h2⟩ | ⟨k, rfl, hk⟩ <;> rcases split j hj with ⟨h3, h4⟩ | ⟨k', rfl, hk'⟩
   ·rw [tO i h1 h2] at hti; rw [tO j h3 h4] at htj; exact hw.inj i j li lj h1 h3 hti htj hb
   ·rw [tO i h1 h2] at hti; rw [tF] at htj
    exact absurd (hb ▸ hoth i li h1 h2 hti) (hst.own _ ⟨k', lj, hk', htj, rfl⟩)
   ·rw [tF] at hti; rw [tO j h3 h4] at htj
    exact absurd (hb ▸ hoth j lj h3 h4 htj) (hst.own _ ⟨k, li, hk, hti, rfl⟩)
   ·rw [tF] at hti htj
    rw [hst.wf.inj k k' li lj hk hk' hti htj hb]
  ·rintro ⟨k, l, hk, ht, hb2⟩
   have hk0 : k = 0 := by simp at hk; omega
   subst hk0
   exact hb.2 ⟨id, l, hid, ht, hb2⟩
  ·rintro b ⟨i, l, hi, ht, rfl⟩ hp2
   rcases split i hi with ⟨h1, h2⟩ | ⟨k, rfl, hk⟩
   ·rw [tO i h1 h2] at ht; exact hp2.2 ⟨i, l, h1, ht, rfl⟩
   ·rw [tF] at ht
    refine hst.own _ ⟨k, l, hk, ht, rfl⟩ ⟨hp2.1, ?_⟩
    rintro ⟨k2, l2, hk2, ht2, hb2⟩
    have hk0 : k2 = 0 := by simp at hk2; omega
    subst hk0
    exact hp2.2 ⟨id, l2, hid, ht2, hb2⟩
 unfold CallsX at hc ⊢
 split at hc
 ·exact Calls.mono hc fun e w' hh => fin e w' hh
 ·exact fin _ _ hc
 ·exact hc
def FrArgs (id : Nat) : List AVal → List AVal → Prop
 | [], [] => True
 | a :: asv, b :: bs => ((a = b ∧ a.closed = true) ∨ (∃ ep idx fld, a = .ptr 0 ep idx fld ∧ b = .ptr id ep idx fld) ∨ ∃ ep off len, a = .sl 0 ep off len ∧ b = .sl id ep off len) ∧ FrArgs id asv bs
 | _, _ => False
theorem FrArgs.get {id : Nat} : ∀ {asv bs : List AVal}, FrArgs id asv bs → asv.length = bs.length ∧ ∀ (i : Nat) (a b : AVal), asv[i]? = some a → bs[i]? = some b → (a = b ∧ a.closed = true) ∨ (∃ ep idx fld, a = .ptr 0 ep idx fld ∧ b = .ptr id ep idx fld) ∨ ∃ ep off len, a = .sl 0 ep off len ∧ b = .sl id ep off len
 | [], [], _ => ⟨rfl, fun i a b h => by simp at h⟩
 | a :: asv, b :: bs, h => by
  obtain ⟨h1, h2⟩ := FrArgs.get h.2
  refine ⟨by simp [h1], fun i x y hx hy => ?_⟩
  cases i with
  | zero => simp at hx hy; subst hx hy; exact h.1
  | succ i => exact h2 i x y (by simpa using hx) (by simpa using hy)
 | [], _ :: _, h => h.elim
 | _ :: _, [], h => h.elim
theorem FrArgs.cl {id : Nat} {a : AVal} {asv bs : List AVal} (h : a.closed = true) (hs : FrArgs id asv bs) : FrArgs id (a :: asv) (a :: bs) := ⟨.inl ⟨rfl, h⟩, hs⟩
theorem FrArgs.pt {id : Nat} {ep idx fld : Nat} {asv bs : List AVal} (hs : FrArgs id asv bs) : FrArgs id (.ptr 0 ep idx fld :: asv) (.ptr id ep idx fld :: bs) := ⟨.inr (.inl ⟨_, _, _, rfl, rfl⟩), hs⟩
theorem ACalls.fr {f : FuncId} {args0 args : List AVal} {id : Nat} {o o1 : AObj} {R : AVal} (h : ACalls P f args0 [o] (fun r H' => r = R ∧ H' = [o1])) (ho : H[id]? = some o)
  (hp : o.clean = true) (hp1 : o1.clean = true) (ha : FrArgs id args0 args) (hR : Ren (frN id H.length) R R) : ACalls P f args H (fun r H' => r = R ∧ H' = H.set id o1) := by
 obtain ⟨hl, ha⟩ := ha.get
 refine ACalls.frame1 ho hp hl ha h ?_
 rintro r H1 ⟨rfl, rfl⟩
 exact ⟨_, o1, o1, [], [], rfl, hR, .same _ hp1, rfl, fun k x y h => by simp at h, rfl, by simp⟩
theorem ACalls.frG {f : FuncId} {args0 args : List AVal} {id : Nat} {o o1 : AObj} {R R' : AVal} {G : List AObj} (h : ACalls P f args0 [o] (fun r H' => r = R ∧ H' = o1 :: G)) (ho : H[id]? = some o)
  (hp : o.clean = true) (hp1 : o1.clean = true) (hG : ∀ x ∈ G, x.clean = true) (ha : FrArgs id args0 args) (hR : Ren (frN id H.length) R R') : ACalls P f args H (fun r H' => r = R' ∧ H' = H.set id o1 ++ G) := by
 obtain ⟨hl, ha⟩ := ha.get
 refine ACalls.frame1 ho hp hl ha h ?_
 rintro r H1 ⟨rfl, rfl⟩
 exact ⟨_, o1, o1, G, G, rfl, hR, .same _ hp1, rfl, fun k x y h1 h2 => by rw [h1] at h2; cases h2; exact .same _ (hG x (List.mem_of_getElem? h1)), rfl, rfl⟩
end
theorem Gp.keepL {n0 : List Nat} {n : Nat} {live : List (Nat × AVal)} {ρ : List AVal} {H H1 : List AObj} {I : List AVal → List AObj → Prop} (ids : List Nat) (hnd : ids.Nodup) (hb : keepB n0 ids H) (ho : gpO H ids ids H1) (hl : ρ.length = n) (h : SvPub H ids ρ live)
  (hI : ∀ ρ1, Sv n live ρ1 → I ρ1 H1) : Gp n0 ρ H I :=
 .inr ⟨ids, mkSl n n live fun _ => .undef, H1, hnd, hb, ho, mkSl_pub n n live ρ ρ (Nat.le_refl _) (fun k => by rw [Nat.sub_self, Nat.zero_add]) hl h, hI _ ⟨_, rfl⟩⟩
theorem keepB_one {a : Nat} {ids : List Nat} {H : List AObj} {o : AObj} (h1 : ids[0]? = some 0) (h2 : H[0]? = some o) (h3 : o.olen = a) : keepB [a] ids H := fun k n hk => by
 cases k with
 | zero => simp at hk; subst hk; exact ⟨h1, o, h2, h3⟩
 | succ k => simp at hk
theorem Gp.res {n0 : List Nat} {r r' : AVal} {H H1 : List AObj} {I : List AVal → List AObj → Prop} (ids : List Nat) (hnd : ids.Nodup) (hb : keepB n0 ids H) (ho : gpO H ids ids H1) (hp : Pub H 0 ids r r') (hI : I [r'] H1) : Gp n0 [r] H I :=
 .inr ⟨ids, [r'], H1, hnd, hb, ho, ⟨hp, trivial⟩, hI⟩
theorem ACalls.gpI {P : Program} {f : FuncId} {args : List AVal} {H H1 H2 : List AObj} {R R' : AVal} (h : ACalls P f args H (fun r H' => r = R ∧ H' = H1)) (ids : List Nat) (hnd : ids.Nodup) (hb : keepB (H.map AObj.olen) ids H1) (ho : gpO H1 ids ids H2) (hp : Pub H1 0 ids R R') :
  ACalls P f args H (fun r H' => r = R' ∧ H' = H2) := by
 refine h.gp ?_
 rintro r H' ⟨rfl, rfl⟩
 exact .inr ⟨ids, [R'], H2, hnd, hb, ho, ⟨hp, trivial⟩, R', rfl, rfl, rfl⟩
attribute [local irreducible] ACalls
structure RdS where
 rest : List Int
 bad : Bool
def tkB (n : Int) (s : RdS) : Bool := !s.bad && decide (n ≤ s.rest.length)
def tkL (n : Int) (s : RdS) : List Int := if tkB n s then s.rest.take n.toNat else []
def tkS (n : Int) (s : RdS) : RdS := if tkB n s then ⟨s.rest.drop n.toNat, false⟩ else ⟨s.rest, true⟩
def nbV (n : Int) (s : RdS) : Int := num (tkL n s)
def txS (s : RdS) : RdS := tkS (nbV 1 s) (tkS 1 s)
def f0 : Fil := ⟨bs [], bs [], []⟩
def dS (l : List Int) : RdS := ⟨l.take (l.length - 4), false⟩
theorem keepB_hd {a : Nat} {o : AObj} {G : List AObj} (h3 : o.olen = a) : keepB [a] [0] (o :: G) := keepB_one rfl rfl h3
def z1 (l : List Int) : RdS := tkS 4 (dS l)
def z2 (l : List Int) : RdS := txS (z1 l)
def z3 (l : List Int) : RdS := txS (z2 l)
def z4 (l : List Int) : RdS := tkS 2 (z3 l)
theorem ob3 {H : List AObj} {ids : List Nat} {a b : ByteArray} {c c1 : AVal} (h : Pub H 0 ids c c1) (hc : c1.isCell = true) : ObP H ids (.arr 3 [[.str a, .str b, c]]) (.arr 3 [[.str a, .str b, c1]]) := by
 refine .map 3 _ _ rfl (fun i e e1 h1 h2 => ?_) (fun i j e e1 d d1 h1 h2 h3 h4 => ?_)
 ·rcases i with _ | i
  ·cases h1; cases h2; rfl
  ·simp at h1
 ·rcases i with _ | i
  ·cases h1; cases h2
   rcases j with _ | _ | _ | j
   ·cases h3; cases h4; exact ⟨.closed _ rfl, rfl⟩
   ·cases h3; cases h4; exact ⟨.closed _ rfl, rfl⟩
   ·cases h3; cases h4; exact ⟨h, hc⟩
   ·simp at h3
  ·simp at h1
theorem pubFI {H1 : List AObj} {n : Nat} {ids : List Nat} {id ep len sz : Nat} {es : List (List AVal)} (hid : id ∉ ids) (ho : H1[id]? = some (.arr sz es)) (he : ep = es.length) (hl : len = es.length) (hp : pureEs es = true) : Pub H1 n ids (.sl id ep 0 len) (.list false sz es) := by
 subst hl he
 have := Pub.frz (n := n) (ids := ids) id es.length 0 es.length sz es ho rfl hp hid
 rwa [List.drop_zero, List.take_length] at this
theorem place_eq (x k : Int) (hk : 1 ≤ k) (hk2 : k ≤ 1000000) : (IntKind.i64.wrap (x.tmod k + k)).tmod k = x % k := by
 have h1 := Int.tmod_lt_of_pos x (show 0 < k by omega)
 have h2 := Int.lt_tmod_of_pos x (show 0 < k by omega)
 rw [wrapI _ (by omega) (by omega), Int.tmod_eq_emod_of_nonneg (by omega), Int.add_emod_right, Int.tmod_def, Int.sub_mul_emod_self_left]
theorem Place_spec {P : Program} (F : F_z3y P) (x k : Int) (hk : 1 ≤ k) (hk2 : k ≤ 1000000) (H : List AObj) :
  ACalls P F.id [.int .i64 x, .int .i64 k] H (fun r H' => r = .int .i64 (x % k) ∧ H' = H) := by
 refine ACalls.pure rfl (acalls_of_body F.has ?_)
 (conv => whnf); refine recF (by simp; omega) ?_
 (conv => whnf); refine And.intro (by omega) ?_
 (conv => whnf); refine And.intro (by omega) ?_
 conv => whnf
 exact pub_int (place_eq x k hk hk2)
end Go.AW
namespace Go.AW
def c_z13 : AFunc := ⟨25,[.tmp 2],(.seq (.region [ iD 2 (.move (cI 0))]) (.seq (.seq (.region [ iM 3 0,iD 4 (.bin .geq (.t 3) (.c (.int .u64 4294967296)))]) (.cond (.t 4) (.seq (.region [ iM 5 0,iD 6 (.bin .shr (.t 5) (.c (.int .u64 32))),iM 0 6]) (.region [ iD 2 (.move (cI 32))])) .skip)) (.seq (.seq (.region [ iM 7 0,iD 8 (.bin .geq (.t 7) (.c (.int .u64 65536)))]) (.cond (.t 8) (.seq (.region [ iM 9 0,iD 10 (.bin .shr (.t 9) (.c (.int .u64 16))),iM 0 10]) (.region [ iM 11 2,iD 12 (.bin .add (.t 11) (cI 16)),iM 2 12])) .skip)) (.seq (.seq (.region [ iM 13 0,iD 14 (.bin .geq (.t 13) (.c (.int .u64 256)))]) (.cond (.t 14) (.seq (.region [ iM 15 0,iD 16 (.bin .shr (.t 15) (.c (.int .u64 8))),iM 0 16]) (.region [ iM 17 2,iD 18 (.bin .add (.t 17) (cI 8)),iM 2 18])) .skip)) (.seq (.region [ iM 19 2,iM 20 0,iD 21 (.conv .u8 (.t 20)),iD 22 (.indexStr (.c (.str (bs [0,1,2,2,3,3,3,3,4,4,4,4,4,4,4,4,5,5,5,5,5,5,5,5,5,5,5,5,5,5,5,5,6,6,6,6,6,6,6,6,6,6,6,6,6,6,6,6,6,6,6,6,6,6,6,6,6,6,6,6,6,6,6,6,7,7,7,7,7,7,7,7,7,7,7,7,7,7,7,7,7,7,7,7,7,7,7,7,7,7,7,7,7,7,7,7,7,7,7,7,7,7,7,7,7,7,7,7,7,7,7,7,7,7,7,7,7,7,7,7,7,7,7,7,7,7,7,7,8,8,8,8,8,8,8,8,8,8,8,8,8,8,8,8,8,8,8,8,8,8,8,8,8,8,8,8,8,8,8,8,8,8,8,8,8,8,8,8,8,8,8,8,8,8,8,8,8,8,8,8,8,8,8,8,8,8,8,8,8,8,8,8,8,8,8,8,8,8,8,8,8,8,8,8,8,8,8,8,8,8,8,8,8,8,8,8,8,8,8,8,8,8,8,8,8,8,8,8,8,8,8,8,8,8,8,8,8,8,8,8,8,8,8,8,8,8,8,8,8,8,8,8,8,8,8,8]))) (.t 21)),iD 23 (.conv .i64 (.t 22)),iD 24 (.bin .add (.t 19) (.t 23)),iM 2 24]) .ret)))))⟩
structure F_z13 (P : Program) where
 id : FuncId
 has : Has P id [] c_z13
def c_z12 (f_math_bits_Len32 : FuncId) (f_z13 : FuncId) : AFunc := ⟨8,[.tmp 2],(.seq (.region [ iD 2 (.move (cI 0))]) (.seq (.cond (.c (.bool false)) (.seq (.region [ iM 3 0,iD 4 (.conv .u32 (.t 3)),iD 5 (.call f_math_bits_Len32 [(.t 4)]),iM 2 5]) .ret) .skip) (.seq (.region [ iM 6 0,iD 7 (.call f_z13 [(.t 6)]),iM 2 7]) .ret)))⟩
structure F_z12 (P : Program) where
 id : FuncId
 math_bits_Len32 : RawF
 z13 : F_z13 P
 has : Has P id [] (c_z12 math_bits_Len32.id z13.id)
def c_z1p : AFunc := ⟨53,[],(.seq (.region [ iM 10 1,iD 11 (.bin .add (.t 10) (cI 1)),iM 8 11]) (.block 0 (.loop (.seq (.seq (.region [ iM 12 8,iM 13 2,iD 14 (.bin .lss (.t 12) (.t 13))]) (.cond (.t 14) .skip (.exit 0))) (.seq (.block 1 (.seq (.region [ iM 17 8,iM 9 17]) (.block 2 (.loop (.seq (.seq (.draw [ jM 18 9,jM 19 1,jD 20 (.bin .gtr (.t 18) (.t 19)),jM 21 20,(⟨(some 22),.move (.t 3),some (some 21,true)⟩,[]),(⟨(some 23),.move (.t 0),some (some 21,true)⟩,[]),(⟨(some 24),.move (.t 9),some (some 21,true)⟩,[]),(⟨(some 25),.indexAddr 2 (.t 23) (.t 24),some (some 21,true)⟩,[]),(⟨(some 26),.load true 2 (.t 25),some (some 21,true)⟩,[]),(⟨(some 27),.move (.t 0),some (some 21,true)⟩,[]),(⟨(some 28),.move (.t 9),some (some 21,true)⟩,[]),(⟨(some 29),.bin .sub (.t 28) (cI 1),some (some 21,true)⟩,[]),(⟨(some 30),.indexAddr 2 (.t 27) (.t 29),some (some 21,true)⟩,[]),(⟨(some 31),.load true 2 (.t 30),some (some 21,true)⟩,[]),(⟨(some 32),.callv (.t 22) [(.t 26),(.t 31)],some (some 21,true)⟩,[]),(⟨(some 33),.bin .lss (.t 32) (cI 0),some (some 21,true)⟩,[]),jD 34 (.pick (.t 21) (.t 33) (.c (.bool false)))]) (.cond (.t 34) .skip (.exit 2))) (.seq (.block 3 (.draw [ jM 37 0,jM 38 9,jM 39 0,jM 40 9,jD 41 (.bin .sub (.t 40) (cI 1)),jM 42 0,jM 43 9,jD 44 (.bin .sub (.t 43) (cI 1)),jD 45 (.indexAddr 2 (.t 42) (.t 44)),jD 46 (.load true 2 (.t 45)),jM 47 0,jM 48 9,jD 49 (.indexAddr 2 (.t 47) (.t 48)),jD 50 (.load true 2 (.t 49)),jD 51 (.indexAddr 2 (.t 37) (.t 38)),(iN (.store 2 (.t 51) (.t 46)),[]),jD 52 (.indexAddr 2 (.t 39) (.t 41)),(iN (.store 2 (.t 52) (.t 50)),[])])) (.region [ iM 35 9,iD 36 (.bin .sub (.t 35) (cI 1)),iM 9 36]))))))) (.region [ iM 15 8,iD 16 (.bin .add (.t 15) (cI 1)),iM 8 16]))))))⟩
structure F_z1p (P : Program) where
 id : FuncId
 has : Has P id [] c_z1p
def c_z1r (f_z1p : FuncId) (f_slices_heapSortCmpFunc_Entry : FuncId) (f_slices_breakPatternsCmpFunc_Entry : FuncId) (f_slices_choosePivotCmpFunc_Entry : FuncId) (f_slices_reverseRangeCmpFunc_Entry : FuncId) (f_slices_partialInsertionSortCmpFunc_Entry : FuncId) (f_slices_partitionEqualCmpFunc_Entry : FuncId) (f_slices_partitionCmpFunc_Entry : FuncId) (f_z1r : FuncId) : AFunc := ⟨148,[],(.seq (.region [ iD 10 (.move (.c (.bool true)))]) (.seq (.region [ iD 11 (.move (.c (.bool true)))]) (.block 0 (.loop (.block 1 (.seq (.region [ iM 21 2,iM 22 1,iD 23 (.bin .sub (.t 21) (.t 22)),iM 12 23]) (.seq (.seq (.region [ iM 24 12,iD 25 (.bin .leq (.t 24) (cI 12))]) (.cond (.t 25) (.seq (.region [ iM 26 0,iM 27 1,iM 28 2,iM 29 4,iD 30 (.call f_z1p [(.t 26),(.t 27),(.t 28),(.t 29)])]) .ret) .skip)) (.seq (.seq (.region [ iM 31 3,iD 32 (.bin .eql (.t 31) (cI 0))]) (.cond (.t 32) (.seq (.region [ iM 33 0,iM 34 1,iM 35 2,iM 36 4,iD 37 (.call f_slices_heapSortCmpFunc_Entry [(.t 33),(.t 34),(.t 35),(.t 36)])]) .ret) .skip)) (.seq (.seq (.region [ iM 38 10,iD 39 (.un .not (.t 38))]) (.cond (.t 39) (.seq (.region [ iM 40 0,iM 41 1,iM 42 2,iM 43 4,iD 44 (.call f_slices_breakPatternsCmpFunc_Entry [(.t 40),(.t 41),(.t 42),(.t 43)])]) (.region [ iM 45 3,iD 46 (.bin .sub (.t 45) (cI 1)),iM 3 46])) .skip)) (.seq (.region [ iM 48 0,iM 49 1,iM 50 2,iM 51 4,iD 52 (.call f_slices_choosePivotCmpFunc_Entry [(.t 48),(.t 49),(.t 50),(.t 51)]),iM 47 52,iD 53 (.extract (.t 47) 0),iD 54 (.extract (.t 47) 1),iM 13 53,iM 14 54]) (.seq (.seq (.region [ iM 55 14,iD 56 (.bin .eql (.t 55) (cI 2))]) (.cond (.t 56) (.seq (.region [ iM 57 0,iM 58 1,iM 59 2,iM 60 4,iD 61 (.call f_slices_reverseRangeCmpFunc_Entry [(.t 57),(.t 58),(.t 59),(.t 60)])]) (.seq (.region [ iM 62 2,iD 63 (.bin .sub (.t 62) (cI 1)),iM 64 13,iM 65 1,iD 66 (.bin .sub (.t 64) (.t 65)),iD 67 (.bin .sub (.t 63) (.t 66)),iM 13 67]) (.region [ iD 14 (.move (cI 1))]))) .skip)) (.seq (.seq (.region [ iM 68 10,iM 69 68,⟨(some 70),.move (.t 11),some (some 69,true)⟩,iD 71 (.pick (.t 69) (.t 70) (.c (.bool false))),iM 72 71,⟨(some 73),.move (.t 14),some (some 72,true)⟩,⟨(some 74),.bin .eql (.t 73) (cI 1),some (some 72,true)⟩,iD 75 (.pick (.t 72) (.t 74) (.c (.bool false)))]) (.cond (.t 75) (.seq (.region [ iM 76 0,iM 77 1,iM 78 2,iM 79 4,iD 80 (.call f_slices_partialInsertionSortCmpFunc_Entry [(.t 76),(.t 77),(.t 78),(.t 79)])]) (.cond (.t 80) .ret .skip)) .skip)) (.seq (.seq (.draw [ jM 81 1,jD 82 (.bin .gtr (.t 81) (cI 0)),jM 83 82,(⟨(some 84),.move (.t 4),some (some 83,true)⟩,[]),(⟨(some 85),.move (.t 0),some (some 83,true)⟩,[]),(⟨(some 86),.move (.t 1),some (some 83,true)⟩,[]),(⟨(some 87),.bin .sub (.t 86) (cI 1),some (some 83,true)⟩,[]),(⟨(some 88),.indexAddr 2 (.t 85) (.t 87),some (some 83,true)⟩,[]),(⟨(some 89),.load true 2 (.t 88),some (some 83,true)⟩,[]),(⟨(some 90),.move (.t 0),some (some 83,true)⟩,[]),(⟨(some 91),.move (.t 13),some (some 83,true)⟩,[]),(⟨(some 92),.indexAddr 2 (.t 90) (.t 91),some (some 83,true)⟩,[]),(⟨(some 93),.load true 2 (.t 92),some (some 83,true)⟩,[]),(⟨(some 94),.callv (.t 84) [(.t 89),(.t 93)],some (some 83,true)⟩,[]),(⟨(some 95),.bin .lss (.t 94) (cI 0),some (some 83,true)⟩,[]),(⟨(some 96),.un .not (.t 95),some (some 83,true)⟩,[]),jD 97 (.pick (.t 83) (.t 96) (.c (.bool false)))]) (.cond (.t 97) (.seq (.region [ iM 98 0,iM 99 1,iM 100 2,iM 101 13,iM 102 4,iD 103 (.call f_slices_partitionEqualCmpFunc_Entry [(.t 98),(.t 99),(.t 100),(.t 101),(.t 102)]),iM 15 103]) (.seq (.region [ iM 104 15,iM 1 104]) (.exit 1))) .skip)) (.seq (.region [ iM 106 0,iM 107 1,iM 108 2,iM 109 13,iM 110 4,iD 111 (.call f_slices_partitionCmpFunc_Entry [(.t 106),(.t 107),(.t 108),(.t 109),(.t 110)]),iM 105 111,iD 112 (.extract (.t 105) 0),iD 113 (.extract (.t 105) 1),iM 16 112,iM 17 113]) (.seq (.region [ iM 114 17,iM 11 114]) (.seq (.region [ iM 115 16,iM 116 1,iD 117 (.bin .sub (.t 115) (.t 116)),iM 118 2,iM 119 16,iD 120 (.bin .sub (.t 118) (.t 119)),iM 18 117,iM 19 120]) (.seq (.region [ iM 121 12,iD 122 (.bin .quo (.t 121) (cI 8)),iM 20 122]) (.seq (.region [ iM 123 18,iM 124 19,iD 125 (.bin .lss (.t 123) (.t 124))]) (.cond (.t 125) (.seq (.region [ iM 126 18,iM 127 20,iD 128 (.bin .geq (.t 126) (.t 127)),iM 10 128]) (.seq (.region [ iM 129 0,iM 130 1,iM 131 16,iM 132 3,iM 133 4,iD 134 (.call f_z1r [(.t 129),(.t 130),(.t 131),(.t 132),(.t 133)])]) (.region [ iM 135 16,iD 136 (.bin .add (.t 135) (cI 1)),iM 1 136]))) (.seq (.region [ iM 137 19,iM 138 20,iD 139 (.bin .geq (.t 137) (.t 138)),iM 10 139]) (.seq (.region [ iM 140 0,iM 141 16,iD 142 (.bin .add (.t 141) (cI 1)),iM 143 2,iM 144 3,iM 145 4,iD 146 (.call f_z1r [(.t 140),(.t 142),(.t 143),(.t 144),(.t 145)])]) (.region [ iM 147 16,iM 2 147]))))))))))))))))))))))⟩
structure F_z1r (P : Program) where
 id : FuncId
 z1p : F_z1p P
 slices_heapSortCmpFunc_Entry : RawF
 slices_breakPatternsCmpFunc_Entry : RawF
 slices_choosePivotCmpFunc_Entry : RawF
 slices_reverseRangeCmpFunc_Entry : RawF
 slices_partialInsertionSortCmpFunc_Entry : RawF
 slices_partitionEqualCmpFunc_Entry : RawF
 slices_partitionCmpFunc_Entry : RawF
 has : Has P id [] (c_z1r z1p.id slices_heapSortCmpFunc_Entry.id slices_breakPatternsCmpFunc_Entry.id slices_choosePivotCmpFunc_Entry.id slices_reverseRangeCmpFunc_Entry.id slices_partialInsertionSortCmpFunc_Entry.id slices_partitionEqualCmpFunc_Entry.id slices_partitionCmpFunc_Entry.id id)
def c_z1m (f_z12 : FuncId) (f_z1r : FuncId) : AFunc := ⟨14,[],(.seq (.region [ iM 5 0,iD 6 (.len (.t 5)),iM 4 6]) (.region [ iM 7 0,iM 8 4,iM 9 4,iD 10 (.conv .u64 (.t 9)),iD 11 (.call f_z12 [(.t 10)]),iM 12 1,iD 13 (.call f_z1r [(.t 7),(cI 0),(.t 8),(.t 11),(.t 12)])]))⟩
structure F_z1m (P : Program) where
 id : FuncId
 z12 : F_z12 P
 z1r : F_z1r P
 has : Has P id [] (c_z1m z12.id z1r.id)
def c_z06 (f_z22 : FuncId) : AFunc := ⟨10,[.tmp 4],(.seq (.region [ iD 2 (.box (.t 0)),iD 3 (.box (.t 1)),iD 4 (.move (cI 0))]) (.seq (.region [ iD 5 (.fieldAddr 0 (.t 2)),iD 6 (.load false 1 (.t 5)),iD 7 (.fieldAddr 0 (.t 3)),iD 8 (.load false 1 (.t 7)),iD 9 (.call f_z22 [(.t 6),(.t 8)]),iM 4 9]) .ret))⟩
structure F_z06 (P : Program) where
 id : FuncId
 z22 : F_z22 P
 has : Has P id [] (c_z06 z22.id)
def c_z05 (f_z1d : FuncId) (f_z1m : FuncId) (f_z06 : FuncId) (f_z22 : FuncId) (f_z04 : FuncId) (f_z02 : FuncId) : AFunc := ⟨66,[.tmp 2,.tmp 3],(.seq (.region [ iD 2 (.move (.c .nil)),iD 3 (.move (cI 0))]) (.seq (.region [ iM 9 0,iD 10 (.call f_z1d [(.t 9)]),iM 0 10]) (.seq (.region [ iM 11 0,iD 12 (.call f_z1m [(.t 11),(.c (.fn f_z06 []))])]) (.seq (.region [ iD 4 (.move (.c .nil))]) (.seq (.region [ iD 5 (.move (.c (.bool true)))]) (.seq (.seq (.region [ iD 6 (.move (cI 0))]) (.block 0 (.loop (.seq (.seq (.region [ iM 13 6,iM 14 0,iD 15 (.len (.t 14)),iD 16 (.bin .lss (.t 13) (.t 15)),iM 17 16,⟨(some 18),.move (.t 5),some (some 17,true)⟩,iD 19 (.pick (.t 17) (.t 18) (.c (.bool false)))]) (.cond (.t 19) .skip (.exit 0))) (.block 1 (.seq (.region [ iM 20 6,iD 7 (.move (cI 0)),iM 8 20]) (.seq (.block 2 (.loop (.seq (.seq (.draw [ jM 21 8,jM 22 0,jD 23 (.len (.t 22)),jD 24 (.bin .lss (.t 21) (.t 23)),jM 25 24,(⟨(some 26),.move (.t 0),some (some 25,true)⟩,[]),(⟨(some 27),.move (.t 6),some (some 25,true)⟩,[]),(⟨(some 28),.indexAddr 2 (.t 26) (.t 27),some (some 25,true)⟩,[]),(⟨(some 29),.fieldAddr 0 (.t 28),some (some 25,true)⟩,[]),(⟨(some 30),.load false 1 (.t 29),some (some 25,true)⟩,[]),(⟨(some 31),.move (.t 0),some (some 25,true)⟩,[]),(⟨(some 32),.move (.t 8),some (some 25,true)⟩,[]),(⟨(some 33),.indexAddr 2 (.t 31) (.t 32),some (some 25,true)⟩,[]),(⟨(some 34),.fieldAddr 0 (.t 33),some (some 25,true)⟩,[]),(⟨(some 35),.load false 1 (.t 34),some (some 25,true)⟩,[]),(⟨(some 36),.call f_z22 [(.t 30),(.t 35)],some (some 25,true)⟩,[]),(⟨(some 37),.bin .eql (.t 36) (cI 0),some (some 25,true)⟩,[]),jD 38 (.pick (.t 25) (.t 37) (.c (.bool false)))]) (.cond (.t 38) .skip (.exit 2))) (.seq (.block 3 (.region [ iM 41 7,iM 42 0,iM 43 8,iD 44 (.indexAddr 2 (.t 42) (.t 43)),iD 45 (.fieldAddr 1 (.t 44)),iD 46 (.load false 1 (.t 45)),iD 47 (.bin .add (.t 41) (.t 46)),iM 7 47])) (.region [ iM 39 8,iD 40 (.bin .add (.t 39) (cI 1)),iM 8 40]))))) (.seq (.region [ iM 49 4,iM 50 0,iM 51 6,iD 52 (.indexAddr 2 (.t 50) (.t 51)),iD 53 (.fieldAddr 0 (.t 52)),iD 54 (.load false 1 (.t 53)),iM 55 7,iD 56 (.call f_z04 [(.t 49),(.t 54),(.t 55)]),iM 48 56,iD 57 (.extract (.t 48) 0),iD 58 (.extract (.t 48) 1),iM 4 57,iM 5 58]) (.region [ iM 59 8,iM 6 59]))))))))) (.seq (.seq (.region [ iM 60 5,iD 61 (.un .not (.t 60))]) (.cond (.t 61) (.seq (.region [ iD 2 (.move (.c .nil)),iD 3 (.move (cI 2))]) .ret) .skip)) (.seq (.region [ iM 62 4,iD 63 (.call f_z02 [(.t 62)]),iD 64 (.extract (.t 63) 0),iD 65 (.extract (.t 63) 1),iM 2 64,iM 3 65]) .ret))))))))⟩
structure F_z05 (P : Program) where
 id : FuncId
 z1d : F_z1d P
 z1m : F_z1m P
 z06 : RawF
 z22 : F_z22 P
 z04 : F_z04 P
 z02 : F_z02 P
 has : Has P id [] (c_z05 z1d.id z1m.id z06.id z22.id z04.id z02.id)
def c_z00 (f_z03 : FuncId) (f_z05 : FuncId) : AFunc := ⟨23,[.tmp 2,.tmp 3],(.seq (.region [ iD 2 (.move (.c .nil)),iD 3 (.move (cI 0))]) (.seq (.seq (.region [ iM 7 0,iD 8 (.len (.t 7)),iD 9 (.move (cI 0))]) (.block 0 (.loop (.seq (.region [ iD 10 (.bin .lss (.t 9) (.t 8))]) (.seq (.cond (.t 10) .skip (.exit 0)) (.seq (.block 1 (.seq (.region [ iD 11 (.indexAddr 2 (.t 7) (.t 9)),iD 12 (.load true 2 (.t 11)),iD 5 (.alloc [.nil,(.int .i64 0)]),iN (.store 2 (.t 5) (.t 12))]) (.seq (.region [ iD 13 (.load true 2 (.t 5)),iD 14 (.call f_z03 [(.t 13)]),iM 6 14]) (.seq (.region [ iM 15 6,iD 16 (.bin .neq (.t 15) (cI 0))]) (.cond (.t 16) (.seq (.region [ iM 17 6,iD 2 (.move (.c .nil)),iM 3 17]) .ret) .skip))))) (.region [ iD 18 (.bin .add (.t 9) (cI 1)),iM 9 18]))))))) (.seq (.region [ iM 19 0,iD 20 (.call f_z05 [(.t 19)]),iD 21 (.extract (.t 20) 0),iD 22 (.extract (.t 20) 1),iM 2 21,iM 3 22]) .ret)))⟩
structure F_z00 (P : Program) where
 id : FuncId
 z03 : F_z03 P
 z05 : F_z05 P
 has : Has P id [] (c_z00 z03.id z05.id)
def c_z3p (f_z3p : FuncId) (f_z3m : FuncId) : AFunc := ⟨21,[.tmp 2],(.seq (.region [ iD 2 (.move (.c .nil))]) (.seq (.seq (.region [ iM 3 0,iD 4 (.len (.t 3)),iD 5 (.bin .lss (.t 4) (cI 2))]) (.cond (.t 5) (.seq (.region [ iM 6 0,iD 7 (.append 2 32 [.nil,(.int .i64 0)] (.c .nil) (.t 6)),iM 2 7]) .ret) .skip)) (.seq (.draw [ jM 8 0,jM 9 0,jD 10 (.len (.t 9)),jD 11 (.bin .quo (.t 10) (cI 2)),jD 12 (.slice 2 (.t 8) none (some (.t 11))),jD 13 (.call f_z3p [(.t 12)]),jM 14 0,jM 15 0,jD 16 (.len (.t 15)),jD 17 (.bin .quo (.t 16) (cI 2)),jD 18 (.slice 2 (.t 14) (some (.t 17)) none),jD 19 (.call f_z3p [(.t 18)]),jD 20 (.call f_z3m [(.t 13),(.t 19)]),jM 2 20]) .ret)))⟩
structure F_z3p (P : Program) where
 id : FuncId
 z3m : F_z3m P
 has : Has P id [] (c_z3p id z3m.id)
def c_z3k (f_z3p : FuncId) (f_z3n : FuncId) : AFunc := ⟨9,[.tmp 2,.tmp 3],(.seq (.region [ iD 2 (.move (.c .nil)),iD 3 (.move (cI 0))]) (.seq (.region [ iM 4 0,iD 5 (.call f_z3p [(.t 4)]),iD 6 (.call f_z3n [(.t 5)]),iD 7 (.extract (.t 6) 0),iD 8 (.extract (.t 6) 1),iM 2 7,iM 3 8]) .ret))⟩
structure F_z3k (P : Program) where
 id : FuncId
 z3p : F_z3p P
 z3n : F_z3n P
 has : Has P id [] (c_z3k z3p.id z3n.id)
def c_z3j (f_z3l : FuncId) (f_z3k : FuncId) : AFunc := ⟨24,[.tmp 2,.tmp 3],(.seq (.region [ iD 2 (.move (.c .nil)),iD 3 (.move (cI 0))]) (.seq (.seq (.region [ iD 4 (.move (cI 0))]) (.block 0 (.loop (.seq (.seq (.region [ iM 6 4,iM 7 0,iD 8 (.len (.t 7)),iD 9 (.bin .lss (.t 6) (.t 8))]) (.cond (.t 9) .skip (.exit 0))) (.seq (.block 1 (.seq (.region [ iM 12 0,iM 13 4,iD 14 (.indexAddr 2 (.t 12) (.t 13)),iD 15 (.load true 2 (.t 14)),iD 16 (.call f_z3l [(.t 15)]),iM 5 16]) (.seq (.region [ iM 17 5,iD 18 (.bin .neq (.t 17) (cI 0))]) (.cond (.t 18) (.seq (.region [ iM 19 5,iD 2 (.move (.c .nil)),iM 3 19]) .ret) .skip)))) (.region [ iM 10 4,iD 11 (.bin .add (.t 10) (cI 1)),iM 4 11])))))) (.seq (.region [ iM 20 0,iD 21 (.call f_z3k [(.t 20)]),iD 22 (.extract (.t 21) 0),iD 23 (.extract (.t 21) 1),iM 2 22,iM 3 23]) .ret)))⟩
structure F_z3j (P : Program) where
 id : FuncId
 z3l : F_z3l P
 z3k : F_z3k P
 has : Has P id [] (c_z3j z3l.id z3k.id)
end Go.AW
namespace Go.AW
def c_z2a : AFunc := ⟨15,[.cell true 5 6],(.seq (.region [ iD 6 (.alloc [(.bool false),(.int .i64 0),.nil,(.int .i64 0),(.int .i64 0)])]) (.seq (.region [ iM 7 2,iM 8 1,iD 9 (.build [(.int .i64 0),(.int .i64 0),(.str (bs []))] [(0,1,(cI 2)),(1,1,(cI 1))]),iM 10 0,iD 11 (.build [(.int .i64 0),(.int .i64 0),(.str (bs []))] [(0,1,(cI 4)),(1,1,(.t 10))]),iD 12 (.buildSlice 3 2 [(.int .i64 0),(.int .i64 0),(.str (bs []))] [(0,(.t 9)),(1,(.t 11))]),iD 13 (.build [(.bool false),(.int .i64 0),.nil] [(0,1,(.t 7)),(1,1,(.t 8)),(2,1,(.t 12))]),iD 14 (.build [(.bool false),(.int .i64 0),.nil,(.int .i64 0),(.int .i64 0)] [(0,3,(.t 13))]),iN (.store 5 (.t 6) (.t 14))]) .ret))⟩
structure F_z2a (P : Program) where
 id : FuncId
 has : Has P id [] c_z2a
def c_z0i (f_z15 : FuncId) : AFunc := ⟨9,[.tmp 3],(.seq (.region [ iD 3 (.move (.c (.bool false)))]) (.seq (.region [ iD 4 (.fieldAddr 1 (.t 1)),iD 5 (.load false 1 (.t 4)),iM 6 0,iD 7 (.call f_z15 [(.t 5),(.t 6)]),iD 8 (.bin .lss (.t 7) (cI 0)),iM 3 8]) .ret))⟩
structure F_z0i (P : Program) where
 id : FuncId
 z15 : F_z15 P
 has : Has P id [] (c_z0i z15.id)
def c_z1k : AFunc := ⟨19,[.tmp 4],(.seq (.region [ iD 4 (.move (cI 0))]) (.seq (.seq (.region [ iM 6 0,iD 7 (.len (.t 6)),iD 8 (.move (cI 0))]) (.block 0 (.loop (.seq (.region [ iD 9 (.bin .lss (.t 8) (.t 7))]) (.seq (.cond (.t 9) .skip (.exit 0)) (.seq (.block 1 (.seq (.region [ iM 10 8,iM 5 10]) (.seq (.region [ iM 11 1,iM 12 0,iM 13 5,iD 14 (.indexAddr 1 (.t 12) (.t 13)),iD 15 (.load false 1 (.t 14)),iD 16 (.callv (.t 11) [(.t 15)])]) (.cond (.t 16) (.seq (.region [ iM 17 5,iM 4 17]) .ret) .skip)))) (.region [ iD 18 (.bin .add (.t 8) (cI 1)),iM 8 18]))))))) (.seq (.region [ iD 4 (.move (.c (.int .i64 (-1))))]) .ret)))⟩
structure F_z1k (P : Program) where
 id : FuncId
 has : Has P id [] c_z1k
def c_z1h (f_z1k : FuncId) : AFunc := ⟨9,[.tmp 4],(.seq (.region [ iD 4 (.move (.c (.bool false)))]) (.seq (.region [ iM 5 0,iM 6 1,iD 7 (.call f_z1k [(.t 5),(.t 6)]),iD 8 (.bin .geq (.t 7) (cI 0)),iM 4 8]) .ret))⟩
structure F_z1h (P : Program) where
 id : FuncId
 z1k : F_z1k P
 has : Has P id [] (c_z1h z1k.id)
def c_z0h (f_z1a : FuncId) (f_z15 : FuncId) (f_z0i : FuncId) (f_z1h : FuncId) (f_z1c : FuncId) : AFunc := ⟨64,[.tmp 2,.tmp 3],(.seq (.region [ iD 1 (.box (.t 0)),iD 2 (.move (.c .nil)),iD 3 (.move (cI 0))]) (.seq (.seq (.region [ iD 6 (.fieldAddr 1 (.t 1)),iD 7 (.load false 1 (.t 6)),iD 8 (.call f_z1a [(.t 7)]),iM 4 8]) (.seq (.region [ iM 9 4,iD 10 (.bin .neq (.t 9) (cI 0))]) (.cond (.t 10) (.seq (.region [ iM 11 4,iD 2 (.move (.c .nil)),iM 3 11]) .ret) .skip))) (.seq (.region [ iD 12 (.fieldAddr 1 (.t 1)),iD 13 (.load false 1 (.t 12)),iD 14 (.fieldAddr 3 (.t 1)),iD 15 (.load false 1 (.t 14)),iD 16 (.call f_z15 [(.t 13),(.t 15)]),iM 5 16]) (.seq (.seq (.region [ iM 17 5,iD 18 (.bin .lss (.t 17) (cI 0)),iM 19 18,⟨(some 20),.fieldAddr 2 (.t 1),some (some 19,false)⟩,⟨(some 21),.load false 1 (.t 20),some (some 19,false)⟩,⟨(some 22),.makeFunc f_z0i [(.t 1)],some (some 19,false)⟩,⟨(some 23),.call f_z1h [(.t 21),(.t 22)],some (some 19,false)⟩,iD 24 (.pick (.t 19) (.c (.bool true)) (.t 23))]) (.cond (.t 24) (.seq (.region [ iD 2 (.move (.c .nil)),iD 3 (.move (cI 5))]) .ret) .skip)) (.seq (.block 0 (.seq (.region [ iD 26 (.fieldAddr 1 (.t 1)),iD 27 (.load false 1 (.t 26)),iM 28 5,iD 29 (.indexAddr 3 (.t 27) (.t 28)),iD 30 (.fieldAddr 1 (.t 29)),iD 31 (.load false 1 (.t 30)),iD 32 (.bin .neq (.t 31) (cI 4)),iM 33 32,⟨(some 34),.fieldAddr 1 (.t 1),some (some 33,false)⟩,⟨(some 35),.load false 1 (.t 34),some (some 33,false)⟩,⟨(some 36),.move (.t 5),some (some 33,false)⟩,⟨(some 37),.indexAddr 3 (.t 35) (.t 36),some (some 33,false)⟩,⟨(some 38),.fieldAddr 2 (.t 37),some (some 33,false)⟩,⟨(some 39),.load false 1 (.t 38),some (some 33,false)⟩,iD 40 (.pick (.t 33) (.c (.bool true)) (.t 39)),iM 25 40]) (.cond (.t 25) (.seq (.region [ iD 2 (.move (.c .nil)),iD 3 (.move (cI 7))]) .ret) (.seq (.region [ iD 42 (.fieldAddr 1 (.t 1)),iD 43 (.load false 1 (.t 42)),iD 44 (.len (.t 43)),iD 45 (.bin .gtr (.t 44) (cI 10)),iM 41 45]) (.cond (.t 41) (.seq (.region [ iD 2 (.move (.c .nil)),iD 3 (.move (cI 2))]) .ret) (.seq (.region [ iD 47 (.fieldAddr 1 (.t 1)),iD 48 (.load false 1 (.t 47)),iD 49 (.call f_z15 [(.t 48),(.c (.str (bs [118,97,108,105,100,95,102,114,111,109])))]),iD 50 (.bin .geq (.t 49) (cI 0)),iM 51 50,⟨(some 52),.fieldAddr 1 (.t 1),some (some 51,false)⟩,⟨(some 53),.load false 1 (.t 52),some (some 51,false)⟩,⟨(some 54),.call f_z15 [(.t 53),(.c (.str (bs [118,97,108,105,100,95,116,111])))],some (some 51,false)⟩,⟨(some 55),.bin .geq (.t 54) (cI 0),some (some 51,false)⟩,iD 56 (.pick (.t 51) (.c (.bool true)) (.t 55)),iM 46 56]) (.cond (.t 46) (.seq (.region [ iD 2 (.move (.c .nil)),iD 3 (.move (cI 6))]) .ret) .skip))))))) (.seq (.region [ iD 57 (.fieldAddr 1 (.t 1)),iD 58 (.load false 1 (.t 57)),iD 59 (.call f_z1c [(.t 58)]),iD 60 (.build [(.str (bs [])),(.int .i64 0),(.bool false)] [(0,1,(.c (.str (bs [118,97,108,105,100,95,102,114,111,109])))),(1,1,(cI 4))]),iD 61 (.build [(.str (bs [])),(.int .i64 0),(.bool false)] [(0,1,(.c (.str (bs [118,97,108,105,100,95,116,111])))),(1,1,(cI 4)),(2,1,(.c (.bool true)))]),iD 62 (.buildSlice 3 2 [(.str (bs [])),(.int .i64 0),(.bool false)] [(0,(.t 60)),(1,(.t 61))]),iD 63 (.append 3 32 [(.str (bs [])),(.int .i64 0),(.bool false)] (.t 59) (.t 62)),iM 2 63,iD 3 (.move (cI 0))]) .ret))))))⟩
structure F_z0h (P : Program) where
 id : FuncId
 z1a : F_z1a P
 z15 : F_z15 P
 z0i : F_z0i P
 z1h : F_z1h P
 z1c : F_z1c P
 has : Has P id [] (c_z0h z1a.id z15.id z0i.id z1h.id z1c.id)
def c_z45 (f_z1i : FuncId) (f_z14 : FuncId) : AFunc := ⟨56,[.tmp 4],(.seq (.region [ iD 2 (.box (.t 0)),iD 4 (.move (cI 0))]) (.seq (.seq (.region [ iM 8 1,iD 9 (.len (.t 8)),iD 10 (.fieldAddr 1 (.t 2)),iD 11 (.load false 1 (.t 10)),iD 12 (.len (.t 11)),iD 13 (.bin .neq (.t 9) (.t 12))]) (.cond (.t 13) (.seq (.region [ iD 4 (.move (cI 8))]) .ret) .skip)) (.seq (.seq (.region [ iD 14 (.fieldAddr 1 (.t 2)),iD 15 (.load false 1 (.t 14)),iD 16 (.len (.t 15)),iD 17 (.move (cI 0))]) (.block 0 (.loop (.seq (.region [ iD 18 (.bin .lss (.t 17) (.t 16))]) (.seq (.cond (.t 18) .skip (.exit 0)) (.seq (.block 1 (.seq (.region [ iM 19 17,iD 20 (.indexAddr 3 (.t 15) (.t 17)),iD 21 (.load true 3 (.t 20)),iD 6 (.alloc [(.str (bs [])),(.int .i64 0),(.bool false)]),iM 5 19,iN (.store 3 (.t 6) (.t 21))]) (.seq (.seq (.region [ iD 22 (.fieldAddr 0 (.t 6)),iD 23 (.load false 1 (.t 22)),iD 24 (.fieldAddr 3 (.t 2)),iD 25 (.load false 1 (.t 24)),iD 26 (.bin .eql (.t 23) (.t 25)),iM 27 26,⟨(some 28),.fieldAddr 2 (.t 2),some (some 27,false)⟩,⟨(some 29),.load false 1 (.t 28),some (some 27,false)⟩,⟨(some 30),.fieldAddr 0 (.t 6),some (some 27,false)⟩,⟨(some 31),.load false 1 (.t 30),some (some 27,false)⟩,⟨(some 32),.call f_z1i [(.t 29),(.t 31)],some (some 27,false)⟩,iD 33 (.pick (.t 27) (.c (.bool true)) (.t 32))]) (.cond (.t 33) (.seq (.seq (.draw [ jD 34 (.fieldAddr 1 (.t 2)),jD 35 (.load false 1 (.t 34)),jM 36 5,jM 37 5,jD 38 (.bin .add (.t 37) (cI 1)),jD 39 (.slice 3 (.t 35) (some (.t 36)) (some (.t 38))),jM 40 1,jM 41 5,jM 42 5,jD 43 (.bin .add (.t 42) (cI 1)),jD 44 (.slice 3 (.t 40) (some (.t 41)) (some (.t 43))),jD 45 (.call f_z14 [(.t 39),(.t 44)]),jM 7 45]) (.seq (.region [ iM 46 7,iD 47 (.bin .neq (.t 46) (cI 0))]) (.cond (.t 47) (.seq (.region [ iM 48 7,iM 4 48]) .ret) .skip))) (.exit 1)) .skip)) (.seq (.region [ iM 49 1,iM 50 5,iD 51 (.indexAddr 3 (.t 49) (.t 50)),iD 52 (.load true 3 (.t 51)),iD 53 (.build [(.int .i64 0),(.int .i64 0),(.str (bs []))] []),iD 54 (.eqs true [1,1,2] (.t 52) (.t 53))]) (.cond (.t 54) (.seq (.region [ iD 4 (.move (cI 8))]) .ret) .skip))))) (.region [ iD 55 (.bin .add (.t 17) (cI 1)),iM 17 55]))))))) (.seq (.region [ iD 4 (.move (cI 0))]) .ret))))⟩
structure F_z45 (P : Program) where
 id : FuncId
 z1i : F_z1i P
 z14 : F_z14 P
 has : Has P id [] (c_z45 z1i.id z14.id)
def c_z43 (f_z45 : FuncId) (f_z14 : FuncId) : AFunc := ⟨26,[.tmp 4],(.seq (.region [ iD 2 (.box (.t 0)),iD 3 (.box (.t 1)),iD 4 (.move (cI 0))]) (.seq (.block 0 (.seq (.region [ iD 6 (.fieldAddr 1 (.t 3)),iD 7 (.load false 1 (.t 6)),iD 8 (.bin .lss (.t 7) (cI 0)),iM 9 8,⟨(some 10),.fieldAddr 1 (.t 3),some (some 9,false)⟩,⟨(some 11),.load false 1 (.t 10),some (some 9,false)⟩,⟨(some 12),.bin .gtr (.t 11) (cI 1073741824),some (some 9,false)⟩,iD 13 (.pick (.t 9) (.c (.bool true)) (.t 12)),iM 5 13]) (.cond (.t 5) (.seq (.region [ iD 4 (.move (cI 1))]) .ret) (.seq (.region [ iD 15 (.fieldAddr 0 (.t 3)),iD 16 (.load false 1 (.t 15)),iM 14 16]) (.cond (.t 14) (.seq (.region [ iD 17 (.load true 7 (.t 2)),iD 18 (.fieldAddr 2 (.t 3)),iD 19 (.load false 1 (.t 18)),iD 20 (.call f_z45 [(.t 17),(.t 19)]),iM 4 20]) .ret) .skip))))) (.seq (.region [ iD 21 (.fieldAddr 1 (.t 2)),iD 22 (.load false 1 (.t 21)),iD 23 (.fieldAddr 2 (.t 3)),iD 24 (.load false 1 (.t 23)),iD 25 (.call f_z14 [(.t 22),(.t 24)]),iM 4 25]) .ret)))⟩
structure F_z43 (P : Program) where
 id : FuncId
 z45 : F_z45 P
 z14 : F_z14 P
 has : Has P id [] (c_z43 z45.id z14.id)
def c_z1f : AFunc := ⟨8,[.tmp 2],(.seq (.region [ iD 2 (.move (.c .nil))]) (.seq (.seq (.region [ iM 3 0,iD 4 (.isNil false (.t 3))]) (.cond (.t 4) (.seq (.region [ iD 2 (.move (.c .nil))]) .ret) .skip)) (.seq (.region [ iD 5 (.buildSlice 5 0 [(.bool false),(.int .i64 0),.nil,(.int .i64 0),(.int .i64 0)] []),iM 6 0,iD 7 (.append 5 56 [(.bool false),(.int .i64 0),.nil,(.int .i64 0),(.int .i64 0)] (.t 5) (.t 6)),iM 2 7]) .ret)))⟩
structure F_z1f (P : Program) where
 id : FuncId
 has : Has P id [] c_z1f
def c_z0o (f_z15 : FuncId) : AFunc := ⟨29,[.tmp 4],(.seq (.region [ iD 2 (.box (.t 0)),iD 3 (.box (.t 1)),iD 4 (.move (.c .nil))]) (.seq (.region [ iD 5 (.move (.c .nil))]) (.seq (.seq (.region [ iD 8 (.fieldAddr 2 (.t 2)),iD 9 (.load false 1 (.t 8)),iD 10 (.len (.t 9)),iD 11 (.move (cI 0))]) (.block 0 (.loop (.seq (.region [ iD 12 (.bin .lss (.t 11) (.t 10))]) (.seq (.cond (.t 12) .skip (.exit 0)) (.seq (.block 1 (.seq (.region [ iD 13 (.indexAddr 1 (.t 9) (.t 11)),iD 14 (.load false 1 (.t 13)),iM 7 14]) (.draw [ jM 15 5,jD 16 (.fieldAddr 0 (.t 3)),jD 17 (.fieldAddr 2 (.t 16)),jD 18 (.load false 1 (.t 17)),jD 19 (.fieldAddr 1 (.t 2)),jD 20 (.load false 1 (.t 19)),jM 21 7,jD 22 (.call f_z15 [(.t 20),(.t 21)]),jD 23 (.indexAddr 3 (.t 18) (.t 22)),jD 24 (.load true 3 (.t 23)),jD 25 (.buildSlice 3 1 [(.int .i64 0),(.int .i64 0),(.str (bs []))] [(0,(.t 24))]),jD 26 (.append 3 32 [(.int .i64 0),(.int .i64 0),(.str (bs []))] (.t 15) (.t 25)),jM 5 26]))) (.region [ iD 27 (.bin .add (.t 11) (cI 1)),iM 11 27]))))))) (.seq (.region [ iM 28 5,iM 4 28]) .ret))))⟩
structure F_z0o (P : Program) where
 id : FuncId
 z15 : F_z15 P
 has : Has P id [] (c_z0o z15.id)
def c_z44 (f_z15 : FuncId) (f_z43 : FuncId) : AFunc := ⟨34,[.tmp 4],(.seq (.region [ iD 2 (.box (.t 0)),iD 3 (.box (.t 1)),iD 4 (.move (cI 0))]) (.seq (.region [ iD 6 (.fieldAddr 1 (.t 2)),iD 7 (.load false 1 (.t 6)),iD 8 (.fieldAddr 3 (.t 2)),iD 9 (.load false 1 (.t 8)),iD 10 (.call f_z15 [(.t 7),(.t 9)]),iM 5 10]) (.seq (.seq (.region [ iM 11 5,iD 12 (.bin .lss (.t 11) (cI 0)),iM 13 12,⟨(some 14),.load true 7 (.t 2),some (some 13,false)⟩,⟨(some 15),.load true 3 (.t 3),some (some 13,false)⟩,⟨(some 16),.call f_z43 [(.t 14),(.t 15)],some (some 13,false)⟩,⟨(some 17),.bin .neq (.t 16) (cI 0),some (some 13,false)⟩,iD 18 (.pick (.t 13) (.c (.bool true)) (.t 17)),iM 19 18,⟨(some 20),.fieldAddr 2 (.t 3),some (some 19,false)⟩,⟨(some 21),.load false 1 (.t 20),some (some 19,false)⟩,⟨(some 22),.move (.t 5),some (some 19,false)⟩,⟨(some 23),.indexAddr 3 (.t 21) (.t 22),some (some 19,false)⟩,⟨(some 24),.fieldAddr 0 (.t 23),some (some 19,false)⟩,⟨(some 25),.load false 1 (.t 24),some (some 19,false)⟩,⟨(some 26),.bin .neq (.t 25) (cI 4),some (some 19,false)⟩,iD 27 (.pick (.t 19) (.c (.bool true)) (.t 26))]) (.cond (.t 27) (.seq (.region [ iD 4 (.move (.c (.int .i64 (-1))))]) .ret) .skip)) (.seq (.region [ iD 28 (.fieldAddr 2 (.t 3)),iD 29 (.load false 1 (.t 28)),iM 30 5,iD 31 (.indexAddr 3 (.t 29) (.t 30)),iD 32 (.fieldAddr 1 (.t 31)),iD 33 (.load false 1 (.t 32)),iM 4 33]) .ret))))⟩
structure F_z44 (P : Program) where
 id : FuncId
 z15 : F_z15 P
 z43 : F_z43 P
 has : Has P id [] (c_z44 z15.id z43.id)
def c_z0r (f_z0o : FuncId) (f_z22 : FuncId) (f_z44 : FuncId) (f_z0a : FuncId) (f_z0c : FuncId) : AFunc := ⟨41,[.tmp 5],(.seq (.region [ iD 3 (.box (.t 0)),iD 4 (.box (.t 1)),iD 5 (.move (cI 0))]) (.seq (.draw [ jD 6 (.load true 7 (.t 2)),jD 7 (.load true 5 (.t 3)),jD 8 (.call f_z0o [(.t 6),(.t 7)]),jD 9 (.load true 7 (.t 2)),jD 10 (.load true 5 (.t 4)),jD 11 (.call f_z0o [(.t 9),(.t 10)]),jD 12 (.call f_z22 [(.t 8),(.t 11)]),jD 13 (.load true 7 (.t 2)),jD 14 (.fieldAddr 0 (.t 3)),jD 15 (.load true 3 (.t 14)),jD 16 (.call f_z44 [(.t 13),(.t 15)]),jD 17 (.load true 7 (.t 2)),jD 18 (.fieldAddr 0 (.t 4)),jD 19 (.load true 3 (.t 18)),jD 20 (.call f_z44 [(.t 17),(.t 19)]),jD 21 (.call f_z0a [(.t 16),(.t 20)]),jD 22 (.fieldAddr 0 (.t 3)),jD 23 (.fieldAddr 1 (.t 22)),jD 24 (.load false 1 (.t 23)),jD 25 (.fieldAddr 0 (.t 4)),jD 26 (.fieldAddr 1 (.t 25)),jD 27 (.load false 1 (.t 26)),jD 28 (.call f_z0a [(.t 24),(.t 27)]),jD 29 (.fieldAddr 3 (.t 3)),jD 30 (.load false 1 (.t 29)),jD 31 (.fieldAddr 3 (.t 4)),jD 32 (.load false 1 (.t 31)),jD 33 (.call f_z0a [(.t 30),(.t 32)]),jD 34 (.fieldAddr 4 (.t 3)),jD 35 (.load false 1 (.t 34)),jD 36 (.fieldAddr 4 (.t 4)),jD 37 (.load false 1 (.t 36)),jD 38 (.call f_z0a [(.t 35),(.t 37)]),jD 39 (.buildSlice 1 5 [(.int .i64 0)] [(0,(.t 12)),(1,(.t 21)),(2,(.t 28)),(3,(.t 33)),(4,(.t 38))]),jD 40 (.call f_z0c [(.t 39)]),jM 5 40]) .ret))⟩
structure F_z0r (P : Program) where
 id : FuncId
 z0o : F_z0o P
 z22 : F_z22 P
 z44 : F_z44 P
 z0a : F_z0a P
 z0c : F_z0c P
 has : Has P id [] (c_z0r z0o.id z22.id z44.id z0a.id z0c.id)
def c_z1q : AFunc := ⟨53,[],(.seq (.region [ iM 10 1,iD 11 (.bin .add (.t 10) (cI 1)),iM 8 11]) (.block 0 (.loop (.seq (.seq (.region [ iM 12 8,iM 13 2,iD 14 (.bin .lss (.t 12) (.t 13))]) (.cond (.t 14) .skip (.exit 0))) (.seq (.block 1 (.seq (.region [ iM 17 8,iM 9 17]) (.block 2 (.loop (.seq (.seq (.draw [ jM 18 9,jM 19 1,jD 20 (.bin .gtr (.t 18) (.t 19)),jM 21 20,(⟨(some 22),.move (.t 3),some (some 21,true)⟩,[]),(⟨(some 23),.move (.t 0),some (some 21,true)⟩,[]),(⟨(some 24),.move (.t 9),some (some 21,true)⟩,[]),(⟨(some 25),.indexAddr 5 (.t 23) (.t 24),some (some 21,true)⟩,[]),(⟨(some 26),.load true 5 (.t 25),some (some 21,true)⟩,[]),(⟨(some 27),.move (.t 0),some (some 21,true)⟩,[]),(⟨(some 28),.move (.t 9),some (some 21,true)⟩,[]),(⟨(some 29),.bin .sub (.t 28) (cI 1),some (some 21,true)⟩,[]),(⟨(some 30),.indexAddr 5 (.t 27) (.t 29),some (some 21,true)⟩,[]),(⟨(some 31),.load true 5 (.t 30),some (some 21,true)⟩,[]),(⟨(some 32),.callv (.t 22) [(.t 26),(.t 31)],some (some 21,true)⟩,[]),(⟨(some 33),.bin .lss (.t 32) (cI 0),some (some 21,true)⟩,[]),jD 34 (.pick (.t 21) (.t 33) (.c (.bool false)))]) (.cond (.t 34) .skip (.exit 2))) (.seq (.block 3 (.draw [ jM 37 0,jM 38 9,jM 39 0,jM 40 9,jD 41 (.bin .sub (.t 40) (cI 1)),jM 42 0,jM 43 9,jD 44 (.bin .sub (.t 43) (cI 1)),jD 45 (.indexAddr 5 (.t 42) (.t 44)),jD 46 (.load true 5 (.t 45)),jM 47 0,jM 48 9,jD 49 (.indexAddr 5 (.t 47) (.t 48)),jD 50 (.load true 5 (.t 49)),jD 51 (.indexAddr 5 (.t 37) (.t 38)),(iN (.store 5 (.t 51) (.t 46)),[]),jD 52 (.indexAddr 5 (.t 39) (.t 41)),(iN (.store 5 (.t 52) (.t 50)),[])])) (.region [ iM 35 9,iD 36 (.bin .sub (.t 35) (cI 1)),iM 9 36]))))))) (.region [ iM 15 8,iD 16 (.bin .add (.t 15) (cI 1)),iM 8 16]))))))⟩
structure F_z1q (P : Program) where
 id : FuncId
 has : Has P id [] c_z1q
def c_z1v : AFunc := ⟨38,[],(.seq (.region [ iD 10 (.move (cI 0))]) (.block 0 (.loop (.seq (.seq (.region [ iM 11 10,iM 12 3,iD 13 (.bin .lss (.t 11) (.t 12))]) (.cond (.t 13) .skip (.exit 0))) (.seq (.block 1 (.draw [ jM 16 0,jM 17 1,jM 18 10,jD 19 (.bin .add (.t 17) (.t 18)),jM 20 0,jM 21 2,jM 22 10,jD 23 (.bin .add (.t 21) (.t 22)),jM 24 0,jM 25 2,jM 26 10,jD 27 (.bin .add (.t 25) (.t 26)),jD 28 (.indexAddr 5 (.t 24) (.t 27)),jD 29 (.load true 5 (.t 28)),jM 30 0,jM 31 1,jM 32 10,jD 33 (.bin .add (.t 31) (.t 32)),jD 34 (.indexAddr 5 (.t 30) (.t 33)),jD 35 (.load true 5 (.t 34)),jD 36 (.indexAddr 5 (.t 16) (.t 19)),(iN (.store 5 (.t 36) (.t 29)),[]),jD 37 (.indexAddr 5 (.t 20) (.t 23)),(iN (.store 5 (.t 37) (.t 35)),[])])) (.region [ iM 14 10,iD 15 (.bin .add (.t 14) (cI 1)),iM 10 15]))))))⟩
structure F_z1v (P : Program) where
 id : FuncId
 has : Has P id [] c_z1v
def c_z1t (f_z1v : FuncId) : AFunc := ⟨58,[],(.seq (.region [ iM 12 2,iM 13 1,iD 14 (.bin .sub (.t 12) (.t 13)),iM 10 14]) (.seq (.region [ iM 15 3,iM 16 2,iD 17 (.bin .sub (.t 15) (.t 16)),iM 11 17]) (.seq (.block 0 (.loop (.seq (.seq (.region [ iM 18 10,iM 19 11,iD 20 (.bin .neq (.t 18) (.t 19))]) (.cond (.t 20) .skip (.exit 0))) (.block 1 (.seq (.region [ iM 21 10,iM 22 11,iD 23 (.bin .gtr (.t 21) (.t 22))]) (.cond (.t 23) (.seq (.region [ iM 24 0,iM 25 2,iM 26 10,iD 27 (.bin .sub (.t 25) (.t 26)),iM 28 2,iM 29 11,iM 30 4,iD 31 (.call f_z1v [(.t 24),(.t 27),(.t 28),(.t 29),(.t 30)])]) (.region [ iM 32 10,iM 33 11,iD 34 (.bin .sub (.t 32) (.t 33)),iM 10 34])) (.seq (.region [ iM 35 0,iM 36 2,iM 37 10,iD 38 (.bin .sub (.t 36) (.t 37)),iM 39 2,iM 40 11,iD 41 (.bin .add (.t 39) (.t 40)),iM 42 10,iD 43 (.bin .sub (.t 41) (.t 42)),iM 44 10,iM 45 4,iD 46 (.call f_z1v [(.t 35),(.t 38),(.t 43),(.t 44),(.t 45)])]) (.region [ iM 47 11,iM 48 10,iD 49 (.bin .sub (.t 47) (.t 48)),iM 11 49])))))))) (.region [ iM 50 0,iM 51 2,iM 52 10,iD 53 (.bin .sub (.t 51) (.t 52)),iM 54 2,iM 55 10,iM 56 4,iD 57 (.call f_z1v [(.t 50),(.t 53),(.t 54),(.t 55),(.t 56)])]))))⟩
structure F_z1t (P : Program) where
 id : FuncId
 z1v : F_z1v P
 has : Has P id [] (c_z1t z1v.id)
def c_z1w (f_z1t : FuncId) (f_z1w : FuncId) : AFunc := ⟨220,[],(.seq (.seq (.region [ iM 25 2,iM 26 1,iD 27 (.bin .sub (.t 25) (.t 26)),iD 28 (.bin .eql (.t 27) (cI 1))]) (.cond (.t 28) (.seq (.region [ iM 29 2,iM 10 29]) (.seq (.region [ iM 30 3,iM 11 30]) (.seq (.block 0 (.loop (.seq (.seq (.region [ iM 31 10,iM 32 11,iD 33 (.bin .lss (.t 31) (.t 32))]) (.cond (.t 33) .skip (.exit 0))) (.block 1 (.seq (.region [ iM 34 10,iM 35 11,iD 36 (.bin .add (.t 34) (.t 35)),iD 37 (.conv .u64 (.t 36)),iD 38 (.bin .shr (.t 37) (.c (.int .u64 1))),iD 39 (.conv .i64 (.t 38)),iM 12 39]) (.seq (.draw [ jM 40 4,jM 41 0,jM 42 12,jD 43 (.indexAddr 5 (.t 41) (.t 42)),jD 44 (.load true 5 (.t 43)),jM 45 0,jM 46 1,jD 47 (.indexAddr 5 (.t 45) (.t 46)),jD 48 (.load true 5 (.t 47)),jD 49 (.callv (.t 40) [(.t 44),(.t 48)]),jD 50 (.bin .lss (.t 49) (cI 0))]) (.cond (.t 50) (.region [ iM 51 12,iD 52 (.bin .add (.t 51) (cI 1)),iM 10 52]) (.region [ iM 53 12,iM 11 53])))))))) (.seq (.seq (.region [ iM 54 1,iM 13 54]) (.block 2 (.loop (.seq (.seq (.region [ iM 55 13,iM 56 10,iD 57 (.bin .sub (.t 56) (cI 1)),iD 58 (.bin .lss (.t 55) (.t 57))]) (.cond (.t 58) .skip (.exit 2))) (.seq (.block 3 (.draw [ jM 61 0,jM 62 13,jM 63 0,jM 64 13,jD 65 (.bin .add (.t 64) (cI 1)),jM 66 0,jM 67 13,jD 68 (.bin .add (.t 67) (cI 1)),jD 69 (.indexAddr 5 (.t 66) (.t 68)),jD 70 (.load true 5 (.t 69)),jM 71 0,jM 72 13,jD 73 (.indexAddr 5 (.t 71) (.t 72)),jD 74 (.load true 5 (.t 73)),jD 75 (.indexAddr 5 (.t 61) (.t 62)),(iN (.store 5 (.t 75) (.t 70)),[]),jD 76 (.indexAddr 5 (.t 63) (.t 65)),(iN (.store 5 (.t 76) (.t 74)),[])])) (.region [ iM 59 13,iD 60 (.bin .add (.t 59) (cI 1)),iM 13 60])))))) .ret)))) .skip)) (.seq (.seq (.region [ iM 77 3,iM 78 2,iD 79 (.bin .sub (.t 77) (.t 78)),iD 80 (.bin .eql (.t 79) (cI 1))]) (.cond (.t 80) (.seq (.region [ iM 81 1,iM 14 81]) (.seq (.region [ iM 82 2,iM 15 82]) (.seq (.block 4 (.loop (.seq (.seq (.region [ iM 83 14,iM 84 15,iD 85 (.bin .lss (.t 83) (.t 84))]) (.cond (.t 85) .skip (.exit 4))) (.block 5 (.seq (.region [ iM 86 14,iM 87 15,iD 88 (.bin .add (.t 86) (.t 87)),iD 89 (.conv .u64 (.t 88)),iD 90 (.bin .shr (.t 89) (.c (.int .u64 1))),iD 91 (.conv .i64 (.t 90)),iM 16 91]) (.seq (.draw [ jM 92 4,jM 93 0,jM 94 2,jD 95 (.indexAddr 5 (.t 93) (.t 94)),jD 96 (.load true 5 (.t 95)),jM 97 0,jM 98 16,jD 99 (.indexAddr 5 (.t 97) (.t 98)),jD 100 (.load true 5 (.t 99)),jD 101 (.callv (.t 92) [(.t 96),(.t 100)]),jD 102 (.bin .lss (.t 101) (cI 0)),jD 103 (.un .not (.t 102))]) (.cond (.t 103) (.region [ iM 104 16,iD 105 (.bin .add (.t 104) (cI 1)),iM 14 105]) (.region [ iM 106 16,iM 15 106])))))))) (.seq (.seq (.region [ iM 107 2,iM 17 107]) (.block 6 (.loop (.seq (.seq (.region [ iM 108 17,iM 109 14,iD 110 (.bin .gtr (.t 108) (.t 109))]) (.cond (.t 110) .skip (.exit 6))) (.seq (.block 7 (.draw [ jM 113 0,jM 114 17,jM 115 0,jM 116 17,jD 117 (.bin .sub (.t 116) (cI 1)),jM 118 0,jM 119 17,jD 120 (.bin .sub (.t 119) (cI 1)),jD 121 (.indexAddr 5 (.t 118) (.t 120)),jD 122 (.load true 5 (.t 121)),jM 123 0,jM 124 17,jD 125 (.indexAddr 5 (.t 123) (.t 124)),jD 126 (.load true 5 (.t 125)),jD 127 (.indexAddr 5 (.t 113) (.t 114)),(iN (.store 5 (.t 127) (.t 122)),[]),jD 128 (.indexAddr 5 (.t 115) (.t 117)),(iN (.store 5 (.t 128) (.t 126)),[])])) (.region [ iM 111 17,iD 112 (.bin .sub (.t 111) (cI 1)),iM 17 112])))))) .ret)))) .skip)) (.seq (.region [ iM 129 1,iM 130 3,iD 131 (.bin .add (.t 129) (.t 130)),iD 132 (.conv .u64 (.t 131)),iD 133 (.bin .shr (.t 132) (.c (.int .u64 1))),iD 134 (.conv .i64 (.t 133)),iM 18 134]) (.seq (.region [ iM 135 18,iM 136 2,iD 137 (.bin .add (.t 135) (.t 136)),iM 19 137]) (.seq (.region [ iD 20 (.move (cI 0)),iD 21 (.move (cI 0))]) (.seq (.seq (.region [ iM 138 2,iM 139 18,iD 140 (.bin .gtr (.t 138) (.t 139))]) (.cond (.t 140) (.seq (.region [ iM 141 19,iM 142 3,iD 143 (.bin .sub (.t 141) (.t 142)),iM 20 143]) (.region [ iM 144 18,iM 21 144])) (.seq (.region [ iM 145 1,iM 20 145]) (.region [ iM 146 2,iM 21 146])))) (.seq (.region [ iM 147 19,iD 148 (.bin .sub (.t 147) (cI 1)),iM 22 148]) (.seq (.block 8 (.loop (.seq (.seq (.region [ iM 149 20,iM 150 21,iD 151 (.bin .lss (.t 149) (.t 150))]) (.cond (.t 151) .skip (.exit 8))) (.block 9 (.seq (.region [ iM 152 20,iM 153 21,iD 154 (.bin .add (.t 152) (.t 153)),iD 155 (.conv .u64 (.t 154)),iD 156 (.bin .shr (.t 155) (.c (.int .u64 1))),iD 157 (.conv .i64 (.t 156)),iM 23 157]) (.seq (.draw [ jM 158 4,jM 159 0,jM 160 22,jM 161 23,jD 162 (.bin .sub (.t 160) (.t 161)),jD 163 (.indexAddr 5 (.t 159) (.t 162)),jD 164 (.load true 5 (.t 163)),jM 165 0,jM 166 23,jD 167 (.indexAddr 5 (.t 165) (.t 166)),jD 168 (.load true 5 (.t 167)),jD 169 (.callv (.t 158) [(.t 164),(.t 168)]),jD 170 (.bin .lss (.t 169) (cI 0)),jD 171 (.un .not (.t 170))]) (.cond (.t 171) (.region [ iM 172 23,iD 173 (.bin .add (.t 172) (cI 1)),iM 20 173]) (.region [ iM 174 23,iM 21 174])))))))) (.seq (.region [ iM 175 19,iM 176 20,iD 177 (.bin .sub (.t 175) (.t 176)),iM 24 177]) (.seq (.seq (.region [ iM 178 20,iM 179 2,iD 180 (.bin .lss (.t 178) (.t 179)),iM 181 180,⟨(some 182),.move (.t 2),some (some 181,true)⟩,⟨(some 183),.move (.t 24),some (some 181,true)⟩,⟨(some 184),.bin .lss (.t 182) (.t 183),some (some 181,true)⟩,iD 185 (.pick (.t 181) (.t 184) (.c (.bool false)))]) (.cond (.t 185) (.region [ iM 186 0,iM 187 20,iM 188 2,iM 189 24,iM 190 4,iD 191 (.call f_z1t [(.t 186),(.t 187),(.t 188),(.t 189),(.t 190)])]) .skip)) (.seq (.seq (.region [ iM 192 1,iM 193 20,iD 194 (.bin .lss (.t 192) (.t 193)),iM 195 194,⟨(some 196),.move (.t 20),some (some 195,true)⟩,⟨(some 197),.move (.t 18),some (some 195,true)⟩,⟨(some 198),.bin .lss (.t 196) (.t 197),some (some 195,true)⟩,iD 199 (.pick (.t 195) (.t 198) (.c (.bool false)))]) (.cond (.t 199) (.region [ iM 200 0,iM 201 1,iM 202 20,iM 203 18,iM 204 4,iD 205 (.call f_z1w [(.t 200),(.t 201),(.t 202),(.t 203),(.t 204)])]) .skip)) (.seq (.region [ iM 206 18,iM 207 24,iD 208 (.bin .lss (.t 206) (.t 207)),iM 209 208,⟨(some 210),.move (.t 24),some (some 209,true)⟩,⟨(some 211),.move (.t 3),some (some 209,true)⟩,⟨(some 212),.bin .lss (.t 210) (.t 211),some (some 209,true)⟩,iD 213 (.pick (.t 209) (.t 212) (.c (.bool false)))]) (.cond (.t 213) (.region [ iM 214 0,iM 215 18,iM 216 24,iM 217 3,iM 218 4,iD 219 (.call f_z1w [(.t 214),(.t 215),(.t 216),(.t 217),(.t 218)])]) .skip)))))))))))))⟩
structure F_z1w (P : Program) where
 id : FuncId
 z1t : F_z1t P
 has : Has P id [] (c_z1w z1t.id id)
def c_z1u (f_z1q : FuncId) (f_z1w : FuncId) : AFunc := ⟨63,[],(.seq (.region [ iD 6 (.move (cI 20))]) (.seq (.region [ iM 10 6,iD 7 (.move (cI 0)),iM 8 10]) (.seq (.block 0 (.loop (.seq (.seq (.region [ iM 11 8,iM 12 1,iD 13 (.bin .leq (.t 11) (.t 12))]) (.cond (.t 13) .skip (.exit 0))) (.block 1 (.seq (.region [ iM 14 0,iM 15 7,iM 16 8,iM 17 2,iD 18 (.call f_z1q [(.t 14),(.t 15),(.t 16),(.t 17)])]) (.seq (.region [ iM 19 8,iM 7 19]) (.region [ iM 20 8,iM 21 6,iD 22 (.bin .add (.t 20) (.t 21)),iM 8 22]))))))) (.seq (.region [ iM 23 0,iM 24 7,iM 25 1,iM 26 2,iD 27 (.call f_z1q [(.t 23),(.t 24),(.t 25),(.t 26)])]) (.block 2 (.loop (.seq (.seq (.region [ iM 28 6,iM 29 1,iD 30 (.bin .lss (.t 28) (.t 29))]) (.cond (.t 30) .skip (.exit 2))) (.block 3 (.seq (.region [ iM 31 6,iD 32 (.bin .mul (cI 2) (.t 31)),iD 7 (.move (cI 0)),iM 8 32]) (.seq (.block 4 (.loop (.seq (.seq (.region [ iM 33 8,iM 34 1,iD 35 (.bin .leq (.t 33) (.t 34))]) (.cond (.t 35) .skip (.exit 4))) (.block 5 (.seq (.region [ iM 36 0,iM 37 7,iM 38 7,iM 39 6,iD 40 (.bin .add (.t 38) (.t 39)),iM 41 8,iM 42 2,iD 43 (.call f_z1w [(.t 36),(.t 37),(.t 40),(.t 41),(.t 42)])]) (.seq (.region [ iM 44 8,iM 7 44]) (.region [ iM 45 8,iM 46 6,iD 47 (.bin .mul (cI 2) (.t 46)),iD 48 (.bin .add (.t 45) (.t 47)),iM 8 48]))))))) (.seq (.seq (.region [ iM 49 7,iM 50 6,iD 51 (.bin .add (.t 49) (.t 50)),iM 9 51]) (.seq (.region [ iM 52 9,iM 53 1,iD 54 (.bin .lss (.t 52) (.t 53))]) (.cond (.t 54) (.region [ iM 55 0,iM 56 7,iM 57 9,iM 58 1,iM 59 2,iD 60 (.call f_z1w [(.t 55),(.t 56),(.t 57),(.t 58),(.t 59)])]) .skip))) (.region [ iM 61 6,iD 62 (.bin .mul (.t 61) (cI 2)),iM 6 62]))))))))))))⟩
structure F_z1u (P : Program) where
 id : FuncId
 z1q : F_z1q P
 z1w : F_z1w P
 has : Has P id [] (c_z1u z1q.id z1w.id)
def c_z1o (f_z1u : FuncId) : AFunc := ⟨9,[],(.region [ iM 4 0,iM 5 0,iD 6 (.len (.t 5)),iM 7 1,iD 8 (.call f_z1u [(.t 4),(.t 6),(.t 7)])])⟩
structure F_z1o (P : Program) where
 id : FuncId
 z1u : F_z1u P
 has : Has P id [] (c_z1o z1u.id)
def c_z0q (f_z1f : FuncId) (f_z0r : FuncId) (f_z1o : FuncId) : AFunc := ⟨12,[.tmp 4],(.seq (.region [ iD 2 (.box (.t 0)),iD 4 (.move (.c .nil))]) (.seq (.seq (.region [ iM 6 1,iD 7 (.call f_z1f [(.t 6)]),iM 5 7]) .ghost) (.seq (.region [ iM 8 5,iD 9 (.makeFunc f_z0r [(.t 2)]),iD 10 (.call f_z1o [(.t 8),(.t 9)])]) (.seq (.region [ iM 11 5,iM 4 11]) .ret))))⟩
structure F_z0q (P : Program) where
 id : FuncId
 z1f : F_z1f P
 z0r : F_z0r P
 z1o : F_z1o P
 has : Has P id [100005] (c_z0q z1f.id z0r.id z1o.id)
def c_z0s (f_z0o : FuncId) (f_z22 : FuncId) (f_z44 : FuncId) : AFunc := ⟨51,[.tmp 4],(.seq (.region [ iD 2 (.box (.t 0)),iD 4 (.move (.c .nil))]) (.seq (.region [ iD 5 (.move (.c .nil))]) (.seq (.seq (.region [ iM 9 1,iD 10 (.len (.t 9)),iD 11 (.move (cI 0))]) (.block 0 (.loop (.seq (.region [ iD 12 (.bin .lss (.t 11) (.t 10))]) (.seq (.cond (.t 12) .skip (.exit 0)) (.seq (.block 1 (.seq (.region [ iM 13 11,iD 14 (.indexAddr 5 (.t 9) (.t 11)),iD 15 (.load true 5 (.t 14)),iD 7 (.alloc [(.bool false),(.int .i64 0),.nil,(.int .i64 0),(.int .i64 0)]),iM 6 13,iN (.store 5 (.t 7) (.t 15))]) (.seq (.seq (.region [ iM 16 6,iD 17 (.bin .add (.t 16) (cI 1)),iM 18 1,iD 19 (.len (.t 18)),iD 20 (.bin .lss (.t 17) (.t 19))]) (.cond (.t 20) (.seq (.region [ iM 21 1,iM 22 6,iD 23 (.bin .add (.t 22) (cI 1)),iD 24 (.indexAddr 5 (.t 21) (.t 23)),iD 25 (.load true 5 (.t 24)),iD 8 (.alloc [(.bool false),(.int .i64 0),.nil,(.int .i64 0),(.int .i64 0)]),iN (.store 5 (.t 8) (.t 25))]) (.seq (.draw [ jD 26 (.load true 7 (.t 2)),jD 27 (.load true 5 (.t 7)),jD 28 (.call f_z0o [(.t 26),(.t 27)]),jD 29 (.load true 7 (.t 2)),jD 30 (.load true 5 (.t 8)),jD 31 (.call f_z0o [(.t 29),(.t 30)]),jD 32 (.call f_z22 [(.t 28),(.t 31)]),jD 33 (.bin .eql (.t 32) (cI 0)),jM 34 33,(⟨(some 35),.load true 7 (.t 2),some (some 34,true)⟩,[]),(⟨(some 36),.fieldAddr 0 (.t 7),some (some 34,true)⟩,[]),(⟨(some 37),.load true 3 (.t 36),some (some 34,true)⟩,[]),(⟨(some 38),.call f_z44 [(.t 35),(.t 37)],some (some 34,true)⟩,[]),(⟨(some 39),.load true 7 (.t 2),some (some 34,true)⟩,[]),(⟨(some 40),.fieldAddr 0 (.t 8),some (some 34,true)⟩,[]),(⟨(some 41),.load true 3 (.t 40),some (some 34,true)⟩,[]),(⟨(some 42),.call f_z44 [(.t 39),(.t 41)],some (some 34,true)⟩,[]),(⟨(some 43),.bin .eql (.t 38) (.t 42),some (some 34,true)⟩,[]),jD 44 (.pick (.t 34) (.t 43) (.c (.bool false)))]) (.cond (.t 44) (.exit 1) .skip))) .skip)) (.region [ iM 45 5,iD 46 (.load true 5 (.t 7)),iD 47 (.buildSlice 5 1 [(.bool false),(.int .i64 0),.nil,(.int .i64 0),(.int .i64 0)] [(0,(.t 46))]),iD 48 (.append 5 56 [(.bool false),(.int .i64 0),.nil,(.int .i64 0),(.int .i64 0)] (.t 45) (.t 47)),iM 5 48])))) (.region [ iD 49 (.bin .add (.t 11) (cI 1)),iM 11 49]))))))) (.seq (.region [ iM 50 5,iM 4 50]) .ret))))⟩
structure F_z0s (P : Program) where
 id : FuncId
 z0o : F_z0o P
 z22 : F_z22 P
 z44 : F_z44 P
 has : Has P id [] (c_z0s z0o.id z22.id z44.id)
def c_z0m (f_z22 : FuncId) : AFunc := ⟨10,[.tmp 4],(.seq (.region [ iD 2 (.box (.t 0)),iD 3 (.box (.t 1)),iD 4 (.move (cI 0))]) (.seq (.region [ iD 5 (.fieldAddr 0 (.t 2)),iD 6 (.load false 1 (.t 5)),iD 7 (.fieldAddr 0 (.t 3)),iD 8 (.load false 1 (.t 7)),iD 9 (.call f_z22 [(.t 6),(.t 8)]),iM 4 9]) .ret))⟩
structure F_z0m (P : Program) where
 id : FuncId
 z22 : F_z22 P
 has : Has P id [] (c_z0m z22.id)
def c_z0l (f_z0h : FuncId) (f_z43 : FuncId) (f_z0q : FuncId) (f_z0s : FuncId) (f_z0o : FuncId) (f_z22 : FuncId) (f_z44 : FuncId) (f_z1e : FuncId) (f_z1m : FuncId) (f_z0m : FuncId) : AFunc := ⟨106,[.tmp 4,.tmp 5],(.seq (.region [ iD 2 (.box (.t 0)),iD 4 (.move (.c .nil)),iD 5 (.move (cI 0))]) (.seq (.seq (.region [ iD 18 (.load true 7 (.t 2)),iD 19 (.call f_z0h [(.t 18)]),iM 17 19,iD 20 (.extract (.t 17) 0),iD 21 (.extract (.t 17) 1),iM 6 20,iM 7 21]) (.seq (.region [ iM 22 7,iD 23 (.bin .neq (.t 22) (cI 0))]) (.cond (.t 23) (.seq (.region [ iM 24 7,iD 4 (.move (.c .nil)),iM 5 24]) .ret) .skip))) (.seq (.seq (.region [ iM 25 1,iD 26 (.len (.t 25)),iD 27 (.move (cI 0))]) (.block 0 (.loop (.seq (.region [ iD 28 (.bin .lss (.t 27) (.t 26))]) (.seq (.cond (.t 28) .skip (.exit 0)) (.seq (.block 1 (.seq (.region [ iD 29 (.indexAddr 5 (.t 25) (.t 27)),iD 30 (.load true 5 (.t 29)),iD 9 (.alloc [(.bool false),(.int .i64 0),.nil,(.int .i64 0),(.int .i64 0)]),iN (.store 5 (.t 9) (.t 30))]) (.seq (.region [ iD 31 (.load true 7 (.t 2)),iD 32 (.fieldAddr 0 (.t 9)),iD 33 (.load true 3 (.t 32)),iD 34 (.call f_z43 [(.t 31),(.t 33)]),iM 10 34]) (.seq (.region [ iM 35 10,iD 36 (.bin .neq (.t 35) (cI 0))]) (.cond (.t 36) (.seq (.region [ iM 37 10,iD 4 (.move (.c .nil)),iM 5 37]) .ret) .skip))))) (.region [ iD 38 (.bin .add (.t 27) (cI 1)),iM 27 38]))))))) (.seq (.draw [ jD 39 (.load true 7 (.t 2)),jD 40 (.load true 7 (.t 2)),jM 41 1,jD 42 (.call f_z0q [(.t 40),(.t 41)]),jD 43 (.call f_z0s [(.t 39),(.t 42)]),jM 11 43]) (.seq (.region [ iD 12 (.move (.c .nil))]) (.seq (.seq (.region [ iM 44 11,iD 45 (.len (.t 44)),iD 46 (.move (cI 0))]) (.block 2 (.loop (.seq (.region [ iD 47 (.bin .lss (.t 46) (.t 45))]) (.seq (.cond (.t 47) .skip (.exit 2)) (.seq (.block 3 (.seq (.region [ iM 48 46,iD 49 (.indexAddr 5 (.t 44) (.t 46)),iD 50 (.load true 5 (.t 49)),iD 14 (.alloc [(.bool false),(.int .i64 0),.nil,(.int .i64 0),(.int .i64 0)]),iM 13 48,iN (.store 5 (.t 14) (.t 50))]) (.seq (.seq (.region [ iD 51 (.fieldAddr 0 (.t 14)),iD 52 (.fieldAddr 0 (.t 51)),iD 53 (.load false 1 (.t 52))]) (.cond (.t 53) (.exit 3) .skip)) (.seq (.region [ iD 15 (.alloc [(.int .i64 0),(.int .i64 0),(.str (bs []))])]) (.seq (.seq (.draw [ jM 54 13,jD 55 (.bin .add (.t 54) (cI 1)),jM 56 11,jD 57 (.len (.t 56)),jD 58 (.bin .lss (.t 55) (.t 57)),jM 59 58,(⟨(some 60),.load true 7 (.t 2),some (some 59,true)⟩,[]),(⟨(some 61),.load true 5 (.t 14),some (some 59,true)⟩,[]),(⟨(some 62),.call f_z0o [(.t 60),(.t 61)],some (some 59,true)⟩,[]),(⟨(some 63),.load true 7 (.t 2),some (some 59,true)⟩,[]),(⟨(some 64),.move (.t 11),some (some 59,true)⟩,[]),(⟨(some 65),.move (.t 13),some (some 59,true)⟩,[]),(⟨(some 66),.bin .add (.t 65) (cI 1),some (some 59,true)⟩,[]),(⟨(some 67),.indexAddr 5 (.t 64) (.t 66),some (some 59,true)⟩,[]),(⟨(some 68),.load true 5 (.t 67),some (some 59,true)⟩,[]),(⟨(some 69),.call f_z0o [(.t 63),(.t 68)],some (some 59,true)⟩,[]),(⟨(some 70),.call f_z22 [(.t 62),(.t 69)],some (some 59,true)⟩,[]),(⟨(some 71),.bin .eql (.t 70) (cI 0),some (some 59,true)⟩,[]),jD 72 (.pick (.t 59) (.t 71) (.c (.bool false)))]) (.cond (.t 72) (.draw [ jD 73 (.load true 7 (.t 2)),jM 74 11,jM 75 13,jD 76 (.bin .add (.t 75) (cI 1)),jD 77 (.indexAddr 5 (.t 74) (.t 76)),jD 78 (.fieldAddr 0 (.t 77)),jD 79 (.load true 3 (.t 78)),jD 80 (.call f_z44 [(.t 73),(.t 79)]),jD 81 (.build [(.int .i64 0),(.int .i64 0),(.str (bs []))] [(0,1,(cI 4)),(1,1,(.t 80))]),(iN (.store 3 (.t 15) (.t 81)),[])]) .skip)) (.seq (.draw [ jD 82 (.fieldAddr 0 (.t 14)),jD 83 (.fieldAddr 2 (.t 82)),jD 84 (.load false 1 (.t 83)),jD 85 (.callE f_z1e [(.t 84)]),(iD 86 (.load true 7 (.t 2)),[13]),jD 87 (.fieldAddr 0 (.t 14)),(iD 88 (.load true 3 (.t 87)),[13]),jD 89 (.call f_z44 [(.t 86),(.t 88)]),jD 90 (.build [(.int .i64 0),(.int .i64 0),(.str (bs []))] [(0,1,(cI 4)),(1,1,(.t 89))]),(iD 91 (.load true 3 (.t 15)),[13]),jD 92 (.buildSlice 3 2 [(.int .i64 0),(.int .i64 0),(.str (bs []))] [(0,(.t 90)),(1,(.t 91))]),jD 93 (.append 3 32 [(.int .i64 0),(.int .i64 0),(.str (bs []))] (.t 85) (.t 92)),jM 16 93]) (.region [ iM 94 12,iM 95 16,iD 96 (.build [.nil,(.int .i64 0)] [(0,1,(.t 95)),(1,1,(cI 1))]),iD 97 (.buildSliceO 2 1 [.nil,(.int .i64 0)] [(0,(.t 96))]),iD 98 (.append 2 32 [.nil,(.int .i64 0)] (.t 94) (.t 97)),iM 12 98]))))))) (.region [ iD 99 (.bin .add (.t 46) (cI 1)),iM 46 99]))))))) (.seq (.seq (.region [ iM 100 12,iD 101 (.len (.t 100)),iD 102 (.bin .gtr (.t 101) (cI 4096))]) (.cond (.t 102) (.seq (.region [ iD 4 (.move (.c .nil)),iD 5 (.move (cI 2))]) .ret) .skip)) (.seq (.region [ iM 103 12,iD 104 (.call f_z1m [(.t 103),(.c (.fn f_z0m []))])]) (.seq (.region [ iM 105 12,iM 4 105,iD 5 (.move (cI 0))]) .ret)))))))))⟩
structure F_z0l (P : Program) where
 id : FuncId
 z0h : F_z0h P
 z43 : F_z43 P
 z0q : F_z0q P
 z0s : F_z0s P
 z0o : F_z0o P
 z22 : F_z22 P
 z44 : F_z44 P
 z1e : F_z1e P
 z1m : F_z1m P
 z0m : RawF
 has : Has P id [85, 97] (c_z0l z0h.id z43.id z0q.id z0s.id z0o.id z22.id z44.id z1e.id z1m.id z0m.id)
def c_z0n (f_z0h : FuncId) (f_z01 : FuncId) (f_z14 : FuncId) : AFunc := ⟨39,[.tmp 4,.tmp 5],(.seq (.region [ iD 2 (.box (.t 0)),iD 4 (.move (cI 0)),iD 5 (.move (cI 0))]) (.seq (.region [ iD 10 (.load true 7 (.t 2)),iD 11 (.call f_z0h [(.t 10)]),iM 9 11,iD 12 (.extract (.t 9) 0),iD 13 (.extract (.t 9) 1),iM 6 12,iM 7 13]) (.seq (.seq (.region [ iM 14 7,iD 15 (.bin .eql (.t 14) (cI 0))]) (.cond (.t 15) (.region [ iM 16 1,iD 17 (.call f_z01 [(.t 16)]),iM 7 17]) .skip)) (.seq (.seq (.region [ iD 8 (.move (cI 0))]) (.block 0 (.loop (.seq (.seq (.region [ iM 18 8,iM 19 1,iD 20 (.len (.t 19)),iD 21 (.bin .lss (.t 18) (.t 20)),iM 22 21,⟨(some 23),.move (.t 7),some (some 22,true)⟩,⟨(some 24),.bin .eql (.t 23) (cI 0),some (some 22,true)⟩,iD 25 (.pick (.t 22) (.t 24) (.c (.bool false)))]) (.cond (.t 25) .skip (.exit 0))) (.seq (.block 1 (.region [ iM 28 6,iM 29 1,iM 30 8,iD 31 (.indexAddr 2 (.t 29) (.t 30)),iD 32 (.fieldAddr 0 (.t 31)),iD 33 (.load false 1 (.t 32)),iD 34 (.call f_z14 [(.t 28),(.t 33)]),iM 7 34])) (.region [ iM 26 8,iD 27 (.bin .add (.t 26) (cI 1)),iM 8 27])))))) (.seq (.region [ iM 35 6,iD 36 (.len (.t 35)),iD 37 (.bin .sub (.t 36) (cI 2)),iM 38 7,iM 4 37,iM 5 38]) .ret)))))⟩
structure F_z0n (P : Program) where
 id : FuncId
 z0h : F_z0h P
 z01 : F_z01 P
 z14 : F_z14 P
 has : Has P id [] (c_z0n z0h.id z01.id z14.id)
def c_z0g : AFunc := ⟨21,[.tmp 5],(.seq (.region [ iD 3 (.box (.t 0)),iD 4 (.box (.t 1)),iD 5 (.move (.c (.bool false)))]) (.seq (.region [ iD 6 (.fieldAddr 1 (.t 3)),iD 7 (.load false 1 (.t 6)),iD 8 (.load false 1 (.t 2)),iD 9 (.bin .leq (.t 7) (.t 8)),iM 10 9,⟨(some 11),.fieldAddr 0 (.t 4),some (some 10,true)⟩,⟨(some 12),.load false 1 (.t 11),some (some 10,true)⟩,⟨(some 13),.bin .eql (.t 12) (cI 0),some (some 10,true)⟩,⟨(some 14),.move (.t 13),some (some 10,true)⟩,⟨(some 15),.fieldAddr 1 (.t 4),some (some 14,false)⟩,⟨(some 16),.load false 1 (.t 15),some (some 14,false)⟩,⟨(some 17),.load false 1 (.t 2),some (some 14,false)⟩,⟨(some 18),.bin .gtr (.t 16) (.t 17),some (some 14,false)⟩,⟨(some 19),.pick (.t 14) (.c (.bool true)) (.t 18),some (some 10,true)⟩,iD 20 (.pick (.t 10) (.t 19) (.c (.bool false))),iM 5 20]) .ret))⟩
structure F_z0g (P : Program) where
 id : FuncId
 has : Has P id [] c_z0g
def c_z0p (f_z00 : FuncId) : AFunc := ⟨45,[.tmp 6,.tmp 7],(.seq (.region [ iD 6 (.move (.c .nil)),iD 7 (.move (cI 0))]) (.seq (.region [ iD 8 (.move (.c .nil))]) (.seq (.seq (.region [ iM 11 0,iD 12 (.len (.t 11)),iD 13 (.move (cI 0))]) (.seq (.block 0 (.loop (.seq (.region [ iD 14 (.bin .lss (.t 13) (.t 12))]) (.seq (.cond (.t 14) .skip (.exit 0)) (.seq (.block 1 (.seq (.region [ iD 15 (.indexAddr 2 (.t 11) (.t 13)),iD 16 (.load true 2 (.t 15)),iD 10 (.alloc [.nil,(.int .i64 0)]),iN (.store 2 (.t 10) (.t 16))]) (.seq (.draw [ jM 17 2,jD 18 (.fieldAddr 0 (.t 10)),jD 19 (.load false 1 (.t 18)),jM 20 1,jD 21 (.indexAddr 3 (.t 19) (.t 20)),jD 22 (.load true 3 (.t 21)),jD 23 (.fieldAddr 0 (.t 10)),jD 24 (.load false 1 (.t 23)),jM 25 1,jD 26 (.bin .add (.t 25) (cI 1)),jD 27 (.indexAddr 3 (.t 24) (.t 26)),jD 28 (.load true 3 (.t 27)),jD 29 (.callv (.t 17) [(.t 22),(.t 28)])]) (.cond (.t 29) (.draw [ jM 30 8,jD 31 (.fieldAddr 0 (.t 10)),jD 32 (.load false 1 (.t 31)),jM 33 1,jD 34 (.slice 3 (.t 32) none (some (.t 33))),jD 35 (.fieldAddr 1 (.t 10)),jD 36 (.load false 1 (.t 35)),jD 37 (.build [.nil,(.int .i64 0)] [(0,1,(.t 34)),(1,1,(.t 36))]),jD 38 (.buildSlice 2 1 [.nil,(.int .i64 0)] [(0,(.t 37))]),jD 39 (.append 2 32 [.nil,(.int .i64 0)] (.t 30) (.t 38)),jM 8 39]) .skip)))) (.region [ iD 40 (.bin .add (.t 13) (cI 1)),iM 13 40])))))) .ghost)) (.seq (.region [ iM 41 8,iD 42 (.call f_z00 [(.t 41)]),iD 43 (.extract (.t 42) 0),iD 44 (.extract (.t 42) 1),iM 6 43,iM 7 44]) .ret))))⟩
structure F_z0p (P : Program) where
 id : FuncId
 z00 : F_z00 P
 has : Has P id [200000] (c_z0p z00.id)
def c_z0f (f_z0n : FuncId) (f_z0g : FuncId) (f_z0p : FuncId) : AFunc := ⟨31,[.tmp 6,.tmp 7],(.seq (.seq (.region [ iD 3 (.box (.t 0)),iD 5 (.box (.t 2)),iD 6 (.move (.c .nil)),iD 7 (.move (cI 0))]) .ghost) (.seq (.region [ iD 11 (.load true 7 (.t 3)),iM 12 1,iD 13 (.call f_z0n [(.t 11),(.t 12)]),iM 10 13,iD 14 (.extract (.t 10) 0),iD 15 (.extract (.t 10) 1),iM 8 14,iM 9 15]) (.seq (.seq (.region [ iM 16 9,iD 17 (.bin .neq (.t 16) (cI 0))]) (.cond (.t 17) (.seq (.region [ iM 18 9,iD 6 (.move (.c .nil)),iM 7 18]) .ret) .skip)) (.seq (.seq (.region [ iD 19 (.load false 1 (.t 5)),iD 20 (.bin .lss (.t 19) (cI 0)),iM 21 20,⟨(some 22),.load false 1 (.t 5),some (some 21,false)⟩,⟨(some 23),.bin .gtr (.t 22) (cI 575999999),some (some 21,false)⟩,iD 24 (.pick (.t 21) (.c (.bool true)) (.t 23))]) (.cond (.t 24) (.seq (.region [ iD 6 (.move (.c .nil)),iD 7 (.move (cI 1))]) .ret) .skip)) (.seq (.region [ iM 25 1,iM 26 8,iD 27 (.makeFunc f_z0g [(.t 5)]),iD 28 (.call f_z0p [(.t 25),(.t 26),(.t 27)]),iD 29 (.extract (.t 28) 0),iD 30 (.extract (.t 28) 1),iM 6 29,iM 7 30]) .ret)))))⟩
structure F_z0f (P : Program) where
 id : FuncId
 z0n : F_z0n P
 z0g : F_z0g P
 z0p : F_z0p P
 has : Has P id [100005] (c_z0f z0n.id z0g.id z0p.id)
def c_z0k : AFunc := ⟨8,[.tmp 4],(.seq (.region [ iD 2 (.box (.t 0)),iD 3 (.box (.t 1)),iD 4 (.move (.c (.bool false)))]) (.seq (.region [ iD 5 (.fieldAddr 0 (.t 3)),iD 6 (.load false 1 (.t 5)),iD 7 (.bin .eql (.t 6) (cI 0)),iM 4 7]) .ret))⟩
structure F_z0k (P : Program) where
 id : FuncId
 has : Has P id [] c_z0k
def c_z0j (f_z0n : FuncId) (f_z0p : FuncId) (f_z0k : FuncId) : AFunc := ⟨22,[.tmp 4,.tmp 5],(.seq (.region [ iD 2 (.box (.t 0)),iD 4 (.move (.c .nil)),iD 5 (.move (cI 0))]) (.seq (.region [ iD 9 (.load true 7 (.t 2)),iM 10 1,iD 11 (.call f_z0n [(.t 9),(.t 10)]),iM 8 11,iD 12 (.extract (.t 8) 0),iD 13 (.extract (.t 8) 1),iM 6 12,iM 7 13]) (.seq (.seq (.region [ iM 14 7,iD 15 (.bin .neq (.t 14) (cI 0))]) (.cond (.t 15) (.seq (.region [ iM 16 7,iD 4 (.move (.c .nil)),iM 5 16]) .ret) .skip)) (.seq (.region [ iM 17 1,iM 18 6,iD 19 (.call f_z0p [(.t 17),(.t 18),(.c (.fn f_z0k []))]),iD 20 (.extract (.t 19) 0),iD 21 (.extract (.t 19) 1),iM 4 20,iM 5 21]) .ret))))⟩
structure F_z0j (P : Program) where
 id : FuncId
 z0n : F_z0n P
 z0p : F_z0p P
 z0k : F_z0k P
 has : Has P id [] (c_z0j z0n.id z0p.id z0k.id)
def c_z27 (f_z2a : FuncId) (f_z0l : FuncId) (f_z0f : FuncId) (f_z0j : FuncId) : AFunc := ⟨90,[.tmp 0],(.seq (.region [ iD 0 (.move (.c (.bool false)))]) (.seq (.region [ iD 8 (.build [(.str (bs [])),(.int .i64 0),(.bool false)] [(0,1,(.c (.str (bs [105,100])))),(1,1,(cI 2))]),iD 9 (.build [(.str (bs [])),(.int .i64 0),(.bool false)] [(0,1,(.c (.str (bs [97,116])))),(1,1,(cI 4))]),iD 10 (.buildSlice 3 2 [(.str (bs [])),(.int .i64 0),(.bool false)] [(0,(.t 8)),(1,(.t 9))]),iD 11 (.buildSlice 1 1 [(.str (bs []))] [(0,(.c (.str (bs [105,100]))))]),iD 12 (.build [(.str (bs [])),.nil,.nil,(.str (bs [])),(.str (bs [])),(.int .i64 0),(.int .i64 0)] [(1,1,(.t 10)),(2,1,(.t 11)),(3,1,(.c (.str (bs [97,116]))))]),iD 1 (.alloc [(.str (bs [])),.nil,.nil,(.str (bs [])),(.str (bs [])),(.int .i64 0),(.int .i64 0)]),iN (.store 7 (.t 1) (.t 12))]) (.seq (.draw [ jD 14 (.load true 7 (.t 1)),jD 15 (.call f_z2a [(cI 30),(cI 1),(.c (.bool true))]),jD 16 (.call f_z2a [(cI 20),(cI 2),(.c (.bool false))]),jD 17 (.call f_z2a [(cI 10),(cI 3),(.c (.bool false))]),jD 18 (.call f_z2a [(cI 20),(cI 1),(.c (.bool false))]),jD 19 (.buildSlice 5 4 [(.bool false),(.int .i64 0),.nil,(.int .i64 0),(.int .i64 0)] [(0,(.t 15)),(1,(.t 16)),(2,(.t 17)),(3,(.t 18))]),jD 20 (.call f_z0l [(.t 14),(.t 19)]),jM 13 20,jD 21 (.extract (.t 13) 0),jD 22 (.extract (.t 13) 1),jM 2 21,jM 3 22]) (.seq (.region [ iD 24 (.load true 7 (.t 1)),iM 25 2,iD 26 (.call f_z0f [(.t 24),(.t 25),(cI 19)]),iM 23 26,iD 27 (.extract (.t 23) 0),iD 28 (.extract (.t 23) 1),iM 4 27,iM 5 28]) (.seq (.region [ iD 30 (.load true 7 (.t 1)),iM 31 2,iD 32 (.call f_z0j [(.t 30),(.t 31)]),iM 29 32,iD 33 (.extract (.t 29) 0),iD 34 (.extract (.t 29) 1),iM 6 33,iM 7 34]) (.seq (.region [ iM 35 3,iD 36 (.bin .eql (.t 35) (cI 0)),iM 37 36,⟨(some 38),.move (.t 2),some (some 37,true)⟩,⟨(some 39),.len (.t 38),some (some 37,true)⟩,⟨(some 40),.bin .eql (.t 39) (cI 2),some (some 37,true)⟩,iD 41 (.pick (.t 37) (.t 40) (.c (.bool false))),iM 42 41,⟨(some 43),.move (.t 2),some (some 42,true)⟩,⟨(some 44),.indexAddr 2 (.t 43) (cI 0),some (some 42,true)⟩,⟨(some 45),.fieldAddr 0 (.t 44),some (some 42,true)⟩,⟨(some 46),.load false 1 (.t 45),some (some 42,true)⟩,⟨(some 47),.indexAddr 3 (.t 46) (cI 2),some (some 42,true)⟩,⟨(some 48),.fieldAddr 1 (.t 47),some (some 42,true)⟩,⟨(some 49),.load false 1 (.t 48),some (some 42,true)⟩,⟨(some 50),.bin .eql (.t 49) (cI 10),some (some 42,true)⟩,iD 51 (.pick (.t 42) (.t 50) (.c (.bool false))),iM 52 51,⟨(some 53),.move (.t 2),some (some 52,true)⟩,⟨(some 54),.indexAddr 2 (.t 53) (cI 0),some (some 52,true)⟩,⟨(some 55),.fieldAddr 0 (.t 54),some (some 52,true)⟩,⟨(some 56),.load false 1 (.t 55),some (some 52,true)⟩,⟨(some 57),.indexAddr 3 (.t 56) (cI 3),some (some 52,true)⟩,⟨(some 58),.fieldAddr 1 (.t 57),some (some 52,true)⟩,⟨(some 59),.load false 1 (.t 58),some (some 52,true)⟩,⟨(some 60),.bin .eql (.t 59) (cI 20),some (some 52,true)⟩,iD 61 (.pick (.t 52) (.t 60) (.c (.bool false))),iM 62 61,⟨(some 63),.move (.t 2),some (some 62,true)⟩,⟨(some 64),.indexAddr 2 (.t 63) (cI 1),some (some 62,true)⟩,⟨(some 65),.fieldAddr 0 (.t 64),some (some 62,true)⟩,⟨(some 66),.load false 1 (.t 65),some (some 62,true)⟩,⟨(some 67),.indexAddr 3 (.t 66) (cI 3),some (some 62,true)⟩,⟨(some 68),.fieldAddr 1 (.t 67),some (some 62,true)⟩,⟨(some 69),.load false 1 (.t 68),some (some 62,true)⟩,⟨(some 70),.bin .eql (.t 69) (cI 30),some (some 62,true)⟩,iD 71 (.pick (.t 62) (.t 70) (.c (.bool false))),iM 72 71,⟨(some 73),.move (.t 5),some (some 72,true)⟩,⟨(some 74),.bin .eql (.t 73) (cI 0),some (some 72,true)⟩,iD 75 (.pick (.t 72) (.t 74) (.c (.bool false))),iM 76 75,⟨(some 77),.move (.t 4),some (some 76,true)⟩,⟨(some 78),.len (.t 77),some (some 76,true)⟩,⟨(some 79),.bin .eql (.t 78) (cI 1),some (some 76,true)⟩,iD 80 (.pick (.t 76) (.t 79) (.c (.bool false))),iM 81 80,⟨(some 82),.move (.t 7),some (some 81,true)⟩,⟨(some 83),.bin .eql (.t 82) (cI 0),some (some 81,true)⟩,iD 84 (.pick (.t 81) (.t 83) (.c (.bool false))),iM 85 84,⟨(some 86),.move (.t 6),some (some 85,true)⟩,⟨(some 87),.len (.t 86),some (some 85,true)⟩,⟨(some 88),.bin .eql (.t 87) (cI 0),some (some 85,true)⟩,iD 89 (.pick (.t 85) (.t 88) (.c (.bool false))),iM 0 89]) .ret))))))⟩
structure F_z27 (P : Program) where
 id : FuncId
 z2a : F_z2a P
 z0l : F_z0l P
 z0f : F_z0f P
 z0j : F_z0j P
 has : Has P id [] (c_z27 z2a.id z0l.id z0f.id z0j.id)
def c_z29 (f_z41 : FuncId) : AFunc := ⟨13,[.cell true 6 2],(.seq (.region [ iD 2 (.alloc [.nil,.nil,.nil,.nil,.nil,.nil])]) (.seq (.region [ iM 4 0,iD 5 (.call f_z41 [(.t 4)]),iD 3 (.alloc [(.str (bs [])),.nil,.nil,(.str (bs [])),(.str (bs [])),(.int .i64 0),(.int .i64 0)]),iN (.store 7 (.t 3) (.t 5))]) (.seq (.region [ iD 6 (.fieldAddr 4 (.t 3)),iD 7 (.load false 1 (.t 6)),iD 8 (.build [(.str (bs [])),(.int .i64 0),.nil] [(0,1,(.t 7))]),iD 9 (.buildSlice 3 1 [(.str (bs [])),(.int .i64 0),.nil] [(0,(.t 8))]),iD 10 (.load true 7 (.t 3)),iD 11 (.buildSlice 7 1 [(.str (bs [])),.nil,.nil,(.str (bs [])),(.str (bs [])),(.int .i64 0),(.int .i64 0)] [(0,(.t 10))]),iD 12 (.build [.nil,.nil,.nil,.nil,.nil,.nil] [(0,1,(.t 9)),(1,1,(.t 11))]),iN (.store 6 (.t 2) (.t 12))]) .ret)))⟩
structure F_z29 (P : Program) where
 id : FuncId
 z41 : F_z41 P
 has : Has P id [] (c_z29 z41.id)
def c_z2k : AFunc := ⟨28,[.cell true 7 4,.tmp 5],(.seq (.region [ iD 2 (.box (.t 0)),iD 4 (.alloc [(.str (bs [])),.nil,.nil,(.str (bs [])),(.str (bs [])),(.int .i64 0),(.int .i64 0)]),iD 5 (.move (.c (.bool false)))]) (.seq (.seq (.region [ iD 6 (.move (cI 0))]) (.block 0 (.loop (.seq (.seq (.region [ iM 7 6,iD 8 (.fieldAddr 1 (.t 2)),iD 9 (.load false 1 (.t 8)),iD 10 (.len (.t 9)),iD 11 (.bin .lss (.t 7) (.t 10))]) (.cond (.t 11) .skip (.exit 0))) (.seq (.block 1 (.seq (.region [ iD 14 (.fieldAddr 1 (.t 2)),iD 15 (.load false 1 (.t 14)),iM 16 6,iD 17 (.indexAddr 7 (.t 15) (.t 16)),iD 18 (.fieldAddr 0 (.t 17)),iD 19 (.load false 1 (.t 18)),iM 20 1,iD 21 (.bin .eql (.t 19) (.t 20))]) (.cond (.t 21) (.seq (.region [ iD 22 (.fieldAddr 1 (.t 2)),iD 23 (.load false 1 (.t 22)),iM 24 6,iD 25 (.indexAddr 7 (.t 23) (.t 24)),iD 26 (.load true 7 (.t 25)),iN (.store 7 (.t 4) (.t 26)),iD 5 (.move (.c (.bool true)))]) .ret) .skip))) (.region [ iM 12 6,iD 13 (.bin .add (.t 12) (cI 1)),iM 6 13])))))) (.seq (.region [ iD 27 (.build [(.str (bs [])),.nil,.nil,(.str (bs [])),(.str (bs [])),(.int .i64 0),(.int .i64 0)] []),iN (.store 7 (.t 4) (.t 27)),iD 5 (.move (.c (.bool false)))]) .ret)))⟩
structure F_z2k (P : Program) where
 id : FuncId
 has : Has P id [] c_z2k
def c_z34 (f_z2k : FuncId) : AFunc := ⟨43,[.cell true 7 4,.cell true 3 5,.tmp 6],(.seq (.region [ iD 2 (.box (.t 0)),iD 4 (.alloc [(.str (bs [])),.nil,.nil,(.str (bs [])),(.str (bs [])),(.int .i64 0),(.int .i64 0)]),iD 5 (.alloc [(.str (bs [])),(.int .i64 0),.nil]),iD 6 (.move (.c (.bool false)))]) (.seq (.region [ iD 11 (.load true 6 (.t 2)),iM 12 1,iD 13 (.call f_z2k [(.t 11),(.t 12)]),iM 10 13,iD 14 (.extract (.t 10) 0),iD 15 (.extract (.t 10) 1),iD 7 (.alloc [(.str (bs [])),.nil,.nil,(.str (bs [])),(.str (bs [])),(.int .i64 0),(.int .i64 0)]),iN (.store 7 (.t 7) (.t 14)),iM 8 15]) (.seq (.seq (.region [ iD 9 (.move (cI 0))]) (.block 0 (.loop (.seq (.seq (.region [ iM 16 9,iD 17 (.fieldAddr 0 (.t 2)),iD 18 (.load false 1 (.t 17)),iD 19 (.len (.t 18)),iD 20 (.bin .lss (.t 16) (.t 19)),iM 21 20,⟨(some 22),.move (.t 8),some (some 21,true)⟩,iD 23 (.pick (.t 21) (.t 22) (.c (.bool false)))]) (.cond (.t 23) .skip (.exit 0))) (.seq (.block 1 (.seq (.draw [ jD 26 (.fieldAddr 0 (.t 2)),jD 27 (.load false 1 (.t 26)),jM 28 9,jD 29 (.indexAddr 3 (.t 27) (.t 28)),jD 30 (.fieldAddr 0 (.t 29)),jD 31 (.load false 1 (.t 30)),jD 32 (.fieldAddr 4 (.t 7)),jD 33 (.load false 1 (.t 32)),jD 34 (.bin .eql (.t 31) (.t 33))]) (.cond (.t 34) (.seq (.draw [ jD 35 (.load true 7 (.t 7)),jD 36 (.fieldAddr 0 (.t 2)),(iD 37 (.load false 1 (.t 36)),[2]),jM 38 9,(iD 39 (.indexAddr 3 (.t 37) (.t 38)),[2]),(iD 40 (.load true 3 (.t 39)),[2]),(iN (.store 7 (.t 4) (.t 35)),[]),(iN (.store 3 (.t 5) (.t 40)),[]),jD 6 (.move (.c (.bool true)))]) .ret) .skip))) (.region [ iM 24 9,iD 25 (.bin .add (.t 24) (cI 1)),iM 9 25])))))) (.seq (.region [ iD 41 (.build [(.str (bs [])),.nil,.nil,(.str (bs [])),(.str (bs [])),(.int .i64 0),(.int .i64 0)] []),iD 42 (.build [(.str (bs [])),(.int .i64 0),.nil] []),iN (.store 7 (.t 4) (.t 41)),iN (.store 3 (.t 5) (.t 42)),iD 6 (.move (.c (.bool false)))]) .ret))))⟩
structure F_z34 (P : Program) where
 id : FuncId
 z2k : F_z2k P
 has : Has P id [] (c_z34 z2k.id)
def c_z2m : AFunc := ⟨37,[.cell true 3 2],(.seq (.region [ iD 1 (.box (.t 0)),iD 2 (.alloc [(.str (bs [])),(.str (bs [])),.nil])]) (.seq (.region [ iD 6 (.fieldAddr 0 (.t 1)),iD 7 (.load false 1 (.t 6)),iD 8 (.fieldAddr 1 (.t 1)),iD 9 (.load false 1 (.t 8)),iD 10 (.build [(.str (bs [])),(.str (bs [])),.nil] [(0,1,(.t 7)),(1,1,(.t 9))]),iD 3 (.alloc [(.str (bs [])),(.str (bs [])),.nil]),iN (.store 3 (.t 3) (.t 10))]) (.seq (.seq (.region [ iD 4 (.move (cI 0))]) (.block 0 (.loop (.seq (.seq (.region [ iM 11 4,iD 12 (.fieldAddr 2 (.t 1)),iD 13 (.load false 1 (.t 12)),iD 14 (.len (.t 13)),iD 15 (.bin .lss (.t 11) (.t 14))]) (.cond (.t 15) .skip (.exit 0))) (.seq (.block 1 (.seq (.region [ iD 18 (.fieldAddr 2 (.t 1)),iD 19 (.load false 1 (.t 18)),iM 20 4,iD 21 (.indexAddr 3 (.t 19) (.t 20)),iD 22 (.load true 3 (.t 21)),iD 5 (.alloc [(.bool false),(.int .i64 0),.nil]),iN (.store 3 (.t 5) (.t 22))]) (.draw [ jD 23 (.fieldAddr 2 (.t 3)),(iD 24 (.load false 1 (.t 23)),[5,3]),jD 25 (.fieldAddr 0 (.t 5)),(iD 26 (.load false 1 (.t 25)),[5]),jD 27 (.fieldAddr 1 (.t 5)),(iD 28 (.load false 1 (.t 27)),[5]),jD 29 (.fieldAddr 2 (.t 5)),jD 30 (.load false 1 (.t 29)),jD 31 (.append 3 32 [(.int .i64 0),(.int .i64 0),(.str (bs []))] (.c .nil) (.t 30)),jD 32 (.build [(.bool false),(.int .i64 0),.nil] [(0,1,(.t 26)),(1,1,(.t 28)),(2,1,(.t 31))]),jD 33 (.buildSliceO 3 1 [(.bool false),(.int .i64 0),.nil] [(0,(.t 32))]),jD 34 (.append 3 40 [(.bool false),(.int .i64 0),.nil] (.t 24) (.t 33)),jD 35 (.fieldAddr 2 (.t 3)),(iN (.store 1 (.t 35) (.t 34)),[])]))) (.region [ iM 16 4,iD 17 (.bin .add (.t 16) (cI 1)),iM 4 17])))))) (.seq (.region [ iD 36 (.load true 3 (.t 3)),iN (.store 3 (.t 2) (.t 36))]) .ret))))⟩
structure F_z2m (P : Program) where
 id : FuncId
 has : Has P id [33] c_z2m
def c_z32 (f_z2m : FuncId) : AFunc := ⟨10,[.cell true 4 2],(.seq (.region [ iD 1 (.box (.t 0)),iD 2 (.alloc [(.str (bs [])),(.str (bs [])),.nil,.nil])]) (.seq (.draw [ jD 3 (.fieldAddr 0 (.t 1)),jD 4 (.load true 3 (.t 3)),jD 5 (.call f_z2m [(.t 4)]),jD 6 (.fieldAddr 3 (.t 1)),jD 7 (.load false 1 (.t 6)),jD 8 (.append 1 8 [(.int .i64 0)] (.c .nil) (.t 7)),jD 9 (.build [(.str (bs [])),(.str (bs [])),.nil,.nil] [(0,3,(.t 5)),(3,1,(.t 8))]),(iN (.store 4 (.t 2) (.t 9)),[])]) .ret))⟩
structure F_z32 (P : Program) where
 id : FuncId
 z2m : F_z2m P
 has : Has P id [] (c_z32 z2m.id)
def c_z2z (f_z32 : FuncId) : AFunc := ⟨24,[.cell true 1 2],(.seq (.region [ iD 1 (.box (.t 0)),iD 2 (.alloc [.nil])]) (.seq (.region [ iD 3 (.alloc [.nil])]) (.seq (.seq (.region [ iD 4 (.move (cI 0))]) (.block 0 (.loop (.seq (.seq (.region [ iM 5 4,iD 6 (.fieldAddr 0 (.t 1)),iD 7 (.load false 1 (.t 6)),iD 8 (.len (.t 7)),iD 9 (.bin .lss (.t 5) (.t 8))]) (.cond (.t 9) .skip (.exit 0))) (.seq (.block 1 (.draw [ jD 12 (.fieldAddr 0 (.t 3)),(iD 13 (.load false 1 (.t 12)),[4,3]),jD 14 (.fieldAddr 0 (.t 1)),jD 15 (.load false 1 (.t 14)),jM 16 4,jD 17 (.indexAddr 4 (.t 15) (.t 16)),jD 18 (.load true 4 (.t 17)),jD 19 (.callE f_z32 [(.t 18)]),jD 20 (.buildSliceO 4 1 [(.str (bs [])),(.str (bs [])),.nil,.nil] [(0,(.t 19))]),jD 21 (.append 4 80 [(.str (bs [])),(.str (bs [])),.nil,.nil] (.t 13) (.t 20)),jD 22 (.fieldAddr 0 (.t 3)),(iN (.store 1 (.t 22) (.t 21)),[])])) (.region [ iM 10 4,iD 11 (.bin .add (.t 10) (cI 1)),iM 4 11])))))) (.seq (.region [ iD 23 (.load true 1 (.t 3)),iN (.store 1 (.t 2) (.t 23))]) .ret))))⟩
structure F_z2z (P : Program) where
 id : FuncId
 z32 : F_z32 P
 has : Has P id [19, 20] (c_z2z z32.id)
def c_z2x : AFunc := ⟨18,[.tmp 4],(.seq (.region [ iD 4 (.move (.c (.bool false)))]) (.seq (.seq (.region [ iD 5 (.move (cI 0))]) (.block 0 (.loop (.seq (.seq (.region [ iM 6 5,iM 7 0,iD 8 (.len (.t 7)),iD 9 (.bin .lss (.t 6) (.t 8))]) (.cond (.t 9) .skip (.exit 0))) (.seq (.block 1 (.seq (.region [ iM 12 0,iM 13 5,iD 14 (.indexAddr 1 (.t 12) (.t 13)),iD 15 (.load false 1 (.t 14)),iM 16 1,iD 17 (.bin .eql (.t 15) (.t 16))]) (.cond (.t 17) (.seq (.region [ iD 4 (.move (.c (.bool true)))]) .ret) .skip))) (.region [ iM 10 5,iD 11 (.bin .add (.t 10) (cI 1)),iM 5 11])))))) (.seq (.region [ iD 4 (.move (.c (.bool false)))]) .ret)))⟩
structure F_z2x (P : Program) where
 id : FuncId
 has : Has P id [] c_z2x
def c_z2s (f_z3f : FuncId) (f_z2x : FuncId) : AFunc := ⟨80,[.tmp 4],(.seq (.region [ iD 2 (.box (.t 0)),iD 3 (.box (.t 1)),iD 4 (.move (cI 0))]) (.seq (.seq (.region [ iD 7 (.fieldAddr 1 (.t 3)),iD 8 (.load false 1 (.t 7)),iD 9 (.bin .lss (.t 8) (cI 0)),iM 10 9,⟨(some 11),.fieldAddr 1 (.t 3),some (some 10,false)⟩,⟨(some 12),.load false 1 (.t 11),some (some 10,false)⟩,⟨(some 13),.bin .gtr (.t 12) (cI 1073741824),some (some 10,false)⟩,iD 14 (.pick (.t 10) (.c (.bool true)) (.t 13))]) (.cond (.t 14) (.seq (.region [ iD 4 (.move (cI 1))]) .ret) .skip)) (.seq (.seq (.region [ iD 15 (.fieldAddr 0 (.t 3)),iD 16 (.load false 1 (.t 15)),iD 17 (.un .not (.t 16))]) (.cond (.t 17) (.seq (.region [ iD 18 (.fieldAddr 1 (.t 2)),iD 19 (.load false 1 (.t 18)),iD 20 (.fieldAddr 2 (.t 3)),iD 21 (.load false 1 (.t 20)),iD 22 (.call f_z3f [(.t 19),(.t 21)]),iM 4 22]) .ret) .skip)) (.seq (.seq (.region [ iD 23 (.fieldAddr 2 (.t 3)),iD 24 (.load false 1 (.t 23)),iD 25 (.len (.t 24)),iD 26 (.fieldAddr 1 (.t 2)),iD 27 (.load false 1 (.t 26)),iD 28 (.len (.t 27)),iD 29 (.bin .neq (.t 25) (.t 28))]) (.cond (.t 29) (.seq (.region [ iD 4 (.move (cI 8))]) .ret) .skip)) (.seq (.seq (.region [ iD 5 (.move (cI 0))]) (.block 0 (.loop (.seq (.seq (.region [ iM 30 5,iD 31 (.fieldAddr 1 (.t 2)),iD 32 (.load false 1 (.t 31)),iD 33 (.len (.t 32)),iD 34 (.bin .lss (.t 30) (.t 33))]) (.cond (.t 34) .skip (.exit 0))) (.seq (.block 1 (.seq (.seq (.draw [ jD 37 (.fieldAddr 2 (.t 2)),jD 38 (.load false 1 (.t 37)),jD 39 (.fieldAddr 1 (.t 2)),jD 40 (.load false 1 (.t 39)),jM 41 5,jD 42 (.indexAddr 3 (.t 40) (.t 41)),jD 43 (.fieldAddr 0 (.t 42)),jD 44 (.load false 1 (.t 43)),jD 45 (.call f_z2x [(.t 38),(.t 44)]),jM 46 45,(⟨(some 47),.fieldAddr 1 (.t 2),some (some 46,false)⟩,[]),(⟨(some 48),.load false 1 (.t 47),some (some 46,false)⟩,[]),(⟨(some 49),.move (.t 5),some (some 46,false)⟩,[]),(⟨(some 50),.indexAddr 3 (.t 48) (.t 49),some (some 46,false)⟩,[]),(⟨(some 51),.fieldAddr 0 (.t 50),some (some 46,false)⟩,[]),(⟨(some 52),.load false 1 (.t 51),some (some 46,false)⟩,[]),(⟨(some 53),.fieldAddr 3 (.t 2),some (some 46,false)⟩,[]),(⟨(some 54),.load false 1 (.t 53),some (some 46,false)⟩,[]),(⟨(some 55),.bin .eql (.t 52) (.t 54),some (some 46,false)⟩,[]),jD 56 (.pick (.t 46) (.c (.bool true)) (.t 55))]) (.cond (.t 56) (.seq (.seq (.draw [ jD 57 (.fieldAddr 1 (.t 2)),jD 58 (.load false 1 (.t 57)),jM 59 5,jM 60 5,jD 61 (.bin .add (.t 60) (cI 1)),jD 62 (.slice 3 (.t 58) (some (.t 59)) (some (.t 61))),jD 63 (.fieldAddr 2 (.t 3)),jD 64 (.load false 1 (.t 63)),jM 65 5,jM 66 5,jD 67 (.bin .add (.t 66) (cI 1)),jD 68 (.slice 3 (.t 64) (some (.t 65)) (some (.t 67))),jD 69 (.call f_z3f [(.t 62),(.t 68)]),jM 6 69]) (.seq (.region [ iM 70 6,iD 71 (.bin .neq (.t 70) (cI 0))]) (.cond (.t 71) (.seq (.region [ iM 72 6,iM 4 72]) .ret) .skip))) (.exit 1)) .skip)) (.seq (.region [ iD 73 (.fieldAddr 2 (.t 3)),iD 74 (.load false 1 (.t 73)),iM 75 5,iD 76 (.indexAddr 3 (.t 74) (.t 75)),iD 77 (.load true 3 (.t 76)),iD 78 (.build [(.int .i64 0),(.int .i64 0),(.str (bs []))] []),iD 79 (.eqs true [1,1,2] (.t 77) (.t 78))]) (.cond (.t 79) (.seq (.region [ iD 4 (.move (cI 8))]) .ret) .skip)))) (.region [ iM 35 5,iD 36 (.bin .add (.t 35) (cI 1)),iM 5 36])))))) (.seq (.region [ iD 4 (.move (cI 0))]) .ret))))))⟩
structure F_z2s (P : Program) where
 id : FuncId
 z3f : F_z3f P
 z2x : F_z2x P
 has : Has P id [] (c_z2s z3f.id z2x.id)
def c_z33 (f_z2s : FuncId) : AFunc := ⟨80,[.tmp 4],(.seq (.region [ iD 2 (.box (.t 0)),iD 3 (.box (.t 1)),iD 4 (.move (.c .nil))]) (.seq (.region [ iD 5 (.move (.c .nil))]) (.seq (.seq (.region [ iD 6 (.move (cI 0))]) (.block 0 (.loop (.seq (.seq (.region [ iM 10 6,iD 11 (.fieldAddr 0 (.t 2)),iD 12 (.load false 1 (.t 11)),iD 13 (.len (.t 12)),iD 14 (.bin .lss (.t 10) (.t 13))]) (.cond (.t 14) .skip (.exit 0))) (.seq (.block 1 (.seq (.region [ iD 17 (.fieldAddr 0 (.t 2)),iD 18 (.load false 1 (.t 17)),iM 19 6,iD 20 (.indexAddr 4 (.t 18) (.t 19)),iD 21 (.load true 4 (.t 20)),iD 7 (.alloc [(.str (bs [])),(.str (bs [])),.nil,.nil]),iN (.store 4 (.t 7) (.t 21))]) (.seq (.region [ iD 8 (.move (cI 0))]) (.block 2 (.loop (.seq (.seq (.region [ iM 22 8,iD 23 (.fieldAddr 0 (.t 7)),iD 24 (.fieldAddr 2 (.t 23)),iD 25 (.load false 1 (.t 24)),iD 26 (.len (.t 25)),iD 27 (.bin .lss (.t 22) (.t 26)),iM 28 27,⟨(some 29),.fieldAddr 0 (.t 7),some (some 28,true)⟩,⟨(some 30),.fieldAddr 1 (.t 29),some (some 28,true)⟩,⟨(some 31),.load false 1 (.t 30),some (some 28,true)⟩,⟨(some 32),.fieldAddr 0 (.t 3),some (some 28,true)⟩,⟨(some 33),.load false 1 (.t 32),some (some 28,true)⟩,⟨(some 34),.bin .eql (.t 31) (.t 33),some (some 28,true)⟩,iD 35 (.pick (.t 28) (.t 34) (.c (.bool false)))]) (.cond (.t 35) .skip (.exit 2))) (.seq (.block 3 (.seq (.draw [ jM 38 8,jD 39 (.fieldAddr 3 (.t 7)),jD 40 (.load false 1 (.t 39)),jD 41 (.len (.t 40)),jD 42 (.bin .lss (.t 38) (.t 41)),jM 43 42,(⟨(some 44),.fieldAddr 3 (.t 7),some (some 43,true)⟩,[]),(⟨(some 45),.load false 1 (.t 44),some (some 43,true)⟩,[]),(⟨(some 46),.move (.t 8),some (some 43,true)⟩,[]),(⟨(some 47),.indexAddr 1 (.t 45) (.t 46),some (some 43,true)⟩,[]),(⟨(some 48),.load false 1 (.t 47),some (some 43,true)⟩,[]),(⟨(some 49),.bin .eql (.t 48) (cI 0),some (some 43,true)⟩,[]),jD 50 (.pick (.t 43) (.t 49) (.c (.bool false))),jM 51 50,(⟨(some 52),.load true 7 (.t 3),some (some 51,true)⟩,[]),(⟨(some 53),.fieldAddr 0 (.t 7),some (some 51,true)⟩,[]),(⟨(some 54),.fieldAddr 2 (.t 53),some (some 51,true)⟩,[]),(⟨(some 55),.load false 1 (.t 54),some (some 51,true)⟩,[]),(⟨(some 56),.move (.t 8),some (some 51,true)⟩,[]),(⟨(some 57),.indexAddr 3 (.t 55) (.t 56),some (some 51,true)⟩,[]),(⟨(some 58),.load true 3 (.t 57),some (some 51,true)⟩,[]),(⟨(some 59),.call f_z2s [(.t 52),(.t 58)],some (some 51,true)⟩,[]),(⟨(some 60),.bin .eql (.t 59) (cI 0),some (some 51,true)⟩,[]),jD 61 (.pick (.t 51) (.t 60) (.c (.bool false)))]) (.cond (.t 61) (.seq (.region [ iD 62 (.fieldAddr 0 (.t 7)),iD 63 (.fieldAddr 2 (.t 62)),iD 64 (.load false 1 (.t 63)),iM 65 8,iD 66 (.indexAddr 3 (.t 64) (.t 65)),iD 67 (.load true 3 (.t 66)),iD 9 (.alloc [(.bool false),(.int .i64 0),.nil]),iN (.store 3 (.t 9) (.t 67))]) (.seq (.seq (.region [ iD 68 (.fieldAddr 2 (.t 9)),iD 69 (.load false 1 (.t 68)),iD 70 (.append 3 32 [(.int .i64 0),(.int .i64 0),(.str (bs []))] (.c .nil) (.t 69)),iD 71 (.fieldAddr 2 (.t 9)),iN (.store 1 (.t 71) (.t 70))]) .ghost) (.region [ iM 72 5,iD 73 (.load true 3 (.t 9)),iM 74 6,iM 75 8,iD 76 (.build [(.bool false),(.int .i64 0),.nil,(.int .i64 0),(.int .i64 0)] [(0,3,(.t 73)),(3,1,(.t 74)),(4,1,(.t 75))]),iD 77 (.buildSlice 5 1 [(.bool false),(.int .i64 0),.nil,(.int .i64 0),(.int .i64 0)] [(0,(.t 76))]),iD 78 (.append 5 56 [(.bool false),(.int .i64 0),.nil,(.int .i64 0),(.int .i64 0)] (.t 72) (.t 77)),iM 5 78]))) .skip))) (.region [ iM 36 8,iD 37 (.bin .add (.t 36) (cI 1)),iM 8 37])))))))) (.region [ iM 15 6,iD 16 (.bin .add (.t 15) (cI 1)),iM 6 16])))))) (.seq (.region [ iM 79 5,iM 4 79]) .ret))))⟩
structure F_z33 (P : Program) where
 id : FuncId
 z2s : F_z2s P
 has : Has P id [100070] (c_z33 z2s.id)
def c_z2w (f_z3g : FuncId) (f_z2s : FuncId) : AFunc := ⟨34,[.tmp 4],(.seq (.region [ iD 2 (.box (.t 0)),iD 3 (.box (.t 1)),iD 4 (.move (cI 0))]) (.seq (.region [ iD 6 (.fieldAddr 1 (.t 2)),iD 7 (.load false 1 (.t 6)),iD 8 (.fieldAddr 3 (.t 2)),iD 9 (.load false 1 (.t 8)),iD 10 (.call f_z3g [(.t 7),(.t 9)]),iM 5 10]) (.seq (.seq (.region [ iD 11 (.load true 7 (.t 2)),iD 12 (.load true 3 (.t 3)),iD 13 (.call f_z2s [(.t 11),(.t 12)]),iD 14 (.bin .neq (.t 13) (cI 0)),iM 15 14,⟨(some 16),.move (.t 5),some (some 15,false)⟩,⟨(some 17),.bin .lss (.t 16) (cI 0),some (some 15,false)⟩,iD 18 (.pick (.t 15) (.c (.bool true)) (.t 17)),iM 19 18,⟨(some 20),.fieldAddr 2 (.t 3),some (some 19,false)⟩,⟨(some 21),.load false 1 (.t 20),some (some 19,false)⟩,⟨(some 22),.move (.t 5),some (some 19,false)⟩,⟨(some 23),.indexAddr 3 (.t 21) (.t 22),some (some 19,false)⟩,⟨(some 24),.fieldAddr 0 (.t 23),some (some 19,false)⟩,⟨(some 25),.load false 1 (.t 24),some (some 19,false)⟩,⟨(some 26),.bin .neq (.t 25) (cI 4),some (some 19,false)⟩,iD 27 (.pick (.t 19) (.c (.bool true)) (.t 26))]) (.cond (.t 27) (.seq (.region [ iD 4 (.move (.c (.int .i64 (-1))))]) .ret) .skip)) (.seq (.region [ iD 28 (.fieldAddr 2 (.t 3)),iD 29 (.load false 1 (.t 28)),iM 30 5,iD 31 (.indexAddr 3 (.t 29) (.t 30)),iD 32 (.fieldAddr 1 (.t 31)),iD 33 (.load false 1 (.t 32)),iM 4 33]) .ret))))⟩
structure F_z2w (P : Program) where
 id : FuncId
 z3g : F_z3g P
 z2s : F_z2s P
 has : Has P id [] (c_z2w z3g.id z2s.id)
def c_z30 (f_z33 : FuncId) (f_z2w : FuncId) : AFunc := ⟨24,[.tmp 4],(.seq (.region [ iD 2 (.box (.t 0)),iD 3 (.box (.t 1)),iD 4 (.move (cI 0))]) (.seq (.region [ iD 5 (.move (.c (.int .i64 (-1))))]) (.seq (.seq (.region [ iD 8 (.load true 1 (.t 2)),iD 9 (.load true 7 (.t 3)),iD 10 (.call f_z33 [(.t 8),(.t 9)]),iD 11 (.len (.t 10)),iD 12 (.move (cI 0))]) (.block 0 (.loop (.seq (.region [ iD 13 (.bin .lss (.t 12) (.t 11))]) (.seq (.cond (.t 13) .skip (.exit 0)) (.seq (.block 1 (.seq (.region [ iD 14 (.indexAddr 5 (.t 10) (.t 12)),iD 15 (.load true 5 (.t 14)),iD 7 (.alloc [(.bool false),(.int .i64 0),.nil,(.int .i64 0),(.int .i64 0)]),iN (.store 5 (.t 7) (.t 15))]) (.region [ iM 16 5,iD 17 (.load true 7 (.t 3)),iD 18 (.fieldAddr 0 (.t 7)),iD 19 (.load true 3 (.t 18)),iD 20 (.call f_z2w [(.t 17),(.t 19)]),iD 21 (.mx (.t 16) (.t 20)),iM 5 21]))) (.region [ iD 22 (.bin .add (.t 12) (cI 1)),iM 12 22]))))))) (.seq (.region [ iM 23 5,iM 4 23]) .ret))))⟩
structure F_z30 (P : Program) where
 id : FuncId
 z33 : F_z33 P
 z2w : F_z2w P
 has : Has P id [] (c_z30 z33.id z2w.id)
def c_z2u : AFunc := ⟨22,[.tmp 4],(.seq (.region [ iD 2 (.box (.t 0)),iD 4 (.move (cI 0))]) (.seq (.seq (.region [ iM 5 1,iD 6 (.bin .lss (.t 5) (cI 0)),iM 7 6,⟨(some 8),.fieldAddr 5 (.t 2),some (some 7,false)⟩,⟨(some 9),.load false 1 (.t 8),some (some 7,false)⟩,⟨(some 10),.bin .lss (.t 9) (cI 0),some (some 7,false)⟩,iD 11 (.pick (.t 7) (.c (.bool true)) (.t 10)),iM 12 11,⟨(some 13),.fieldAddr 5 (.t 2),some (some 12,false)⟩,⟨(some 14),.load false 1 (.t 13),some (some 12,false)⟩,⟨(some 15),.bin .gtr (.t 14) (cI 575999999),some (some 12,false)⟩,iD 16 (.pick (.t 12) (.c (.bool true)) (.t 15))]) (.cond (.t 16) (.seq (.region [ iD 4 (.move (.c (.int .i64 (-1))))]) .ret) .skip)) (.seq (.region [ iM 17 1,iD 18 (.fieldAddr 5 (.t 2)),iD 19 (.load false 1 (.t 18)),iD 20 (.bin .sub (.t 17) (.t 19)),iD 21 (.mx (.c (.int .i64 (-1))) (.t 20)),iM 4 21]) .ret)))⟩
structure F_z2u (P : Program) where
 id : FuncId
 has : Has P id [] c_z2u
def c_z3e : AFunc := ⟨9,[.tmp 2],(.seq (.region [ iD 2 (.move (.c (.bool false)))]) (.seq (.region [ iM 3 0,iD 4 (.bin .geq (.t 3) (.c (.int .i64 (-840)))),iM 5 4,⟨(some 6),.move (.t 0),some (some 5,true)⟩,⟨(some 7),.bin .leq (.t 6) (cI 840),some (some 5,true)⟩,iD 8 (.pick (.t 5) (.t 7) (.c (.bool false))),iM 2 8]) .ret))⟩
structure F_z3e (P : Program) where
 id : FuncId
 has : Has P id [] c_z3e
def c_z38 (f_z3e : FuncId) : AFunc := ⟨53,[.tmp 2],(.seq (.region [ iD 1 (.box (.t 0)),iD 2 (.move (cI 0))]) (.seq (.seq (.region [ iD 5 (.fieldAddr 2 (.t 1)),iD 6 (.load false 1 (.t 5)),iD 7 (.len (.t 6)),iD 8 (.bin .gtr (.t 7) (cI 64))]) (.cond (.t 8) (.seq (.region [ iD 2 (.move (cI 2))]) .ret) .skip)) (.seq (.seq (.region [ iD 9 (.fieldAddr 1 (.t 1)),iD 10 (.load false 1 (.t 9)),iD 11 (.call f_z3e [(.t 10)]),iD 12 (.un .not (.t 11))]) (.cond (.t 12) (.seq (.region [ iD 2 (.move (cI 1))]) .ret) .skip)) (.seq (.seq (.region [ iD 3 (.move (cI 0))]) (.block 0 (.loop (.seq (.seq (.region [ iM 13 3,iD 14 (.fieldAddr 2 (.t 1)),iD 15 (.load false 1 (.t 14)),iD 16 (.len (.t 15)),iD 17 (.bin .lss (.t 13) (.t 16))]) (.cond (.t 17) .skip (.exit 0))) (.seq (.block 1 (.seq (.region [ iD 20 (.fieldAddr 2 (.t 1)),iD 21 (.load false 1 (.t 20)),iM 22 3,iD 23 (.indexAddr 2 (.t 21) (.t 22)),iD 24 (.load true 2 (.t 23)),iD 4 (.alloc [(.int .i64 0),(.int .i64 0)]),iN (.store 2 (.t 4) (.t 24))]) (.seq (.seq (.region [ iD 25 (.fieldAddr 0 (.t 4)),iD 26 (.load false 1 (.t 25)),iD 27 (.bin .lss (.t 26) (cI 1)),iM 28 27,⟨(some 29),.fieldAddr 0 (.t 4),some (some 28,false)⟩,⟨(some 30),.load false 1 (.t 29),some (some 28,false)⟩,⟨(some 31),.bin .gtr (.t 30) (cI 575999999),some (some 28,false)⟩,iD 32 (.pick (.t 28) (.c (.bool true)) (.t 31)),iM 33 32,⟨(some 34),.fieldAddr 1 (.t 4),some (some 33,false)⟩,⟨(some 35),.load false 1 (.t 34),some (some 33,false)⟩,⟨(some 36),.call f_z3e [(.t 35)],some (some 33,false)⟩,⟨(some 37),.un .not (.t 36),some (some 33,false)⟩,iD 38 (.pick (.t 33) (.c (.bool true)) (.t 37))]) (.cond (.t 38) (.seq (.region [ iD 2 (.move (cI 1))]) .ret) .skip)) (.seq (.draw [ jM 39 3,jD 40 (.bin .gtr (.t 39) (cI 0)),jM 41 40,(⟨(some 42),.fieldAddr 0 (.t 4),some (some 41,true)⟩,[]),(⟨(some 43),.load false 1 (.t 42),some (some 41,true)⟩,[]),(⟨(some 44),.fieldAddr 2 (.t 1),some (some 41,true)⟩,[]),(⟨(some 45),.load false 1 (.t 44),some (some 41,true)⟩,[]),(⟨(some 46),.move (.t 3),some (some 41,true)⟩,[]),(⟨(some 47),.bin .sub (.t 46) (cI 1),some (some 41,true)⟩,[]),(⟨(some 48),.indexAddr 2 (.t 45) (.t 47),some (some 41,true)⟩,[]),(⟨(some 49),.fieldAddr 0 (.t 48),some (some 41,true)⟩,[]),(⟨(some 50),.load false 1 (.t 49),some (some 41,true)⟩,[]),(⟨(some 51),.bin .leq (.t 43) (.t 50),some (some 41,true)⟩,[]),jD 52 (.pick (.t 41) (.t 51) (.c (.bool false)))]) (.cond (.t 52) (.seq (.region [ iD 2 (.move (cI 14))]) .ret) .skip))))) (.region [ iM 18 3,iD 19 (.bin .add (.t 18) (cI 1)),iM 3 19])))))) (.seq (.region [ iD 2 (.move (cI 0))]) .ret)))))⟩
structure F_z38 (P : Program) where
 id : FuncId
 z3e : F_z3e P
 has : Has P id [] (c_z38 z3e.id)
def c_z39 (f_z38 : FuncId) : AFunc := ⟨17,[.tmp 4],(.seq (.region [ iD 2 (.box (.t 0)),iD 4 (.move (cI 0))]) (.seq (.seq (.region [ iD 6 (.load true 3 (.t 2)),iD 7 (.call f_z38 [(.t 6)]),iM 5 7]) (.seq (.region [ iM 8 5,iD 9 (.bin .neq (.t 8) (cI 0))]) (.cond (.t 9) (.seq (.region [ iM 10 5,iM 4 10]) .ret) .skip))) (.seq (.seq (.region [ iM 11 1,iD 12 (.bin .lss (.t 11) (cI 0)),iM 13 12,⟨(some 14),.move (.t 1),some (some 13,false)⟩,⟨(some 15),.bin .gtr (.t 14) (cI 575999999),some (some 13,false)⟩,iD 16 (.pick (.t 13) (.c (.bool true)) (.t 15))]) (.cond (.t 16) (.seq (.region [ iD 4 (.move (cI 1))]) .ret) .skip)) (.seq (.region [ iD 4 (.move (cI 0))]) .ret))))⟩
structure F_z39 (P : Program) where
 id : FuncId
 z38 : F_z38 P
 has : Has P id [] (c_z39 z38.id)
def c_z3c : AFunc := ⟨31,[.tmp 4],(.seq (.region [ iD 2 (.box (.t 0)),iD 4 (.move (cI 0))]) (.seq (.region [ iD 7 (.fieldAddr 1 (.t 2)),iD 8 (.load false 1 (.t 7)),iM 5 8]) (.seq (.seq (.region [ iD 6 (.move (cI 0))]) (.block 0 (.loop (.seq (.seq (.region [ iM 9 6,iD 10 (.fieldAddr 2 (.t 2)),iD 11 (.load false 1 (.t 10)),iD 12 (.len (.t 11)),iD 13 (.bin .lss (.t 9) (.t 12))]) (.cond (.t 13) .skip (.exit 0))) (.seq (.block 1 (.seq (.region [ iD 16 (.fieldAddr 2 (.t 2)),iD 17 (.load false 1 (.t 16)),iM 18 6,iD 19 (.indexAddr 2 (.t 17) (.t 18)),iD 20 (.fieldAddr 0 (.t 19)),iD 21 (.load false 1 (.t 20)),iM 22 1,iD 23 (.bin .leq (.t 21) (.t 22))]) (.cond (.t 23) (.region [ iD 24 (.fieldAddr 2 (.t 2)),iD 25 (.load false 1 (.t 24)),iM 26 6,iD 27 (.indexAddr 2 (.t 25) (.t 26)),iD 28 (.fieldAddr 1 (.t 27)),iD 29 (.load false 1 (.t 28)),iM 5 29]) .skip))) (.region [ iM 14 6,iD 15 (.bin .add (.t 14) (cI 1)),iM 6 15])))))) (.seq (.region [ iM 30 5,iM 4 30]) .ret))))⟩
structure F_z3c (P : Program) where
 id : FuncId
 has : Has P id [] c_z3c
def c_z3b (f_z3c : FuncId) (f_z35 : FuncId) : AFunc := ⟨11,[.tmp 4],(.seq (.region [ iD 2 (.box (.t 0)),iD 4 (.move (cI 0))]) (.seq (.region [ iM 5 1,iD 6 (.load true 3 (.t 2)),iM 7 1,iD 8 (.call f_z3c [(.t 6),(.t 7)]),iD 9 (.bin .add (.t 5) (.t 8)),iD 10 (.call f_z35 [(.t 9),(cI 1440)]),iM 4 10]) .ret))⟩
structure F_z3b (P : Program) where
 id : FuncId
 z3c : F_z3c P
 z35 : F_z35 P
 has : Has P id [] (c_z3b z3c.id z35.id)
def c_z3a (f_z3b : FuncId) : AFunc := ⟨38,[.tmp 4],(.seq (.region [ iD 2 (.box (.t 0)),iD 4 (.move (cI 0))]) (.seq (.region [ iD 7 (.load true 3 (.t 2)),iM 8 1,iD 9 (.call f_z3b [(.t 7),(.t 8)]),iD 10 (.mx (cI 0) (.t 9)),iM 5 10]) (.seq (.seq (.region [ iD 6 (.move (cI 0))]) (.block 0 (.loop (.seq (.seq (.region [ iM 11 6,iD 12 (.fieldAddr 2 (.t 2)),iD 13 (.load false 1 (.t 12)),iD 14 (.len (.t 13)),iD 15 (.bin .lss (.t 11) (.t 14))]) (.cond (.t 15) .skip (.exit 0))) (.seq (.block 1 (.seq (.region [ iD 18 (.fieldAddr 2 (.t 2)),iD 19 (.load false 1 (.t 18)),iM 20 6,iD 21 (.indexAddr 2 (.t 19) (.t 20)),iD 22 (.fieldAddr 0 (.t 21)),iD 23 (.load false 1 (.t 22)),iM 24 1,iD 25 (.bin .leq (.t 23) (.t 24))]) (.cond (.t 25) (.draw [ jM 26 5,jD 27 (.load true 3 (.t 2)),jD 28 (.fieldAddr 2 (.t 2)),jD 29 (.load false 1 (.t 28)),jM 30 6,jD 31 (.indexAddr 2 (.t 29) (.t 30)),jD 32 (.fieldAddr 0 (.t 31)),jD 33 (.load false 1 (.t 32)),jD 34 (.bin .sub (.t 33) (cI 1)),jD 35 (.call f_z3b [(.t 27),(.t 34)]),jD 36 (.mx (.t 26) (.t 35)),jM 5 36]) .skip))) (.region [ iM 16 6,iD 17 (.bin .add (.t 16) (cI 1)),iM 6 17])))))) (.seq (.region [ iM 37 5,iM 4 37]) .ret))))⟩
structure F_z3a (P : Program) where
 id : FuncId
 z3b : F_z3b P
 has : Has P id [] (c_z3a z3b.id)
def c_z36 (f_z39 : FuncId) (f_z3a : FuncId) : AFunc := ⟨16,[.tmp 4,.tmp 5],(.seq (.region [ iD 2 (.box (.t 0)),iD 4 (.move (cI 0)),iD 5 (.move (cI 0))]) (.seq (.seq (.region [ iD 7 (.load true 3 (.t 2)),iM 8 1,iD 9 (.call f_z39 [(.t 7),(.t 8)]),iM 6 9]) (.seq (.region [ iM 10 6,iD 11 (.bin .neq (.t 10) (cI 0))]) (.cond (.t 11) (.seq (.region [ iM 12 6,iD 4 (.move (cI 0)),iM 5 12]) .ret) .skip))) (.seq (.region [ iD 13 (.load true 3 (.t 2)),iM 14 1,iD 15 (.call f_z3a [(.t 13),(.t 14)]),iM 4 15,iD 5 (.move (cI 0))]) .ret)))⟩
structure F_z36 (P : Program) where
 id : FuncId
 z39 : F_z39 P
 z3a : F_z3a P
 has : Has P id [] (c_z36 z39.id z3a.id)
def c_z3d (f_z3a : FuncId) : AFunc := ⟨24,[.tmp 4],(.seq (.region [ iD 2 (.box (.t 0)),iD 4 (.move (cI 0))]) (.seq (.region [ iD 5 (.move (cI 0)),iD 6 (.move (cI 576000000))]) (.seq (.block 0 (.loop (.seq (.seq (.region [ iM 8 5,iM 9 6,iD 10 (.bin .lss (.t 8) (.t 9))]) (.cond (.t 10) .skip (.exit 0))) (.block 1 (.seq (.region [ iM 11 5,iM 12 6,iD 13 (.bin .add (.t 11) (.t 12)),iD 14 (.bin .quo (.t 13) (cI 2)),iM 7 14]) (.seq (.region [ iD 15 (.load true 3 (.t 2)),iM 16 7,iD 17 (.call f_z3a [(.t 15),(.t 16)]),iM 18 1,iD 19 (.bin .geq (.t 17) (.t 18))]) (.cond (.t 19) (.region [ iM 20 7,iM 6 20]) (.region [ iM 21 7,iD 22 (.bin .add (.t 21) (cI 1)),iM 5 22])))))))) (.seq (.region [ iM 23 5,iM 4 23]) .ret))))⟩
structure F_z3d (P : Program) where
 id : FuncId
 z3a : F_z3a P
 has : Has P id [] (c_z3d z3a.id)
def c_z37 (f_z38 : FuncId) (f_z3d : FuncId) : AFunc := ⟨26,[.tmp 4,.tmp 5,.tmp 6],(.seq (.region [ iD 2 (.box (.t 0)),iD 4 (.move (cI 0)),iD 5 (.move (cI 0)),iD 6 (.move (cI 0))]) (.seq (.seq (.region [ iD 8 (.load true 3 (.t 2)),iD 9 (.call f_z38 [(.t 8)]),iM 7 9]) (.seq (.region [ iM 10 7,iD 11 (.bin .neq (.t 10) (cI 0))]) (.cond (.t 11) (.seq (.region [ iM 12 7,iD 4 (.move (cI 0)),iD 5 (.move (cI 0)),iM 6 12]) .ret) .skip))) (.seq (.seq (.region [ iM 13 1,iD 14 (.bin .lss (.t 13) (cI 0)),iM 15 14,⟨(some 16),.move (.t 1),some (some 15,false)⟩,⟨(some 17),.bin .gtr (.t 16) (cI 400000),some (some 15,false)⟩,iD 18 (.pick (.t 15) (.c (.bool true)) (.t 17))]) (.cond (.t 18) (.seq (.region [ iD 4 (.move (cI 0)),iD 5 (.move (cI 0)),iD 6 (.move (cI 1))]) .ret) .skip)) (.seq (.draw [ jD 19 (.load true 3 (.t 2)),jM 20 1,jD 21 (.call f_z3d [(.t 19),(.t 20)]),jD 22 (.load true 3 (.t 2)),jM 23 1,jD 24 (.bin .add (.t 23) (cI 1)),jD 25 (.call f_z3d [(.t 22),(.t 24)]),jM 4 21,jM 5 25,jD 6 (.move (cI 0))]) .ret))))⟩
structure F_z37 (P : Program) where
 id : FuncId
 z38 : F_z38 P
 z3d : F_z3d P
 has : Has P id [] (c_z37 z38.id z3d.id)
def c_z2v (f_z38 : FuncId) (f_z37 : FuncId) : AFunc := ⟨49,[.tmp 8,.tmp 9],(.seq (.region [ iD 4 (.box (.t 0)),iD 5 (.box (.t 1)),iD 8 (.move (cI 0)),iD 9 (.move (cI 0))]) (.seq (.seq (.region [ iM 14 2,iD 15 (.bin .lss (.t 14) (.c (.int .i64 (-1)))),iM 16 15,⟨(some 17),.move (.t 2),some (some 16,false)⟩,⟨(some 18),.bin .gtr (.t 17) (cI 575999999),some (some 16,false)⟩,iD 19 (.pick (.t 16) (.c (.bool true)) (.t 18))]) (.cond (.t 19) (.seq (.region [ iD 8 (.move (cI 0)),iD 9 (.move (cI 1))]) .ret) .skip)) (.seq (.seq (.region [ iD 20 (.load true 3 (.t 5)),iD 21 (.call f_z38 [(.t 20)]),iM 10 21]) (.seq (.region [ iM 22 10,iD 23 (.bin .neq (.t 22) (cI 0))]) (.cond (.t 23) (.seq (.region [ iM 24 10,iD 8 (.move (cI 0)),iM 9 24]) .ret) .skip))) (.seq (.seq (.region [ iM 25 3,iD 26 (.bin .lss (.t 25) (.c (.int .i64 (-1)))),iM 27 26,⟨(some 28),.move (.t 3),some (some 27,false)⟩,⟨(some 29),.bin .gtr (.t 28) (cI 400000),some (some 27,false)⟩,iD 30 (.pick (.t 27) (.c (.bool true)) (.t 29))]) (.cond (.t 30) (.seq (.region [ iD 8 (.move (cI 0)),iD 9 (.move (cI 1))]) .ret) .skip)) (.seq (.seq (.region [ iM 31 3,iD 32 (.bin .eql (.t 31) (.c (.int .i64 (-1))))]) (.cond (.t 32) (.seq (.region [ iD 8 (.move (cI 0)),iD 9 (.move (cI 0))]) .ret) .skip)) (.seq (.region [ iD 34 (.load true 3 (.t 5)),iM 35 3,iD 36 (.call f_z37 [(.t 34),(.t 35)]),iM 33 36,iD 37 (.extract (.t 33) 0),iD 38 (.extract (.t 33) 1),iD 39 (.extract (.t 33) 2),iM 11 37,iM 12 38,iM 13 39]) (.seq (.seq (.region [ iM 40 12,iM 41 2,iD 42 (.bin .gtr (.t 40) (.t 41))]) (.cond (.t 42) (.seq (.region [ iD 8 (.move (cI 0)),iD 9 (.move (cI 0))]) .ret) .skip)) (.seq (.seq (.region [ iM 43 2,iM 44 12,iD 45 (.bin .sub (.t 43) (.t 44)),iD 46 (.fieldAddr 6 (.t 4)),iD 47 (.load false 1 (.t 46)),iD 48 (.bin .geq (.t 45) (.t 47))]) (.cond (.t 48) (.seq (.region [ iD 8 (.move (cI 2)),iD 9 (.move (cI 0))]) .ret) .skip)) (.seq (.region [ iD 8 (.move (cI 1)),iD 9 (.move (cI 0))]) .ret)))))))))⟩
structure F_z2v (P : Program) where
 id : FuncId
 z38 : F_z38 P
 z37 : F_z37 P
 has : Has P id [] (c_z2v z38.id z37.id)
def c_z2t (f_z38 : FuncId) (f_z2s : FuncId) (f_z2w : FuncId) (f_z36 : FuncId) (f_z2v : FuncId) : AFunc := ⟨54,[.tmp 8],(.seq (.region [ iD 4 (.box (.t 0)),iD 5 (.box (.t 1)),iD 7 (.box (.t 3)),iD 8 (.move (cI 0))]) (.seq (.seq (.region [ iM 16 2,iD 17 (.bin .lss (.t 16) (.c (.int .i64 (-1)))),iM 18 17,⟨(some 19),.move (.t 2),some (some 18,false)⟩,⟨(some 20),.bin .gtr (.t 19) (cI 575999999),some (some 18,false)⟩,iD 21 (.pick (.t 18) (.c (.bool true)) (.t 20))]) (.cond (.t 21) (.seq (.region [ iD 8 (.move (cI 1))]) .ret) .skip)) (.seq (.seq (.region [ iD 22 (.load true 3 (.t 5)),iD 23 (.call f_z38 [(.t 22)]),iM 9 23]) (.seq (.region [ iM 24 9,iD 25 (.bin .neq (.t 24) (cI 0))]) (.cond (.t 25) (.seq (.region [ iM 26 9,iM 8 26]) .ret) .skip))) (.seq (.seq (.region [ iD 27 (.load true 7 (.t 4)),iD 28 (.load true 3 (.t 7)),iD 29 (.call f_z2s [(.t 27),(.t 28)]),iM 10 29]) (.seq (.region [ iM 30 10,iD 31 (.bin .neq (.t 30) (cI 0))]) (.cond (.t 31) (.seq (.region [ iM 32 10,iM 8 32]) .ret) .skip))) (.seq (.region [ iD 33 (.load true 7 (.t 4)),iD 34 (.load true 3 (.t 7)),iD 35 (.call f_z2w [(.t 33),(.t 34)]),iM 11 35]) (.seq (.seq (.region [ iM 36 11,iD 37 (.bin .lss (.t 36) (cI 0))]) (.cond (.t 37) (.seq (.region [ iD 8 (.move (cI 0))]) .ret) .skip)) (.seq (.region [ iD 39 (.load true 3 (.t 5)),iM 40 11,iD 41 (.call f_z36 [(.t 39),(.t 40)]),iM 38 41,iD 42 (.extract (.t 38) 0),iD 43 (.extract (.t 38) 1),iM 12 42,iM 13 43]) (.seq (.seq (.region [ iD 45 (.load true 7 (.t 4)),iD 46 (.load true 3 (.t 5)),iM 47 2,iM 48 12,iD 49 (.call f_z2v [(.t 45),(.t 46),(.t 47),(.t 48)]),iM 44 49,iD 50 (.extract (.t 44) 0),iD 51 (.extract (.t 44) 1),iM 14 50,iM 15 51]) (.seq (.region [ iM 52 14,iD 53 (.bin .eql (.t 52) (cI 2))]) (.cond (.t 53) (.seq (.region [ iD 8 (.move (cI 15))]) .ret) .skip))) (.seq (.region [ iD 8 (.move (cI 0))]) .ret)))))))))⟩
structure F_z2t (P : Program) where
 id : FuncId
 z38 : F_z38 P
 z2s : F_z2s P
 z2w : F_z2w P
 z36 : F_z36 P
 z2v : F_z2v P
 has : Has P id [] (c_z2t z38.id z2s.id z2w.id z36.id z2v.id)
def c_z31 (f_z34 : FuncId) (f_z2n : FuncId) (f_z2o : FuncId) (f_z2z : FuncId) (f_z32 : FuncId) (f_z2m : FuncId) (f_z30 : FuncId) (f_z2u : FuncId) (f_z2t : FuncId) : AFunc := ⟨129,[.cell true 1 6,.cell true 4 7,.tmp 8,.tmp 9],(.seq (.region [ iD 3 (.box (.t 0)),iD 4 (.box (.t 1)),iD 5 (.box (.t 2)),iD 6 (.alloc [.nil]),iD 7 (.alloc [(.str (bs [])),(.str (bs [])),.nil,.nil]),iD 8 (.move (.c (.bool false))),iD 9 (.move (cI 0))]) (.seq (.region [ iD 22 (.load true 6 (.t 4)),iD 23 (.fieldAddr 1 (.t 5)),iD 24 (.load false 1 (.t 23)),iD 25 (.call f_z34 [(.t 22),(.t 24)]),iM 21 25,iD 26 (.extract (.t 21) 0),iD 27 (.extract (.t 21) 1),iD 28 (.extract (.t 21) 2),iD 10 (.alloc [(.str (bs [])),.nil,.nil,(.str (bs [])),(.str (bs [])),(.int .i64 0),(.int .i64 0)]),iD 11 (.alloc [(.str (bs [])),(.int .i64 0),.nil]),iN (.store 7 (.t 10) (.t 26)),iN (.store 3 (.t 11) (.t 27)),iM 12 28]) (.seq (.seq (.region [ iM 29 12,iD 30 (.un .not (.t 29))]) (.cond (.t 30) (.seq (.region [ iD 31 (.build [.nil] []),iD 32 (.build [(.str (bs [])),(.str (bs [])),.nil,.nil] []),iN (.store 1 (.t 6) (.t 31)),iN (.store 4 (.t 7) (.t 32)),iD 8 (.move (.c (.bool false))),iD 9 (.move (cI 5))]) .ret) .skip)) (.seq (.seq (.region [ iD 34 (.load true 3 (.t 5)),iD 35 (.call f_z2n [(.t 34)]),iM 33 35,iD 36 (.extract (.t 33) 0),iD 37 (.extract (.t 33) 1),iM 13 36,iM 14 37]) (.seq (.region [ iM 38 14,iD 39 (.bin .neq (.t 38) (cI 0))]) (.cond (.t 39) (.seq (.region [ iD 40 (.build [.nil] []),iD 41 (.build [(.str (bs [])),(.str (bs [])),.nil,.nil] []),iM 42 14,iN (.store 1 (.t 6) (.t 40)),iN (.store 4 (.t 7) (.t 41)),iD 8 (.move (.c (.bool false))),iM 9 42]) .ret) .skip))) (.seq (.region [ iD 15 (.move (.c (.int .i64 (-1))))]) (.seq (.seq (.region [ iD 16 (.move (cI 0))]) (.block 0 (.loop (.seq (.seq (.region [ iM 43 16,iD 44 (.fieldAddr 0 (.t 3)),iD 45 (.load false 1 (.t 44)),iD 46 (.len (.t 45)),iD 47 (.bin .lss (.t 43) (.t 46))]) (.cond (.t 47) .skip (.exit 0))) (.seq (.block 1 (.seq (.seq (.draw [ jD 50 (.fieldAddr 0 (.t 3)),jD 51 (.load false 1 (.t 50)),jM 52 16,jD 53 (.indexAddr 4 (.t 51) (.t 52)),jD 54 (.fieldAddr 0 (.t 53)),jD 55 (.fieldAddr 0 (.t 54)),jD 56 (.load false 1 (.t 55)),jD 57 (.fieldAddr 0 (.t 5)),jD 58 (.load false 1 (.t 57)),jD 59 (.bin .neq (.t 56) (.t 58))]) (.cond (.t 59) (.exit 1) .skip)) (.seq (.seq (.draw [ jD 60 (.fieldAddr 0 (.t 3)),jD 61 (.load false 1 (.t 60)),jM 62 16,jD 63 (.indexAddr 4 (.t 61) (.t 62)),jD 64 (.fieldAddr 0 (.t 63)),jD 65 (.load true 3 (.t 64)),jD 66 (.load true 3 (.t 5)),jD 67 (.call f_z2o [(.t 65),(.t 66)]),jD 68 (.un .not (.t 67))]) (.cond (.t 68) (.seq (.region [ iD 69 (.build [.nil] []),iD 70 (.build [(.str (bs [])),(.str (bs [])),.nil,.nil] []),iN (.store 1 (.t 6) (.t 69)),iN (.store 4 (.t 7) (.t 70)),iD 8 (.move (.c (.bool false))),iD 9 (.move (cI 6))]) .ret) .skip)) (.seq (.region [ iM 71 15,iD 72 (.bin .lss (.t 71) (cI 0))]) (.cond (.t 72) (.region [ iM 73 16,iM 15 73]) .skip))))) (.region [ iM 48 16,iD 49 (.bin .add (.t 48) (cI 1)),iM 16 49])))))) (.seq (.region [ iD 74 (.load true 1 (.t 3)),iD 75 (.call f_z2z [(.t 74)]),iD 17 (.alloc [.nil]),iN (.store 1 (.t 17) (.t 75))]) (.seq (.seq (.region [ iM 76 15,iD 77 (.bin .geq (.t 76) (cI 0))]) (.cond (.t 77) (.seq (.draw [ jD 78 (.load true 1 (.t 17)),jD 79 (.fieldAddr 0 (.t 3)),jD 80 (.load false 1 (.t 79)),jM 81 15,jD 82 (.indexAddr 4 (.t 80) (.t 81)),jD 83 (.load true 4 (.t 82)),jD 84 (.call f_z32 [(.t 83)]),(iN (.store 1 (.t 6) (.t 78)),[]),(iN (.store 4 (.t 7) (.t 84)),[]),jD 8 (.move (.c (.bool false))),jD 9 (.move (cI 0))]) .ret) .skip)) (.seq (.seq (.region [ iD 85 (.fieldAddr 0 (.t 3)),iD 86 (.load false 1 (.t 85)),iD 87 (.len (.t 86)),iD 88 (.bin .geq (.t 87) (cI 1024))]) (.cond (.t 88) (.seq (.region [ iD 89 (.build [.nil] []),iD 90 (.build [(.str (bs [])),(.str (bs [])),.nil,.nil] []),iN (.store 1 (.t 6) (.t 89)),iN (.store 4 (.t 7) (.t 90)),iD 8 (.move (.c (.bool false))),iD 9 (.move (cI 2))]) .ret) .skip)) (.seq (.region [ iD 91 (.load true 3 (.t 5)),iD 92 (.call f_z2m [(.t 91)]),iD 93 (.build [(.str (bs [])),(.str (bs [])),.nil,.nil] [(0,3,(.t 92))]),iD 18 (.alloc [(.str (bs [])),(.str (bs [])),.nil,.nil]),iN (.store 4 (.t 18) (.t 93))]) (.seq (.draw [ jD 94 (.load true 7 (.t 10)),jD 95 (.load true 1 (.t 3)),jD 96 (.load true 7 (.t 10)),jD 97 (.call f_z30 [(.t 95),(.t 96)]),jD 98 (.call f_z2u [(.t 94),(.t 97)]),jM 19 98]) (.seq (.seq (.region [ iD 20 (.move (cI 0))]) (.seq (.block 2 (.loop (.seq (.seq (.region [ iM 99 20,iD 100 (.fieldAddr 2 (.t 5)),iD 101 (.load false 1 (.t 100)),iD 102 (.len (.t 101)),iD 103 (.bin .lss (.t 99) (.t 102))]) (.cond (.t 103) .skip (.exit 2))) (.seq (.block 3 (.draw [ jD 106 (.fieldAddr 3 (.t 18)),jD 107 (.load false 1 (.t 106)),jD 108 (.load true 7 (.t 10)),jD 109 (.load true 3 (.t 11)),jM 110 19,jD 111 (.fieldAddr 2 (.t 5)),jD 112 (.load false 1 (.t 111)),jM 113 20,jD 114 (.indexAddr 3 (.t 112) (.t 113)),jD 115 (.load true 3 (.t 114)),jD 116 (.call f_z2t [(.t 108),(.t 109),(.t 110),(.t 115)]),jD 117 (.buildSlice 1 1 [(.int .i64 0)] [(0,(.t 116))]),jD 118 (.append 1 8 [(.int .i64 0)] (.t 107) (.t 117)),jD 119 (.fieldAddr 3 (.t 18)),(iN (.store 1 (.t 119) (.t 118)),[])])) (.region [ iM 104 20,iD 105 (.bin .add (.t 104) (cI 1)),iM 20 105]))))) .ghost)) (.seq (.draw [ jD 120 (.fieldAddr 0 (.t 17)),jD 121 (.load false 1 (.t 120)),jD 122 (.load true 4 (.t 18)),jD 123 (.call f_z32 [(.t 122)]),jD 124 (.buildSlice 4 1 [(.str (bs [])),(.str (bs [])),.nil,.nil] [(0,(.t 123))]),jD 125 (.append 4 80 [(.str (bs [])),(.str (bs [])),.nil,.nil] (.t 121) (.t 124)),jD 126 (.fieldAddr 0 (.t 17)),(iN (.store 1 (.t 126) (.t 125)),[])]) (.seq (.draw [ jD 127 (.load true 1 (.t 17)),(iD 128 (.load true 4 (.t 18)),[3]),(iN (.store 1 (.t 6) (.t 127)),[]),(iN (.store 4 (.t 7) (.t 128)),[]),jD 8 (.move (.c (.bool true))),jD 9 (.move (cI 0))]) .ret))))))))))))))⟩
structure F_z31 (P : Program) where
 id : FuncId
 z34 : F_z34 P
 z2n : F_z2n P
 z2o : F_z2o P
 z2z : F_z2z P
 z32 : F_z32 P
 z2m : F_z2m P
 z30 : F_z30 P
 z2u : F_z2u P
 z2t : F_z2t P
 has : Has P id [200002] (c_z31 z34.id z2n.id z2o.id z2z.id z32.id z2m.id z30.id z2u.id z2t.id)
def c_z2y (f_z31 : FuncId) : AFunc := ⟨25,[.cell true 1 6,.cell true 4 7,.tmp 8],(.seq (.region [ iD 3 (.box (.t 0)),iD 4 (.box (.t 1)),iD 5 (.box (.t 2)),iD 6 (.alloc [.nil]),iD 7 (.alloc [(.str (bs [])),(.str (bs [])),.nil,.nil]),iD 8 (.move (cI 0))]) (.seq (.region [ iD 14 (.load true 1 (.t 3)),iD 15 (.load true 6 (.t 4)),iD 16 (.load true 3 (.t 5)),iD 17 (.call f_z31 [(.t 14),(.t 15),(.t 16)]),iM 13 17,iD 18 (.extract (.t 13) 0),iD 19 (.extract (.t 13) 1),iD 20 (.extract (.t 13) 2),iD 21 (.extract (.t 13) 3),iD 9 (.alloc [.nil]),iD 10 (.alloc [(.str (bs [])),(.str (bs [])),.nil,.nil]),iN (.store 1 (.t 9) (.t 18)),iN (.store 4 (.t 10) (.t 19)),iM 11 20,iM 12 21]) (.seq (.draw [ jD 22 (.load true 1 (.t 9)),(iD 23 (.load true 4 (.t 10)),[2]),jM 24 12,(iN (.store 1 (.t 6) (.t 22)),[]),(iN (.store 4 (.t 7) (.t 23)),[]),jM 8 24]) .ret)))⟩
structure F_z2y (P : Program) where
 id : FuncId
 z31 : F_z31 P
 has : Has P id [] (c_z2y z31.id)
def c_z3s (f_z3x : FuncId) (f_z3t : FuncId) (f_z2y : FuncId) : AFunc := ⟨45,[.cell true 1 10],(.seq (.region [ iD 5 (.box (.t 0)),iD 6 (.box (.t 1)),iD 10 (.alloc [.nil])]) (.seq (.seq (.region [ iD 15 (.fieldAddr 1 (.t 6)),iD 16 (.load false 1 (.t 15)),iD 17 (.len (.t 16)),iD 18 (.bin .eql (.t 17) (cI 0))]) (.cond (.t 18) (.seq (.region [ iD 19 (.load true 1 (.t 5)),iN (.store 1 (.t 10) (.t 19))]) .ret) .skip)) (.seq (.seq (.draw [ jM 20 2,jD 21 (.fieldAddr 1 (.t 6)),(iD 22 (.load false 1 (.t 21)),[7]),jM 23 3,jD 24 (.fieldAddr 1 (.t 6)),jD 25 (.load false 1 (.t 24)),jD 26 (.len (.t 25)),jD 27 (.callE f_z3x [(.t 23),(.t 26)]),jD 28 (.indexAddr 7 (.t 22) (.t 27)),jD 29 (.load true 7 (.t 28)),jM 30 3,jM 31 4,jD 32 (.callE f_z3t [(.t 20),(.t 29),(.t 30),(.t 31)]),jD 11 (.alloc [(.str (bs [])),(.str (bs [])),.nil]),(iN (.store 3 (.t 11) (.t 32)),[])]) .ghost) (.seq (.seq (.region [ iD 34 (.load true 1 (.t 5)),iD 35 (.load true 6 (.t 6)),iD 36 (.load true 3 (.t 11)),iD 37 (.call f_z2y [(.t 34),(.t 35),(.t 36)]),iM 33 37,iD 38 (.extract (.t 33) 0),iD 39 (.extract (.t 33) 1),iD 40 (.extract (.t 33) 2),iD 12 (.alloc [.nil]),iD 13 (.alloc [(.str (bs [])),(.str (bs [])),.nil,.nil]),iN (.store 1 (.t 12) (.t 38)),iN (.store 4 (.t 13) (.t 39)),iM 14 40]) (.seq (.region [ iM 41 14,iD 42 (.bin .eql (.t 41) (cI 0))]) (.cond (.t 42) (.seq (.region [ iD 43 (.load true 1 (.t 12)),iN (.store 1 (.t 10) (.t 43))]) .ret) .skip))) (.seq (.region [ iD 44 (.load true 1 (.t 5)),iN (.store 1 (.t 10) (.t 44))]) .ret)))))⟩
structure F_z3s (P : Program) where
 id : FuncId
 z3x : F_z3x P
 z3t : F_z3t P
 z2y : F_z2y P
 has : Has P id [27, 32, 100011] (c_z3s z3x.id z3t.id z2y.id)
def c_z3v (f_z3x : FuncId) (f_z3w : FuncId) (f_z3s : FuncId) : AFunc := ⟨34,[.cell true 1 8],(.seq (.region [ iD 4 (.box (.t 0)),iD 8 (.alloc [.nil])]) (.seq (.region [ iD 9 (.alloc [.nil])]) (.seq (.seq (.region [ iD 10 (.move (cI 0))]) (.block 0 (.loop (.seq (.seq (.region [ iM 11 10,iM 12 2,iD 13 (.bin .lss (.t 11) (.t 12)),iM 14 13,⟨(some 15),.fieldAddr 1 (.t 4),some (some 14,true)⟩,⟨(some 16),.load false 1 (.t 15),some (some 14,true)⟩,⟨(some 17),.len (.t 16),some (some 14,true)⟩,⟨(some 18),.bin .gtr (.t 17) (cI 0),some (some 14,true)⟩,iD 19 (.pick (.t 14) (.t 18) (.c (.bool false)))]) (.cond (.t 19) .skip (.exit 0))) (.seq (.block 1 (.draw [ (iD 22 (.load true 1 (.t 9)),[7]),(iD 23 (.load true 6 (.t 4)),[7]),jM 24 10,jM 25 1,jD 26 (.callE f_z3x [(.t 25),(cI 8)]),jD 27 (.bin .quo (.t 26) (cI 7)),jD 28 (.bin .sub (.t 24) (.t 27)),jD 29 (.call f_z3w [(.t 28)]),jM 30 1,jM 31 3,jD 32 (.callE f_z3s [(.t 22),(.t 23),(.t 29),(.t 30),(.t 31)]),(iN (.store 1 (.t 9) (.t 32)),[])])) (.region [ iM 20 10,iD 21 (.bin .add (.t 20) (cI 1)),iM 10 21])))))) (.seq (.region [ iD 33 (.load true 1 (.t 9)),iN (.store 1 (.t 8) (.t 33))]) .ret))))⟩
structure F_z3v (P : Program) where
 id : FuncId
 z3x : F_z3x P
 z3w : F_z3w P
 z3s : F_z3s P
 has : Has P id [26, 32] (c_z3v z3x.id z3w.id z3s.id)
def c_z28 (f_z29 : FuncId) (f_z3v : FuncId) : AFunc := ⟨22,[.cell true 7 4,.cell true 1 5,.tmp 6],(.seq (.region [ iD 4 (.alloc [(.str (bs [])),.nil,.nil,(.str (bs [])),(.str (bs [])),(.int .i64 0),(.int .i64 0)]),iD 5 (.alloc [.nil]),iD 6 (.move (.c .junk))]) (.seq (.region [ iM 9 0,iD 10 (.call f_z29 [(.t 9)]),iD 7 (.alloc [.nil,.nil,.nil,.nil,.nil,.nil]),iN (.store 6 (.t 7) (.t 10))]) (.seq (.region [ iM 11 1,iD 12 (.build [.nil,(.int .i64 0)] [(0,1,(.t 11))]),iD 13 (.box (.t 12)),iM 8 13]) (.seq (.draw [ jD 14 (.fieldAddr 1 (.t 7)),(iD 15 (.load false 1 (.t 14)),[4]),(iD 16 (.indexAddr 7 (.t 15) (cI 0)),[4]),(iD 17 (.load true 7 (.t 16)),[4]),jD 18 (.load true 6 (.t 7)),jM 19 8,jD 20 (.callE f_z3v [(.t 18),(.t 19),(cI 4),(cI 6)]),jM 21 8,(iN (.store 7 (.t 4) (.t 17)),[]),(iN (.store 1 (.t 5) (.t 20)),[]),jM 6 21]) .ret))))⟩
structure F_z28 (P : Program) where
 id : FuncId
 z29 : F_z29 P
 z3v : F_z3v P
 has : Has P id [20] (c_z28 z29.id z3v.id)
def c_z2h (f_z2i : FuncId) : AFunc := ⟨42,[.tmp 4],(.seq (.region [ iD 4 (.move (.c (.bool false)))]) (.seq (.seq (.region [ iM 6 0,iD 7 (.len (.t 6)),iM 8 1,iD 9 (.len (.t 8)),iD 10 (.bin .neq (.t 7) (.t 9))]) (.cond (.t 10) (.seq (.region [ iD 4 (.move (.c (.bool false)))]) .ret) .skip)) (.seq (.seq (.region [ iD 5 (.move (cI 0))]) (.block 0 (.loop (.seq (.seq (.region [ iM 11 5,iM 12 0,iD 13 (.len (.t 12)),iD 14 (.bin .lss (.t 11) (.t 13))]) (.cond (.t 14) .skip (.exit 0))) (.seq (.block 1 (.seq (.draw [ jM 17 0,jM 18 5,jD 19 (.indexAddr 2 (.t 17) (.t 18)),jD 20 (.fieldAddr 1 (.t 19)),jD 21 (.load false 1 (.t 20)),jM 22 1,jM 23 5,jD 24 (.indexAddr 2 (.t 22) (.t 23)),jD 25 (.fieldAddr 1 (.t 24)),jD 26 (.load false 1 (.t 25)),jD 27 (.bin .neq (.t 21) (.t 26)),jM 28 27,(⟨(some 29),.move (.t 0),some (some 28,false)⟩,[]),(⟨(some 30),.move (.t 5),some (some 28,false)⟩,[]),(⟨(some 31),.indexAddr 2 (.t 29) (.t 30),some (some 28,false)⟩,[]),(⟨(some 32),.fieldAddr 0 (.t 31),some (some 28,false)⟩,[]),(⟨(some 33),.load false 1 (.t 32),some (some 28,false)⟩,[]),(⟨(some 34),.move (.t 1),some (some 28,false)⟩,[]),(⟨(some 35),.move (.t 5),some (some 28,false)⟩,[]),(⟨(some 36),.indexAddr 2 (.t 34) (.t 35),some (some 28,false)⟩,[]),(⟨(some 37),.fieldAddr 0 (.t 36),some (some 28,false)⟩,[]),(⟨(some 38),.load false 1 (.t 37),some (some 28,false)⟩,[]),(⟨(some 39),.call f_z2i [(.t 33),(.t 38)],some (some 28,false)⟩,[]),(⟨(some 40),.un .not (.t 39),some (some 28,false)⟩,[]),jD 41 (.pick (.t 28) (.c (.bool true)) (.t 40))]) (.cond (.t 41) (.seq (.region [ iD 4 (.move (.c (.bool false)))]) .ret) .skip))) (.region [ iM 15 5,iD 16 (.bin .add (.t 15) (cI 1)),iM 5 16])))))) (.seq (.region [ iD 4 (.move (.c (.bool true)))]) .ret))))⟩
structure F_z2h (P : Program) where
 id : FuncId
 z2i : F_z2i P
 has : Has P id [] (c_z2h z2i.id)
def c_z0y (f_z1e : FuncId) : AFunc := ⟨8,[.cell true 3 2],(.seq (.region [ iD 1 (.box (.t 0)),iD 2 (.alloc [(.bool false),(.int .i64 0),.nil])]) (.seq (.region [ iD 3 (.fieldAddr 2 (.t 1)),iD 4 (.load false 1 (.t 3)),iD 5 (.call f_z1e [(.t 4)]),iD 6 (.fieldAddr 2 (.t 1)),iN (.store 1 (.t 6) (.t 5))]) (.seq (.region [ iD 7 (.load true 3 (.t 1)),iN (.store 3 (.t 2) (.t 7))]) .ret)))⟩
structure F_z0y (P : Program) where
 id : FuncId
 z1e : F_z1e P
 has : Has P id [] (c_z0y z1e.id)
def c_z0w (f_z0y : FuncId) : AFunc := ⟨15,[],(.seq (.region [ iD 6 (.box (.t 2))]) (.draw [ jD 7 (.load false 1 (.t 3)),jD 8 (.load true 3 (.t 6)),jD 9 (.call f_z0y [(.t 8)]),jM 10 0,jM 11 1,jD 12 (.build [(.bool false),(.int .i64 0),.nil,(.int .i64 0),(.int .i64 0)] [(0,3,(.t 9)),(3,1,(.t 10)),(4,1,(.t 11))]),jD 13 (.buildSlice 5 1 [(.bool false),(.int .i64 0),.nil,(.int .i64 0),(.int .i64 0)] [(0,(.t 12))]),jD 14 (.append 5 56 [(.bool false),(.int .i64 0),.nil,(.int .i64 0),(.int .i64 0)] (.t 7) (.t 13)),(iN (.store 1 (.t 3) (.t 14)),[])]))⟩
structure F_z0w (P : Program) where
 id : FuncId
 z0y : F_z0y P
 has : Has P id [] (c_z0w z0y.id)
def c_z0z (f_z43 : FuncId) : AFunc := ⟨39,[.tmp 6],(.seq (.region [ iD 3 (.box (.t 0)),iD 5 (.box (.t 2)),iD 6 (.move (.c (.bool false)))]) (.seq (.draw [ jD 7 (.fieldAddr 0 (.t 3)),jD 8 (.fieldAddr 1 (.t 7)),jD 9 (.load false 1 (.t 8)),jD 10 (.fieldAddr 0 (.t 5)),jD 11 (.load false 1 (.t 10)),jD 12 (.bin .eql (.t 9) (.t 11)),jM 13 12,(⟨(some 14),.move (.t 1),some (some 13,true)⟩,[]),(⟨(some 15),.fieldAddr 3 (.t 3),some (some 13,true)⟩,[]),(⟨(some 16),.load false 1 (.t 15),some (some 13,true)⟩,[]),(⟨(some 17),.len (.t 16),some (some 13,true)⟩,[]),(⟨(some 18),.bin .lss (.t 14) (.t 17),some (some 13,true)⟩,[]),jD 19 (.pick (.t 13) (.t 18) (.c (.bool false))),jM 20 19,(⟨(some 21),.fieldAddr 3 (.t 3),some (some 20,true)⟩,[]),(⟨(some 22),.load false 1 (.t 21),some (some 20,true)⟩,[]),(⟨(some 23),.move (.t 1),some (some 20,true)⟩,[]),(⟨(some 24),.indexAddr 1 (.t 22) (.t 23),some (some 20,true)⟩,[]),(⟨(some 25),.load false 1 (.t 24),some (some 20,true)⟩,[]),(⟨(some 26),.bin .eql (.t 25) (cI 0),some (some 20,true)⟩,[]),jD 27 (.pick (.t 20) (.t 26) (.c (.bool false))),jM 28 27,(⟨(some 29),.load true 7 (.t 5),some (some 28,true)⟩,[]),(⟨(some 30),.fieldAddr 0 (.t 3),some (some 28,true)⟩,[]),(⟨(some 31),.fieldAddr 2 (.t 30),some (some 28,true)⟩,[]),(⟨(some 32),.load false 1 (.t 31),some (some 28,true)⟩,[]),(⟨(some 33),.move (.t 1),some (some 28,true)⟩,[]),(⟨(some 34),.indexAddr 3 (.t 32) (.t 33),some (some 28,true)⟩,[]),(⟨(some 35),.load true 3 (.t 34),some (some 28,true)⟩,[]),(⟨(some 36),.call f_z43 [(.t 29),(.t 35)],some (some 28,true)⟩,[]),(⟨(some 37),.bin .eql (.t 36) (cI 0),some (some 28,true)⟩,[]),jD 38 (.pick (.t 28) (.t 37) (.c (.bool false))),jM 6 38]) .ret))⟩
structure F_z0z (P : Program) where
 id : FuncId
 z43 : F_z43 P
 has : Has P id [] (c_z0z z43.id)
def c_z10 (f_z0z : FuncId) : AFunc := ⟨38,[],(.seq (.region [ iD 3 (.box (.t 0)),iD 4 (.box (.t 1))]) (.seq (.region [ iD 10 (.fieldAddr 0 (.t 3)),iD 11 (.load false 1 (.t 10)),iD 12 (.len (.t 11)),iD 13 (.move (cI 0))]) (.block 0 (.loop (.seq (.region [ iD 14 (.bin .lss (.t 13) (.t 12))]) (.seq (.cond (.t 14) .skip (.exit 0)) (.seq (.block 1 (.seq (.region [ iM 15 13,iD 16 (.indexAddr 4 (.t 11) (.t 13)),iD 17 (.load true 4 (.t 16)),iD 7 (.alloc [(.str (bs [])),(.str (bs [])),.nil,.nil]),iM 6 15,iN (.store 4 (.t 7) (.t 17))]) (.seq (.region [ iD 18 (.fieldAddr 0 (.t 7)),iD 19 (.fieldAddr 2 (.t 18)),iD 20 (.load false 1 (.t 19)),iD 21 (.len (.t 20)),iD 22 (.move (cI 0))]) (.block 2 (.loop (.seq (.region [ iD 23 (.bin .lss (.t 22) (.t 21))]) (.seq (.cond (.t 23) .skip (.exit 2)) (.seq (.block 3 (.seq (.region [ iM 24 22,iD 25 (.indexAddr 3 (.t 20) (.t 22)),iD 26 (.load true 3 (.t 25)),iD 9 (.alloc [(.bool false),(.int .i64 0),.nil]),iM 8 24,iN (.store 3 (.t 9) (.t 26))]) (.seq (.region [ iD 27 (.load true 4 (.t 7)),iM 28 8,iD 29 (.load true 7 (.t 4)),iD 30 (.call f_z0z [(.t 27),(.t 28),(.t 29)])]) (.cond (.t 30) (.region [ iM 31 2,iM 32 6,iM 33 8,iD 34 (.load true 3 (.t 9)),iD 35 (.callv (.t 31) [(.t 32),(.t 33),(.t 34)])]) .skip)))) (.region [ iD 36 (.bin .add (.t 22) (cI 1)),iM 22 36]))))))))) (.region [ iD 37 (.bin .add (.t 13) (cI 1)),iM 13 37]))))))))⟩
structure F_z10 (P : Program) where
 id : FuncId
 z0z : F_z0z P
 has : Has P id [] (c_z10 z0z.id)
def c_z11 (f_z15 : FuncId) : AFunc := ⟨22,[.tmp 2],(.seq (.region [ iD 1 (.box (.t 0)),iD 2 (.move (.c .nil))]) (.seq (.region [ iD 3 (.move (.c .nil))]) (.seq (.seq (.region [ iD 6 (.fieldAddr 2 (.t 1)),iD 7 (.load false 1 (.t 6)),iD 8 (.len (.t 7)),iD 9 (.move (cI 0))]) (.block 0 (.loop (.seq (.region [ iD 10 (.bin .lss (.t 9) (.t 8))]) (.seq (.cond (.t 10) .skip (.exit 0)) (.seq (.block 1 (.seq (.region [ iD 11 (.indexAddr 1 (.t 7) (.t 9)),iD 12 (.load false 1 (.t 11)),iM 5 12]) (.region [ iM 13 3,iD 14 (.fieldAddr 1 (.t 1)),iD 15 (.load false 1 (.t 14)),iM 16 5,iD 17 (.call f_z15 [(.t 15),(.t 16)]),iD 18 (.buildSlice 1 1 [(.int .i64 0)] [(0,(.t 17))]),iD 19 (.append 1 8 [(.int .i64 0)] (.t 13) (.t 18)),iM 3 19]))) (.region [ iD 20 (.bin .add (.t 9) (cI 1)),iM 9 20]))))))) (.seq (.region [ iM 21 3,iM 2 21]) .ret))))⟩
structure F_z11 (P : Program) where
 id : FuncId
 z15 : F_z15 P
 has : Has P id [] (c_z11 z15.id)
end Go.AW
