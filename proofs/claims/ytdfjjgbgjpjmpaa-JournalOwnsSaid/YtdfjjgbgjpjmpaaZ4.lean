/-
  An abstract machine over the model, the code of functions on it, and their contracts: what the claim needs.
  No condition: definitions, plain laws, contracts over any program that has this code.
-/
import Derived.Test.YtdfjjgbgjpjmpaaZ3
set_option linter.all false
namespace Go.AW
variable [Draws]
attribute [local irreducible] ACalls
def beN : Nat → Int → List Int
  | 0, _ => []
  | k + 1, n => beN k (n / 256) ++ [n % 256]

theorem beN_length : ∀ (k : Nat) (n : Int), (beN k n).length = k
  | 0, _ => rfl
  | k + 1, n => by rw [beN, List.length_append, beN_length k]; rfl

theorem beN_byt : ∀ (k : Nat) (n : Int), Byt (beN k n)
  | 0, _ => fun x h => by simp [beN] at h
  | k + 1, n => fun x h => by
    rw [beN] at h
    rcases List.mem_append.1 h with h | h
    · exact beN_byt k _ x h
    · rw [List.mem_singleton] at h; subst h; omega

theorem beN_head : ∀ (k : Nat) (n : Int), beN (k + 1) n = (n / 256 ^ k) % 256 :: beN k n
  | 0, n => by simp [beN]
  | k + 1, n => by
    rw [beN, beN_head k (n / 256), beN, List.cons_append]
    congr 2
    rw [Int.ediv_ediv_of_nonneg (by omega), Int.pow_succ, Int.mul_comm]

def w2 (n : Int) : List Int := [u8 (n.fdiv (2 ^ 8)), u8 n]

theorem w4_eq (n : Int) : w4 n = beN 4 n := by
  simp only [w4, beN, u8_eq, List.nil_append, List.singleton_append, List.cons_append]
  rw [Int.fdiv_eq_ediv_of_nonneg _ (by omega), Int.fdiv_eq_ediv_of_nonneg _ (by omega), Int.fdiv_eq_ediv_of_nonneg _ (by omega)]
  congr 1
  · omega
  congr 1
  · omega

def fnvS (s c : Int) : Int := IntKind.u32.wrap (IntKind.u32.wrap (BitVec.ofInt 32 s ^^^ BitVec.ofInt 32 (IntKind.u32.wrap c)).toNat * 16777619)

def fnvG (l : List Int) (s : Int) : Int := l.foldl fnvS s

def fnv (l : List Int) : Int := fnvG l 2166136261

theorem u32_wrap (n : Int) : IntKind.u32.wrap n = n % 4294967296 := by simp [IntKind.wrap, IntKind.bits, IntKind.signed]

theorem u64_wrap (n : Int) : IntKind.u64.wrap n = n % 18446744073709551616 := by simp [IntKind.wrap, IntKind.bits, IntKind.signed]

theorem fnvS_bound (s c : Int) : 0 ≤ fnvS s c ∧ fnvS s c < 4294967296 := by rw [fnvS, u32_wrap]; omega

theorem fnvG_bound : ∀ (l : List Int) (s : Int), 0 ≤ s → s < 4294967296 → 0 ≤ fnvG l s ∧ fnvG l s < 4294967296
  | [], s, h1, h2 => ⟨h1, h2⟩
  | c :: l, s, _, _ => fnvG_bound l (fnvS s c) (fnvS_bound s c).1 (fnvS_bound s c).2

theorem fnv_bound (l : List Int) : 0 ≤ fnv l ∧ fnv l < 4294967296 := fnvG_bound l _ (by decide) (by decide)

theorem bC_get {l : List Int} {k : Nat} {x : Int} (h : l[k]? = some x) : (bC l)[k]? = some [.int .u8 x] := by rw [bC, List.getElem?_map, h]; rfl

set_option maxRecDepth 20000 in
theorem Checksum_spec {P : Program} (F : F_batch_Checksum P) (ex : Bool) (l : List Int) (hl : l.length ≤ 100000000) (H : List AObj) :
    ACalls P F.id [.list ex 1 (bC l)] H (fun r H' => r = .int .u32 (fnv l) ∧ H' = H) := by
  refine ACalls.pure rfl (acalls_of_body F.has ?_)
  conv => whnf
  refine ⟨fun m ρ H1 => ∃ (k : Nat) (s : Int), k + m = l.length ∧ fnvG (l.drop k) s = fnv l ∧ H1 = [] ∧
    Sv 19 [(3, .int .u32 s), (6, .list ex 1 (bC l)), (7, .int .i64 l.length), (8, .int .i64 k)] ρ, l.length, [], ?_, ?_⟩
  · exact ⟨0, _, by omega, rfl, rfl, Sv.intro rfl ⟨rfl, rfl, intEq (by rw [bC_length]), rfl, trivial⟩⟩
  rintro m ρ H1 ⟨k, s, hk, hr, rfl, d, rfl⟩
  (conv => whnf); refine recA (fun hlt => ?_) (fun hlt => ?_)
  · simp at hlt
    obtain ⟨x, hx, hd, _⟩ := get_drop hlt
    rw [hd] at hr
    (conv => whnf); refine And.intro (by omega) ?_
    (conv => whnf); refine recO (bC_get hx) ?_
    conv => whnf
    refine ⟨m - 1, by omega, Gp.keep rfl ?_ fun ρ1 h => ⟨k + 1, fnvS s x, by omega, hr, rfl, h⟩⟩
    exact ⟨rfl, rfl, rfl, intEq (wrapI ((k : Int) + 1) (by omega) (by omega)), trivial⟩
  · simp at hlt
    conv => whnf
    rw [List.drop_eq_nil_of_le hlt] at hr
    exact pubI hr

theorem xor_nat (k : Nat) (a b : Nat) (ha : a < 2 ^ k) (hb : b < 2 ^ k) : (BitVec.ofInt k (a : Int) ^^^ BitVec.ofInt k (b : Int)).toNat = a ^^^ b := by
  rw [BitVec.toNat_xor, BitVec.ofInt_natCast, BitVec.ofInt_natCast, BitVec.toNat_ofNat, BitVec.toNat_ofNat, Nat.mod_eq_of_lt ha, Nat.mod_eq_of_lt hb]

theorem fnv_ref (s c : Int) (h0 : 0 ≤ s) (h1 : s < 4294967296) (c0 : 0 ≤ c) (c1 : c ≤ 255) :
    (IntKind.u64.wrap (IntKind.u64.wrap (BitVec.ofInt 64 s ^^^ BitVec.ofInt 64 (IntKind.u64.wrap c)).toNat * 16777619)).tmod 4294967296 = fnvS s c := by
  obtain ⟨a, rfl⟩ := Int.eq_ofNat_of_zero_le h0
  obtain ⟨b, rfl⟩ := Int.eq_ofNat_of_zero_le c0
  have w1 : IntKind.u64.wrap (b : Int) = b := by rw [u64_wrap]; omega
  have w2 : IntKind.u32.wrap (b : Int) = b := by rw [u32_wrap]; omega
  have hx : a ^^^ b < 2 ^ 32 := Nat.xor_lt_two_pow (by omega) (by omega)
  rw [fnvS, w1, w2, xor_nat 64 a b (by omega) (by omega), xor_nat 32 a b (by omega) (by omega)]
  rw [u64_wrap, u64_wrap, u32_wrap, u32_wrap, Int.tmod_eq_emod_of_nonneg (by omega)]
  omega

set_option maxRecDepth 20000 in
theorem ref24_Checksum_spec {P : Program} (F : F_warehouseref24_Checksum P) (ex : Bool) (l : List Int) (hl : l.length ≤ 100000000) (hb : Byt l) (H : List AObj) :
    ACalls P F.id [.list ex 1 (bC l)] H (fun r H' => r = .int .u32 (fnv l) ∧ H' = H) := by
  refine ACalls.pure rfl (acalls_of_body F.has ?_)
  conv => whnf
  refine ⟨fun m ρ H1 => ∃ (k : Nat) (s : Int), k + m = l.length ∧ fnvG (l.drop k) s = fnv l ∧ 0 ≤ s ∧ s < 4294967296 ∧ H1 = [] ∧
    Sv 22 [(0, .list ex 1 (bC l)), (3, .int .u64 s), (4, .int .i64 k)] ρ, l.length, [], ?_, ?_⟩
  · exact ⟨0, _, by omega, rfl, by decide, by decide, rfl, Sv.intro rfl ⟨rfl, rfl, rfl, trivial⟩⟩
  rintro m ρ H1 ⟨k, s, hk, hr, s0, s1, rfl, d, rfl⟩
  (conv => whnf); refine recA (fun hlt => ?_) (fun hlt => ?_)
  · simp [bC_length] at hlt
    obtain ⟨x, hx, hd, hxm⟩ := get_drop hlt
    rw [hd] at hr
    have hxb := hb x hxm
    (conv => whnf); refine And.intro (by omega) ?_
    (conv => whnf); refine recO (bC_get hx) ?_
    (conv => whnf); refine And.intro (by decide) ?_
    conv => whnf
    refine ⟨m - 1, by omega, Gp.keep rfl ?_ fun ρ1 h => ⟨k + 1, fnvS s x, by omega, hr, (fnvS_bound s x).1, (fnvS_bound s x).2, rfl, h⟩⟩
    exact ⟨rfl, intEq (fnv_ref s x s0 s1 hxb.1 hxb.2), intEq (wrapI ((k : Int) + 1) (by omega) (by omega)), trivial⟩
  · simp [bC_length] at hlt
    conv => whnf
    rw [List.drop_eq_nil_of_le hlt] at hr
    have e : IntKind.u32.wrap s = s := by rw [u32_wrap]; omega
    exact pubI (by rw [← hr]; exact e)

theorem setEs_bC (l : List Int) (k : Nat) (v : Int) : setEs (bC l) k [.int .u8 v] = bC (l.set k v) := by rw [setEs_eq]; simp [bC]

def numK (k j : Nat) (n : Int) : List Int := List.replicate (k - j) 0 ++ beN j n

theorem numK_length {k j : Nat} (n : Int) (h : j ≤ k) : (numK k j n).length = k := by rw [numK, List.length_append, List.length_replicate, beN_length]; omega

theorem numK_set {k j : Nat} (n : Int) (h : j < k) : (numK k j n).set (k - 1 - j) ((n / 256 ^ j) % 256) = numK k (j + 1) n := by
  rw [numK, numK, beN_head, show k - j = (k - (j + 1)) + 1 by omega, List.replicate_succ', List.append_assoc, List.set_append, if_neg (by simp; omega)]
  simp [show k - 1 - j - (k - (j + 1)) = 0 by omega]

theorem div_pow (n : Int) (j : Nat) : n / 256 ^ j / 256 = n / 256 ^ (j + 1) := by
  rw [Int.ediv_ediv_of_nonneg (Int.pow_nonneg (by omega)), Int.pow_succ]

set_option maxRecDepth 20000 in
theorem ref24_number_raw {P : Program} (F : F_warehouseref24_number P) (n : Int) (k : Nat) (hn : 0 ≤ n) (hn2 : n ≤ 9000000000000000000) (hk : k ≤ 100) :
    ACalls P F.id [.int .i64 n, .int .i64 k] [] (fun r H' => r = .sl 0 k 0 k ∧ H' = [.arr 1 (bC (beN k n))]) := by
  refine acalls_of_body F.has ?_
  (conv => whnf); refine And.intro (⟨by omega, by omega, by show (k : Int) * ((1 : Nat) : Int) ≤ 1099511627776; omega, by show (k : Int) ≤ 1099511627776; omega⟩) ?_
  conv => whnf
  have ew : IntKind.i64.wrap ((k : Int) - 1) = (k : Int) - 1 := wrapI _ (by omega) (by omega)
  refine ⟨fun m ρ H1 => ∃ j : Nat, j + m = k ∧ H1 = [.arr 1 (bC (numK k j n))] ∧
    Sv 24 [(0, .int .i64 (n / 256 ^ j)), (5, .sl 0 k 0 k), (6, .int .i64 ((k : Int) - 1 - j))] ρ, k, [], ?_, ?_⟩
  · refine ⟨0, by omega, ?_, Sv.intro rfl ⟨intEq (by simp), rfl, intEq (by rw [ew]; omega), trivial⟩⟩
    simp [numK, beN, bC]
  rintro m ρ H1 ⟨j, hj, rfl, d, rfl⟩
  have hlen : (bC (numK k j n)).length = k := by rw [bC_length, numK_length n (by omega)]
  have hq0 : 0 ≤ n / 256 ^ j := Int.ediv_nonneg hn (Int.pow_nonneg (by omega))
  have hq1 : n / 256 ^ j ≤ n := Int.ediv_le_self _ hn
  (conv => whnf); refine recA (fun hlt => ?_) (fun hlt => ?_)
  · replace hlt : decide ((k : Int) - 1 - j ≥ 0) = true := hlt
    simp at hlt
    have hjn : ((k : Int) - 1 - j).toNat = k - 1 - j := by omega
    have hg : (bC (numK k j n))[0 + ((k : Int) - 1 - j).toNat]? = some [.int .u8 ((numK k j n)[k - 1 - j]'(by rw [numK_length n (by omega)]; omega))] := by
      rw [Nat.zero_add, hjn]; exact bC_get (List.getElem?_eq_getElem _)
    (conv => whnf); refine And.intro (by decide) ?_
    (conv => whnf); refine recT (by rw [hlen]; exact Nat.beq_refl _) ?_
    (conv => whnf); refine And.intro (⟨by omega, by omega⟩) ?_
    (conv => whnf); refine recT (by rw [hlen]; exact Nat.beq_refl _) ?_
    (conv => whnf); refine recO (hg) ?_
    (conv => whnf); refine And.intro (by decide) ?_
    conv => whnf
    refine ⟨m - 1, by omega, Gp.keep rfl ?_ fun ρ1 h => ⟨j + 1, by omega, ?_, h⟩⟩
    · refine ⟨intEq ?_, rfl, intEq ?_, trivial⟩
      · show IntKind.i64.wrap ((n / 256 ^ j).tdiv 256) = _
        rw [Int.tdiv_eq_ediv_of_nonneg hq0, div_pow, wrapI _ (by have := Int.ediv_nonneg hn (Int.pow_nonneg (n := 256) (m := j + 1) (by omega)); omega) (by have := Int.ediv_le_self (256 ^ (j + 1)) hn; omega)]
      · show IntKind.i64.wrap ((k : Int) - 1 - j - 1) = _
        rw [wrapI _ (by omega) (by omega)]; omega
    · have hv : IntKind.u8.wrap ((n / 256 ^ j).tmod 256) = (n / 256 ^ j) % 256 := by
        have := u8_eq ((n / 256 ^ j).tmod 256)
        rw [show u8 ((n / 256 ^ j).tmod 256) = IntKind.u8.wrap ((n / 256 ^ j).tmod 256) from rfl] at this
        rw [this, Int.tmod_eq_emod_of_nonneg hq0]; omega
      rw [← numK_set n (by omega), ← setEs_bC, ← hv, ← hjn]
      show [AObj.arr 1 (setEs (bC (numK k j n)) (0 + ((k : Int) - 1 - j).toNat) _)] = _
      rw [Nat.zero_add]
  · replace hlt : decide ((k : Int) - 1 - j ≥ 0) = false := hlt
    simp at hlt
    have : j = k := by omega
    subst this
    conv => whnf
    refine ⟨rfl, ?_⟩
    simp [numK]

theorem ref24_number_spec {P : Program} (F : F_warehouseref24_number P) (n : Int) (k : Nat) (hn : 0 ≤ n) (hn2 : n ≤ 9000000000000000000) (hk : k ≤ 100) (H : List AObj) :
    ACalls P F.id [.int .i64 n, .int .i64 k] H (fun r H' => r = .list false 1 (bC (beN k n)) ∧ H' = H) :=
  ACalls.frz1 rfl (ref24_number_raw F n k hn hn2 hk) (by rw [bC_length, beN_length]) (pureEs_bC _)

end Go.AW

namespace Go.AW
variable [Draws]
attribute [local irreducible] ACalls
structure Rec where
  del : Bool
  seq : Int
  row : List V

structure Fil where
  id : ByteArray
  src : ByteArray
  recs : List Rec

def recC (r : Rec) : List AVal := [.bool r.del, .int .i64 r.seq, .list false 3 (vC r.row)]

def rC (l : List Rec) : List (List AVal) := l.map recC

def fV (f : Fil) : List AVal := [.str f.id, .str f.src, .list false 3 (rC f.recs)]

def rowE (row : List V) : Int := if 12 < row.length then 2 else if row.all validB then 0 else 8

def recE (r : Rec) : Int := if r.seq < 0 ∨ 1073741824 < r.seq then 1 else rowE r.row

def recsE : List Rec → Int
  | [] => 0
  | r :: l => if recE r ≠ 0 then recE r else recsE l

def filE (f : Fil) : Int := if nameB f.id = false ∨ qualB f.src = false then 4 else if 1024 < f.recs.length then 2 else recsE f.recs

end Go.AW

namespace Go.AW
variable [Draws]
attribute [local irreducible] ACalls
def recB (r : Rec) : List Int := (if r.del then 1 else 0) :: (beN 4 r.seq ++ (beN 2 (encB r.row).length ++ encB r.row))

def headB (f : Fil) : List Int := [87, 72, 70, 49] ++ (u8 f.id.size :: bytesI f.id) ++ (u8 f.src.size :: bytesI f.src) ++ beN 2 f.recs.length

def bodyB (f : Fil) : List Int := headB f ++ f.recs.flatMap recB

def filB (f : Fil) : List Int := bodyB f ++ beN 4 (fnv (bodyB f))

def encFE (f : Fil) : Int := if filE f ≠ 0 then filE f else if 65536 < (filB f).length then 2 else 0

end Go.AW

namespace Go.AW
variable [Draws]
section
variable {P : Program} {C C' : Nat → Nat} {τ τ' : Nat → Option Loc} {H H' : List AObj} {w w' : World}
theorem ACalls.gp {f : FuncId} {args : List AVal} {Q0 Q : AVal → List AObj → Prop} (h : ACalls P f args H Q0)
    (hq : ∀ r H', Q0 r H' → Gp (H.map AObj.olen) [r] H' (fun ρ1 H1 => ∃ r', ρ1 = [r'] ∧ Q r' H1)) : ACalls P f args H Q := by
  intro C τ w vs hw hl hr
  have hc := h C τ w vs hw hl hr
  have fin : ∀ (e : Ending) (w' : World), (∃ v r C' τ' H', e = .returned v ∧ Q0 r H' ∧ Rel C' w' τ' H' r v ∧ St w (PrCall τ H w) C' τ' H' w' ∧ Step C τ H w C' τ' H' w') →
      ∃ v r C' τ' H', e = .returned v ∧ Q r H' ∧ Rel C' w' τ' H' r v ∧ St w (PrCall τ H w) C' τ' H' w' ∧ Step C τ H w C' τ' H' w' := by
    rintro e w' ⟨v, r, C1, τ1, H1, he, hq0, hrel, hst, hstep⟩
    let E : Env := ⟨w, PrCall τ H w, C, τ, H, fun b hb hn => Classical.byContradiction fun ho => hn ⟨hb, ho⟩⟩
    have hsa : SA E C1 τ1 [r] H1 { tmps := #[v], defers := [] } w' := by
      refine ⟨hst, hstep, fun t => ?_, rfl, rfl⟩
      cases t with
      | zero => exact hrel
      | succ t => exact .undef _
    obtain ⟨ρ2, H2, C2, τ2, ⟨r', rfl, hQ⟩, hs2⟩ := hsa.regroup (hq r H1 hq0)
    exact ⟨v, r', C2, τ2, H2, he, hQ, hs2.tmps 0, hs2.st, hs2.step⟩
  unfold CallsX at hc ⊢
  split at hc
  · exact Calls.mono hc fun e w' hh => fin e w' hh
  · exact fin _ _ hc
  · exact hc

def AObj.clean : AObj → Bool
  | .arr _ es => pureEs es
  | .iter _ _ => true
  | .map kvs => kvs.all fun kv => kv.2.isPure

theorem pureKvs_get {kvs : List (AVal × AVal)} (h : (kvs.all fun kv => kv.2.isPure) = true) {i : Nat} {kv : AVal × AVal} (hi : kvs[i]? = some kv) : kv.2.isPure = true :=
  List.all_eq_true.1 h kv (List.mem_of_getElem? hi)

inductive Ren (σ : Nat → Nat) : AVal → AVal → Prop where
  | closed (v : AVal) (h : v.closed = true) : Ren σ v v
  | sl (id ep off len : Nat) : Ren σ (.sl id ep off len) (.sl (σ id) ep off len)
  | ptr (id ep idx fld : Nat) : Ren σ (.ptr id ep idx fld) (.ptr (σ id) ep idx fld)
  | agg (vs rs : List AVal) (hl : vs.length = rs.length) (h : ∀ (i : Nat) (v r : AVal), vs[i]? = some v → rs[i]? = some r → Ren σ v r) : Ren σ (.agg vs) (.agg rs)
  | tuple (vs rs : List AVal) (hl : vs.length = rs.length) (h : ∀ (i : Nat) (v r : AVal), vs[i]? = some v → rs[i]? = some r → Ren σ v r) : Ren σ (.tuple vs) (.tuple rs)

inductive RenO (σ : Nat → Nat) : AObj → AObj → Prop where
  | same (o : AObj) (h : o.clean = true) : RenO σ o o
  | arr (esz : Nat) (es es1 : List (List AVal)) (hl : es1.length = es.length) (hl2 : ∀ (i : Nat) (e e1 : List AVal), es[i]? = some e → es1[i]? = some e1 → e1.length = e.length)
      (h : ∀ (i j : Nat) (e e1 : List AVal) (d d1 : AVal), es[i]? = some e → es1[i]? = some e1 → e[j]? = some d → e1[j]? = some d1 → Ren σ d d1 ∧ d1.isCell = true) :
      RenO σ (.arr esz es) (.arr esz es1)

theorem RenO.after {σ : Nat → Nat} {o o0 o1 : AObj} {t t' : Option Loc} (h : RenO σ o0 o1) (ha : o.after o0 t t') : o.after o1 t t' := by
  cases h with
  | same => exact ha
  | arr esz es es1 hl _ _ =>
    cases o with
    | iter _ _ => exact ha
    | map _ => exact ha
    | arr z es0 => exact ⟨ha.1, by rw [hl]; exact ha.2.1, by rw [hl]; exact ha.2.2⟩

theorem RenO.ok {σ : Nat → Nat} {o0 o1 : AObj} (h : RenO σ o0 o1) (ho : o0.ok) : o1.ok := by
  cases h with
  | same => exact ho
  | arr esz es es1 hl hl2 hp =>
    intro e1 he1
    obtain ⟨n, hn⟩ := List.getElem?_of_mem he1
    have hnl := (List.getElem?_eq_some_iff.1 hn).1
    have he : es[n]? = some es[n] := List.getElem?_eq_getElem (by omega)
    obtain ⟨g1, g2⟩ := ho _ (List.mem_of_getElem? he)
    refine ⟨(hl2 n _ _ he hn).trans g1, fun d1 hd1 => ?_⟩
    obtain ⟨j, hj⟩ := List.getElem?_of_mem hd1
    have hjl := (List.getElem?_eq_some_iff.1 hj).1
    have := hl2 n _ _ he hn
    exact (hp n j _ _ _ d1 he hn (List.getElem?_eq_getElem (by omega)) hj).2

def frN (id n : Nat) (k : Nat) : Nat := match k with
  | 0 => id
  | k + 1 => n + k

theorem ACalls.frame1 {f : FuncId} {args0 args : List AVal} {Q0 Q : AVal → List AObj → Prop} {id : Nat} {o : AObj} (ho : H[id]? = some o)
    (hp : o.clean = true)
    (hal : args0.length = args.length) (ha : ∀ (i : Nat) (a b : AVal), args0[i]? = some a → args[i]? = some b → (a = b ∧ a.closed = true) ∨ (∃ ep idx fld, a = .ptr 0 ep idx fld ∧ b = .ptr id ep idx fld) ∨ ∃ ep off len, a = .sl 0 ep off len ∧ b = .sl id ep off len)
    (h : ACalls P f args0 [o] Q0)
    (hq : ∀ r H1, Q0 r H1 → ∃ r' o1 o1' G G', H1 = o1 :: G ∧ Ren (frN id H.length) r r' ∧ RenO (frN id H.length) o1 o1' ∧ G.length = G'.length ∧
      (∀ (k : Nat) (x y : AObj), G[k]? = some x → G'[k]? = some y → RenO (frN id H.length) x y) ∧ Q r' (H.set id o1' ++ G')) : ACalls P f args H Q := by
  intro C τ w vs hw hl hr
  have hid := (List.getElem?_eq_some_iff.1 ho).1
  let τ0 : Nat → Option Loc := fun k => if k = 0 then τ id else none
  have one : ∀ {k : Nat} {x : AObj}, [o][k]? = some x → k = 0 ∧ x = o := fun {k x} h => by
    cases k with
    | zero => simp at h; exact ⟨rfl, h.symm⟩
    | succ k => simp at h
  have hw0 : WF C τ0 [o] w := by
    refine ⟨fun k x h => ?_, fun k x h ht => ?_, fun k x l h ht => ?_, fun k l hk ht => ?_, fun i j li lj hi hj _ _ _ => ?_, hw.lt⟩
    · obtain ⟨rfl, rfl⟩ := one h; exact hw.ok id _ ho
    · obtain ⟨rfl, rfl⟩ := one h; exact hw.virt id _ ho ht
    · obtain ⟨rfl, rfl⟩ := one h
      have hob := hw.objs id _ l ho ht
      cases x with
      | iter s p => exact hob
      | map kvs =>
        obtain ⟨es, clock, a1, a2, a3⟩ := hob
        exact ⟨es, clock, a1, a2, fun i e kv he hkv => ⟨(a3 i e kv he hkv).1, .rd ((a3 i e kv he hkv).2.pure (pureKvs_get hp hkv))⟩⟩
      | arr esz es =>
        obtain ⟨a1, cells, elem, fz, a2, a3, a4, a5⟩ := hob
        refine ⟨a1, cells, elem, fz, a2, a3, a4, fun i j e d hi hd => ?_⟩
        obtain ⟨x, hx1, hx2⟩ := a5 i j e d hi hd
        exact ⟨x, hx1, .rd (hx2.pure (pureEs_get hp hi hd))⟩
    · have hk0 : k = 0 := by simp at hk; omega
      subst hk0; exact hw.comm id l hid ht
    · simp at hi hj; omega
  have hr0 : ∀ (i : Nat) (a : AVal) (v : Value), args0[i]? = some a → vs[i]? = some v → Rel C w τ0 [o] a v := fun i a v h1 h2 => by
    have hi := (List.getElem?_eq_some_iff.1 h1).1
    have hb : args[i]? = some args[i] := List.getElem?_eq_getElem (by omega)
    have hrel := hr i _ v hb h2
    rcases ha i a _ h1 hb with ⟨e, hc⟩ | ⟨ep, idx, fld, rfl, e⟩ | ⟨ep, off, len, rfl, e⟩
    · rw [← e] at hrel
      exact hrel.closed hc (fun _ => Nat.le_refl _) (fun _ _ _ => rfl)
    · rw [e] at hrel
      cases hrel with
      | rd h => cases h
      | ptr _ _ _ _ a esz es ho2 hep h3 =>
        rw [ho] at ho2; cases ho2
        exact .ptr 0 ep idx fld a esz es rfl hep h3
    · rw [e] at hrel
      cases hrel with
      | rd h => cases h
      | sl _ _ _ _ a cap esz es ho2 hep h3 =>
        rw [ho] at ho2; cases ho2
        exact .sl 0 ep off len a cap esz es rfl hep h3
  have hc := h C τ0 w vs hw0 (by omega) hr0
  have fin : ∀ (e : Ending) (w' : World), (∃ v r C' τ' H', e = .returned v ∧ Q0 r H' ∧ Rel C' w' τ' H' r v ∧ St w (PrCall τ0 [o] w) C' τ' H' w' ∧ Step C τ0 [o] w C' τ' H' w') →
      ∃ v r C' τ' H', e = .returned v ∧ Q r H' ∧ Rel C' w' τ' H' r v ∧ St w (PrCall τ H w) C' τ' H' w' ∧ Step C τ H w C' τ' H' w' := by
    rintro e w' ⟨v, r, C1, τ1, H1, he, hq0, hrel, hst, hstep⟩
    obtain ⟨r', o1, o1', G, G', rfl, hrr, hro, hgl, hG, hQ⟩ := hq r H1 hq0
    
    have hoth : ∀ j l, j < H.length → j ≠ id → τ j = some l → PrCall τ0 [o] w l.b := fun j l hj hne ht =>
      ⟨hw.locLt hj ht, by
        rintro ⟨k, l', hk, ht', hb⟩
        have hk0 : k = 0 := by simp at hk; omega
        subst hk0
        exact hne (hw.inj j id l l' hj hid ht ht' hb.symm)⟩
    have hheap : ∀ j l, j < H.length → j ≠ id → τ j = some l → w'.heap[l.b]? = w.heap[l.b]? := fun j l hj hne ht => hst.fr.prot _ (hoth j l hj hne ht)
    let τ2 : Nat → Option Loc := fun i => if i = id then τ1 0 else if i < H.length then τ i else τ1 (i - H.length + 1)
    have t0 : τ2 id = τ1 0 := by simp only [τ2, if_true]
    have tO : ∀ j, j < H.length → j ≠ id → τ2 j = τ j := fun j hj hne => by simp only [τ2, if_neg hne, if_pos hj]
    have tN : ∀ k, τ2 (H.length + k) = τ1 (k + 1) := fun k => by
      simp only [τ2, if_neg (by omega : ¬ H.length + k = id), if_neg (by omega : ¬ H.length + k < H.length), Nat.add_sub_cancel_left]
    have tF : ∀ k, τ2 (frN id H.length k) = τ1 k := fun k => by
      cases k with
      | zero => exact t0
      | succ k => exact tN k
    have gid : (H.set id o1' ++ G')[id]? = some o1' := by rw [List.getElem?_append_left (by rw [List.length_set]; exact hid), List.getElem?_set_self hid]
    have gO : ∀ j, j < H.length → j ≠ id → (H.set id o1' ++ G')[j]? = H[j]? := fun j hj hne => by
      rw [List.getElem?_append_left (by rw [List.length_set]; exact hj), List.getElem?_set_ne (Ne.symm hne)]
    have gN : ∀ k, (H.set id o1' ++ G')[H.length + k]? = G'[k]? := fun k => by
      rw [List.getElem?_append_right (by rw [List.length_set]; omega), List.length_set, Nat.add_sub_cancel_left]
    
    have gF : ∀ k x, (o1 :: G)[k]? = some x → ∃ y, (H.set id o1' ++ G')[frN id H.length k]? = some y ∧ RenO (frN id H.length) x y := fun k x hx => by
      cases k with
      | zero => simp at hx; subst hx; exact ⟨o1', gid, hro⟩
      | succ k =>
        have hk : k < G.length := (List.getElem?_eq_some_iff.1 (by simpa using hx : G[k]? = some x)).1
        have hy : G'[k]? = some G'[k] := List.getElem?_eq_getElem (by omega)
        exact ⟨G'[k], (gN k).trans hy, hG k x _ (by simpa using hx) hy⟩
    have split : ∀ i, i < (H.set id o1' ++ G').length → (i < H.length ∧ i ≠ id) ∨ ∃ k, i = frN id H.length k ∧ k < (o1 :: G).length := fun i hi => by
      rw [List.length_append, List.length_set] at hi
      by_cases h1 : i = id
      · exact .inr ⟨0, h1, by simp⟩
      · by_cases h2 : i < H.length
        · exact .inl ⟨h2, h1⟩
        · exact .inr ⟨i - H.length + 1, by simp only [frN]; omega, by simp; omega⟩
    have frInj : ∀ k k', frN id H.length k = frN id H.length k' → k = k' := fun k k' h => by
      cases k <;> cases k' <;> simp only [frN] at h <;> omega
    have step : Step C τ H w C1 τ2 (H.set id o1' ++ G') w' := by
      refine ⟨hstep.le, hstep.cell, fun j x hx => ?_, hstep.grow, hstep.old⟩
      have hj := (List.getElem?_eq_some_iff.1 hx).1
      by_cases e1 : j = id
      · subst e1
        rw [ho] at hx; cases hx
        obtain ⟨o', h1, h2⟩ := hstep.obj 0 o rfl
        simp at h1; subst h1
        refine ⟨o1', gid, ?_⟩
        rw [t0]
        have : τ0 0 = τ j := by simp only [τ0, if_true]
        rw [this] at h2
        exact hro.after h2
      · exact ⟨x, by rw [gO j hj e1]; exact hx, by rw [tO j hj e1]; exact x.after_refl _⟩
    have ren : ∀ {a b : AVal}, Ren (frN id H.length) a b → ∀ {u : Value}, Rel C1 w' τ1 (o1 :: G) a u → Rel C1 w' τ2 (H.set id o1' ++ G') b u := by
      intro a b hab
      induction hab with
      | closed v h => intro u hu; exact hu.closed h (fun _ => Nat.le_refl _) (fun _ _ _ => rfl)
      | sl k ep off len =>
        intro u hu
        cases hu with
        | rd h => cases h
        | sl _ _ _ _ a cap esz es ho2 hep h3 =>
          obtain ⟨y, hy, hry⟩ := gF k _ ho2
          cases hry with
          | same _ _ => exact .sl _ ep off len a cap esz es hy hep fun e => by rw [tF]; exact h3 e
          | arr _ _ es1 hl1 _ _ => exact .sl _ ep off len a cap esz es1 hy (by omega) fun e => by rw [tF, hl1]; exact h3 (by omega)
      | ptr k ep idx fld =>
        intro u hu
        cases hu with
        | rd h => cases h
        | ptr _ _ _ _ a esz es ho2 hep h3 =>
          obtain ⟨y, hy, hry⟩ := gF k _ ho2
          cases hry with
          | same _ _ => exact .ptr _ ep idx fld a esz es hy hep fun e => by rw [tF]; exact h3 e
          | arr _ _ es1 hl1 _ _ => exact .ptr _ ep idx fld a esz es1 hy (by omega) fun e => by rw [tF]; exact h3 (by omega)
      | agg vs rs hl h ih =>
        intro u hu
        obtain ⟨us, rfl, hl2, hr2⟩ := hu.agg_inv
        refine .agg _ _ (by omega) fun i c v hc hv => ?_
        have hi := (List.getElem?_eq_some_iff.1 hc).1
        have hvi : vs[i]? = some vs[i] := List.getElem?_eq_getElem (by omega)
        exact ih i _ c hvi hc (hr2 i _ v hvi hv)
      | tuple vs rs hl h ih =>
        intro u hu
        obtain ⟨us, rfl, hl2, hr2⟩ := hu.tuple_inv
        refine .tuple _ _ (by omega) fun i c v hc hv => ?_
        have hi := (List.getElem?_eq_some_iff.1 hc).1
        have hvi : vs[i]? = some vs[i] := List.getElem?_eq_getElem (by omega)
        exact ih i _ c hvi hc (hr2 i _ v hvi hv)
    have hgetF : ∀ k, k < (o1 :: G).length → ∃ x, (o1 :: G)[k]? = some x := fun k hk => ⟨_, List.getElem?_eq_getElem hk⟩
    refine ⟨v, r', C1, τ2, H.set id o1' ++ G', he, hQ, ren hrr hrel, ⟨⟨fun i x hx => ?_, fun i x hx ht => ?_, fun i x l hx ht => ?_, fun i l hi ht => ?_, fun i j li lj hi hj hti htj hb => ?_, hst.wf.lt⟩,
      ⟨hst.fr.os, hst.fr.tape, hst.fr.output, hst.fr.size, fun b hb => hst.fr.prot b ⟨hb.1, ?_⟩, hst.fr.drawn⟩, ?_, fun b hb => hb.1⟩, step⟩
    · rcases split i (List.getElem?_eq_some_iff.1 hx).1 with ⟨h1, h2⟩ | ⟨k, rfl, hk⟩
      · rw [gO i h1 h2] at hx; exact hw.ok i x hx
      · obtain ⟨z, hz⟩ := hgetF k hk
        obtain ⟨y, hy, hry⟩ := gF k z hz
        rw [hx] at hy; cases hy
        exact hry.ok (hst.wf.ok k z hz)
    · rcases split i (List.getElem?_eq_some_iff.1 hx).1 with ⟨h1, h2⟩ | ⟨k, rfl, hk⟩
      · rw [gO i h1 h2] at hx; rw [tO i h1 h2] at ht; exact hw.virt i x hx ht
      · obtain ⟨z, hz⟩ := hgetF k hk
        obtain ⟨y, hy, hry⟩ := gF k z hz
        rw [hx] at hy; cases hy
        rw [tF] at ht
        obtain ⟨esz, rfl⟩ := hst.wf.virt k z hz ht
        cases hry with
        | same _ _ => exact ⟨esz, rfl⟩
        | arr _ _ es1 hl1 _ _ =>
          have : es1 = [] := List.length_eq_zero_iff.1 hl1
          subst this; exact ⟨esz, rfl⟩
    · rcases split i (List.getElem?_eq_some_iff.1 hx).1 with ⟨h1, h2⟩ | ⟨k, rfl, hk⟩
      · rw [gO i h1 h2] at hx; rw [tO i h1 h2] at ht
        exact (hw.objs i x l hx ht).mono step (hheap i l h1 h2 ht)
      · obtain ⟨z, hz⟩ := hgetF k hk
        obtain ⟨y, hy, hry⟩ := gF k z hz
        rw [hx] at hy; cases hy
        rw [tF] at ht
        have hob := hst.wf.objs k z l hz ht
        cases hry with
        | same _ hpz =>
          cases x with
          | iter s p => exact hob
          | map kvs =>
            obtain ⟨es, clock, a1, a2, a3⟩ := hob
            exact ⟨es, clock, a1, a2, fun i e kv he hkv => ⟨(a3 i e kv he hkv).1, .rd ((a3 i e kv he hkv).2.pure (pureKvs_get hpz hkv))⟩⟩
          | arr esz es =>
            obtain ⟨a1, cells, elem, fz, a2, a3, a4, a5⟩ := hob
            refine ⟨a1, cells, elem, fz, a2, a3, a4, fun i j e d hi hd => ?_⟩
            obtain ⟨x, hx1, hx2⟩ := a5 i j e d hi hd
            exact ⟨x, hx1, .rd (hx2.pure (pureEs_get hpz hi hd))⟩
        | arr esz es es1 hl1 hl2 hp2 =>
          obtain ⟨a1, cells, elem, fz, a2, a3, a4, a5⟩ := hob
          refine ⟨by omega, cells, elem, fz, a2, a3, a4, fun i j e1 d1 hi hd => ?_⟩
          have hil := (List.getElem?_eq_some_iff.1 hi).1
          have hjl := (List.getElem?_eq_some_iff.1 hd).1
          have he : es[i]? = some es[i] := List.getElem?_eq_getElem (by omega)
          have hl3 := hl2 i _ _ he hi
          have hd0 : es[i][j]? = some es[i][j] := List.getElem?_eq_getElem (by omega)
          obtain ⟨x, hx1, hx2⟩ := a5 i j _ _ he hd0
          exact ⟨x, hx1, ren (hp2 i j _ _ _ d1 he hi hd0 hd).1 hx2⟩
    · rcases split i hi with ⟨h1, h2⟩ | ⟨k, rfl, hk⟩
      · rw [tO i h1 h2] at ht
        rw [hstep.old _ (hw.locLt h1 ht)]; exact hw.comm i l h1 ht
      · rw [tF] at ht; exact hst.wf.comm k l hk ht
    · rcases split i hi with ⟨h1, h2⟩ | ⟨k, rfl, hk⟩ <;> rcases split j hj with ⟨h3, h4⟩ | ⟨k', rfl, hk'⟩
      · rw [tO i h1 h2] at hti; rw [tO j h3 h4] at htj; exact hw.inj i j li lj h1 h3 hti htj hb
      · rw [tO i h1 h2] at hti; rw [tF] at htj
        exact absurd (hb ▸ hoth i li h1 h2 hti) (hst.own _ ⟨k', lj, hk', htj, rfl⟩)
      · rw [tF] at hti; rw [tO j h3 h4] at htj
        exact absurd (hb ▸ hoth j lj h3 h4 htj) (hst.own _ ⟨k, li, hk, hti, rfl⟩)
      · rw [tF] at hti htj
        rw [hst.wf.inj k k' li lj hk hk' hti htj hb]
    · rintro ⟨k, l, hk, ht, hb2⟩
      have hk0 : k = 0 := by simp at hk; omega
      subst hk0
      exact hb.2 ⟨id, l, hid, ht, hb2⟩
    · rintro b ⟨i, l, hi, ht, rfl⟩ hp2
      rcases split i hi with ⟨h1, h2⟩ | ⟨k, rfl, hk⟩
      · rw [tO i h1 h2] at ht; exact hp2.2 ⟨i, l, h1, ht, rfl⟩
      · rw [tF] at ht
        refine hst.own _ ⟨k, l, hk, ht, rfl⟩ ⟨hp2.1, ?_⟩
        rintro ⟨k2, l2, hk2, ht2, hb2⟩
        have hk0 : k2 = 0 := by simp at hk2; omega
        subst hk0
        exact hp2.2 ⟨id, l2, hid, ht2, hb2⟩
  unfold CallsX at hc ⊢
  split at hc
  · exact Calls.mono hc fun e w' hh => fin e w' hh
  · exact fin _ _ hc
  · exact hc

def FrArgs (id : Nat) : List AVal → List AVal → Prop
  | [], [] => True
  | a :: asv, b :: bs => ((a = b ∧ a.closed = true) ∨ (∃ ep idx fld, a = .ptr 0 ep idx fld ∧ b = .ptr id ep idx fld) ∨ ∃ ep off len, a = .sl 0 ep off len ∧ b = .sl id ep off len) ∧ FrArgs id asv bs
  | _, _ => False

theorem FrArgs.get {id : Nat} : ∀ {asv bs : List AVal}, FrArgs id asv bs → asv.length = bs.length ∧ ∀ (i : Nat) (a b : AVal), asv[i]? = some a → bs[i]? = some b → (a = b ∧ a.closed = true) ∨ (∃ ep idx fld, a = .ptr 0 ep idx fld ∧ b = .ptr id ep idx fld) ∨ ∃ ep off len, a = .sl 0 ep off len ∧ b = .sl id ep off len
  | [], [], _ => ⟨rfl, fun i a b h => by simp at h⟩
  | a :: asv, b :: bs, h => by
    obtain ⟨h1, h2⟩ := FrArgs.get h.2
    refine ⟨by simp [h1], fun i x y hx hy => ?_⟩
    cases i with
    | zero => simp at hx hy; subst hx hy; exact h.1
    | succ i => exact h2 i x y (by simpa using hx) (by simpa using hy)
  | [], _ :: _, h => h.elim
  | _ :: _, [], h => h.elim

theorem FrArgs.sl {id : Nat} {ep off len : Nat} {asv bs : List AVal} (hs : FrArgs id asv bs) : FrArgs id (.sl 0 ep off len :: asv) (.sl id ep off len :: bs) := ⟨.inr (.inr ⟨_, _, _, rfl, rfl⟩), hs⟩

theorem ACalls.fr {f : FuncId} {args0 args : List AVal} {id : Nat} {o o1 : AObj} {R : AVal} (h : ACalls P f args0 [o] (fun r H' => r = R ∧ H' = [o1])) (ho : H[id]? = some o)
    (hp : o.clean = true) (hp1 : o1.clean = true) (ha : FrArgs id args0 args) (hR : Ren (frN id H.length) R R) : ACalls P f args H (fun r H' => r = R ∧ H' = H.set id o1) := by
  obtain ⟨hl, ha⟩ := ha.get
  refine ACalls.frame1 ho hp hl ha h ?_
  rintro r H1 ⟨rfl, rfl⟩
  exact ⟨_, o1, o1, [], [], rfl, hR, .same _ hp1, rfl, fun k x y h => by simp at h, rfl, by simp⟩

end
theorem keepB_one {a : Nat} {ids : List Nat} {H : List AObj} {o : AObj} (h1 : ids[0]? = some 0) (h2 : H[0]? = some o) (h3 : o.olen = a) : keepB [a] ids H := fun k n hk => by
  cases k with
  | zero => simp at hk; subst hk; exact ⟨h1, o, h2, h3⟩
  | succ k => simp at hk

theorem Gp.res {n0 : List Nat} {r r' : AVal} {H H1 : List AObj} {I : List AVal → List AObj → Prop} (ids : List Nat) (hnd : ids.Nodup) (hb : keepB n0 ids H) (ho : gpO H ids ids H1) (hp : Pub H 0 ids r r') (hI : I [r'] H1) : Gp n0 [r] H I :=
  .inr ⟨ids, [r'], H1, hnd, hb, ho, ⟨hp, trivial⟩, hI⟩

theorem ACalls.gpI {P : Program} {f : FuncId} {args : List AVal} {H H1 H2 : List AObj} {R R' : AVal} (h : ACalls P f args H (fun r H' => r = R ∧ H' = H1)) (ids : List Nat) (hnd : ids.Nodup) (hb : keepB (H.map AObj.olen) ids H1) (ho : gpO H1 ids ids H2) (hp : Pub H1 0 ids R R') :
    ACalls P f args H (fun r H' => r = R' ∧ H' = H2) := by
  refine h.gp ?_
  rintro r H' ⟨rfl, rfl⟩
  exact .inr ⟨ids, [R'], H2, hnd, hb, ho, ⟨hp, trivial⟩, R', rfl, rfl, rfl⟩

end Go.AW

namespace Go.AW
variable [Draws]
attribute [local irreducible] ACalls
structure RdS where
  rest : List Int
  bad : Bool

def tkB (n : Int) (s : RdS) : Bool := !s.bad && decide (n ≤ s.rest.length)

def tkL (n : Int) (s : RdS) : List Int := if tkB n s then s.rest.take n.toNat else []

def tkS (n : Int) (s : RdS) : RdS := if tkB n s then ⟨s.rest.drop n.toNat, false⟩ else ⟨s.rest, true⟩

def nbV (n : Int) (s : RdS) : Int := num (tkL n s)

def txS (s : RdS) : RdS := tkS (nbV 1 s) (tkS 1 s)

end Go.AW

namespace Go.AW
variable [Draws]
attribute [local irreducible] ACalls
def dcV (l : List Int) : Option (List V) :=
  if l.length = 0 ∨ 12 < l.getD 0 0 then none else match decN (l.getD 0 0).toNat (l.drop 1) with
    | some (rs, []) => some rs
    | _ => none

def rq3 (s : RdS) : RdS := tkS 2 (tkS 4 (tkS 1 s))

def rq4 (s : RdS) : RdS := tkS (nbV 2 (tkS 4 (tkS 1 s))) (rq3 s)

end Go.AW

namespace Go.AW
variable [Draws]
attribute [local irreducible] ACalls
theorem byt_inj : ∀ {a b : List Int}, Byt a → Byt b → (a.map fun n => UInt8.ofNat n.toNat) = (b.map fun n => UInt8.ofNat n.toNat) → a = b
  | [], [], _, _, _ => rfl
  | [], _ :: _, _, _, h => by simp at h
  | _ :: _, [], _, _, h => by simp at h
  | x :: a, y :: b, ha, hb, h => by
    rw [List.map_cons, List.map_cons, List.cons.injEq] at h
    have hx := ha x (List.mem_cons_self ..)
    have hy := hb y (List.mem_cons_self ..)
    have e1 : x = y := by
      have := congrArg UInt8.toNat h.1
      rw [UInt8.toNat_ofNat', UInt8.toNat_ofNat'] at this
      omega
    rw [e1, byt_inj (fun z hz => ha z (List.mem_cons_of_mem _ hz)) (fun z hz => hb z (List.mem_cons_of_mem _ hz)) h.2]

theorem byt_beq {a b : List Int} (ha : Byt a) (hb : Byt b) : ((a.map fun n => UInt8.ofNat n.toNat) == (b.map fun n => UInt8.ofNat n.toNat)) = (a == b) := by
  rw [Bool.eq_iff_iff, beq_iff_eq, beq_iff_eq]
  exact ⟨byt_inj ha hb, fun h => by rw [h]⟩

def f0 : Fil := ⟨bs [], bs [], []⟩

def dS (l : List Int) : RdS := ⟨l.take (l.length - 4), false⟩

def sumBad (l : List Int) : Bool := decide (l.length < 4) || !(l.drop (l.length - 4) == beN 4 (fnv (l.take (l.length - 4))))

end Go.AW

namespace Go.AW
variable [Draws]
attribute [local irreducible] ACalls
def tkZ (n : Int) (s : RdS) : List Int := if tkB n s then s.rest.take n.toNat else List.replicate n.toNat 0

end Go.AW

namespace Go.AW
variable [Draws]
attribute [local irreducible] ACalls
def zt (s : RdS) : ByteArray := strOf (tkZ (nbV 1 s) (tkS 1 s))

def zL (s : RdS) : List Int := tkZ (nbV 2 (tkS 4 (tkS 1 s))) (rq3 s)

def zrec (s : RdS) : Option Rec := (dcV (zL s)).map fun rs => ⟨nbV 1 s == 1, nbV 4 (tkS 1 s), rs⟩

def zlP : Nat → RdS → List Rec → Option (List Rec × RdS)
  | 0, s, L => some (L, s)
  | n + 1, s, L => if s.bad then some (L, s) else match zrec s with
    | none => none
    | some r => zlP n (rq4 s) (L ++ [r])

def z1 (l : List Int) : RdS := tkS 4 (dS l)

def z2 (l : List Int) : RdS := txS (z1 l)

def z3 (l : List Int) : RdS := txS (z2 l)

def z4 (l : List Int) : RdS := tkS 2 (z3 l)

def zN (l : List Int) : Int := nbV 2 (z3 l)

def zP (l : List Int) : Option (List Rec × RdS) := zlP (zN l).toNat (z4 l) []

def zF (l : List Int) (L : List Rec) : Fil := ⟨zt (z1 l), zt (z2 l), L⟩

def refFE (l : List Int) : Int :=
  if 65536 < l.length then 2 else if sumBad l then 12
  else match zP l with
    | none => 11
    | some (L, st) => if st.bad = true ∨ encFE (zF l L) ≠ 0 ∨ filB (zF l L) ≠ l then 11 else 0

def refFV (l : List Int) : Fil := if refFE l = 0 then (match zP l with | none => f0 | some (L, _) => zF l L) else f0

def RefRaw (l : List Int) (r : AVal) : Prop :=
  (refFE l ≠ 0 ∧ r = .tuple [.agg [.str (bs []), .str (bs []), .nil], .int .i64 (refFE l)]) ∨
  (refFE l = 0 ∧ ∃ c, (c = .list false 3 (rC (refFV l).recs) ∨ (c = .nil ∧ (refFV l).recs = [])) ∧ r = .tuple [.agg [.str (refFV l).id, .str (refFV l).src, c], .int .i64 0])

theorem RefRaw.wk {l : List Int} {r : AVal} (h : RefRaw l r) : WkD r (.tuple [.agg (fV (refFV l)), .int .i64 (refFE l)]) := by
  rcases h with ⟨h, rfl⟩ | ⟨h, c, hc, rfl⟩
  · rw [refFV, if_neg h]
    exact .tuples (.cons (.aggs (.cons (.refl _) (.cons (.refl _) (.cons (.nil false 3) .nil)))) (.cons (.refl _) .nil))
  · rw [h]
    refine .tuples (.cons (.aggs (.cons (.refl _) (.cons (.refl _) (.cons ?_ .nil)))) (.cons (.refl _) .nil))
    rcases hc with rfl | ⟨rfl, hc⟩
    · exact .refl _
    · rw [hc]; exact .nil false 3

end Go.AW

namespace Go.AW
variable [Draws]
theorem num_be : ∀ (k : Nat) (n : Int), 0 ≤ n → n < 256 ^ k → num (beN k n) = n
  | 0, n, h0, h1 => by simp at h1; rw [beN]; show (0 : Int) = n; omega
  | k + 1, n, h0, h1 => by
    rw [Int.pow_succ] at h1
    have ih := num_be k (n / 256) (by omega) (by omega)
    rw [num] at ih
    rw [beN, num, List.foldl_append, ih]
    show n / 256 * 256 + n % 256 = n
    omega

end Go.AW

namespace Go.AW
variable [Draws]
attribute [local irreducible] ACalls
theorem pubFI {H1 : List AObj} {n : Nat} {ids : List Nat} {id ep len sz : Nat} {es : List (List AVal)} (hid : id ∉ ids) (ho : H1[id]? = some (.arr sz es)) (he : ep = es.length) (hl : len = es.length) (hp : pureEs es = true) : Pub H1 n ids (.sl id ep 0 len) (.list false sz es) := by
  subst hl he
  have := Pub.frz (n := n) (ids := ids) id es.length 0 es.length sz es ho rfl hp hid
  rwa [List.drop_zero, List.take_length] at this

end Go.AW

namespace Go.AW
variable [Draws]
attribute [local irreducible] ACalls
theorem place_eq (x k : Int) (hk : 1 ≤ k) (hk2 : k ≤ 1000000) : (IntKind.i64.wrap (x.tmod k + k)).tmod k = x % k := by
  have h1 := Int.tmod_lt_of_pos x (show 0 < k by omega)
  have h2 := Int.lt_tmod_of_pos x (show 0 < k by omega)
  rw [wrapI _ (by omega) (by omega), Int.tmod_eq_emod_of_nonneg (by omega), Int.add_emod_right, Int.tmod_def, Int.sub_mul_emod_self_left]

theorem Place_spec {P : Program} (F : F_warehouseworld_Place P) (x k : Int) (hk : 1 ≤ k) (hk2 : k ≤ 1000000) (H : List AObj) :
    ACalls P F.id [.int .i64 x, .int .i64 k] H (fun r H' => r = .int .i64 (x % k) ∧ H' = H) := by
  refine ACalls.pure rfl (acalls_of_body F.has ?_)
  (conv => whnf); refine recF (by simp; omega) ?_
  (conv => whnf); refine And.intro (by omega) ?_
  (conv => whnf); refine And.intro (by omega) ?_
  conv => whnf
  exact pub_int (place_eq x k hk hk2)

theorem SameBytes_spec {P : Program} (F : F_warehouseworld_SameBytes P) (e1 e2 : Bool) (a b : List Int) (ha : Byt a) (hb : Byt b) (H : List AObj) :
    ACalls P F.id [.list e1 1 (bC a), .list e2 1 (bC b)] H (fun r H' => r = .bool (a == b) ∧ H' = H) := by
  refine ACalls.pure rfl (acalls_of_body F.has ?_)
  (conv => whnf); refine ⟨_, bytesOf_bC _, ?_⟩
  (conv => whnf); refine ⟨_, bytesOf_bC _, ?_⟩
  conv => whnf
  exact pubB (byt_beq ha hb)

end Go.AW

namespace Go.AW
variable [Draws]
attribute [local irreducible] ACalls
def gO (l : List Int) (i : Nat) : AObj := .arr 2 [[.list false 1 (iC l), .int .i64 i]]

def nx (l : List Int) (i : Nat) (n : Int) : Int × Nat := if l.length ≤ i ∨ n < 1 then (0, i) else (l.getD i 0 % n, i + 1)

def inB (l : List ByteArray) (s : ByteArray) : Bool := l.any fun x => eqS x s

def instL : List Int := [144000, 144719, 145380, 145400, 145439, 145440, 145500, 146000, 146879, 146880, 148000, 148320, 149000, 151199, 151200, 153000]

def wtexts : List ByteArray := [bs [], bs [97], bs [98], bs [105, 116, 39, 115], bs [122, 122]]

def wv1 (k : Int) (l : List Int) (i : Nat) : V × Nat :=
  if k = 1 then (⟨1, (nx l i 2).1, bs []⟩, (nx l i 2).2)
  else if k = 2 then (⟨2, (nx l i 7).1 - 1, bs []⟩, (nx l i 7).2)
  else if k = 3 then (⟨3, 0, wtexts.getD (nx l i 5).1.toNat (bs [])⟩, (nx l i 5).2)
  else (⟨4, instL.getD (nx l i 16).1.toNat 0, bs []⟩, (nx l i 16).2)

def wv (c : Col) (l : List Int) (i : Nat) : V × Nat :=
  if c.nul then (if (nx l i 5).1 = 0 then (zV, (nx l i 5).2) else wv1 c.kind l (nx l i 5).2) else wv1 c.kind l i

end Go.AW

namespace Go.AW
variable [Draws]
attribute [local irreducible] ACalls
def wr (l : List Int) : List Col → Nat → List V → List V × Nat
  | [], i, out => (out, i)
  | c :: cs, i, out => wr l cs (wv c l i).2 (out ++ [(wv c l i).1])

end Go.AW

namespace Go.AW
variable [Draws]
attribute [local irreducible] ACalls
structure Src where
  cols : List Col
  key : List ByteArray
  late : Int
  reopen : Int

end Go.AW

namespace Go.AW
variable [Draws]
attribute [local irreducible] ACalls
def sAt : ByteArray := bs [97, 116]

def keepC (key : List ByteArray) (c : Col) : Bool := inB key c.name || eqS c.name sAt

def delR (key : List ByteArray) : List Col → List V → List V
  | c :: cs, v :: vs => (if keepC key c then v else zV) :: delR key cs vs
  | _, _ => []

end Go.AW

namespace Go.AW
variable [Draws]
attribute [local irreducible] ACalls
def wk (s : Src) (l : List Int) (i : Nat) : Int × Nat := nx l (wr l s.cols (nx l i 4).2 []).2 24

def wrow (s : Src) (l : List Int) (i : Nat) : List V := (wr l s.cols (nx l i 4).2 []).1

def wrec (s : Src) (l : List Int) (i : Nat) : Rec × Nat :=
  if (wk s l i).1 < 5 then (⟨true, (nx l i 4).1, delR s.key s.cols (wrow s l i)⟩, (wk s l i).2)
  else if (wk s l i).1 = 5 then (⟨true, (nx l i 4).1, wrow s l i⟩, (wk s l i).2)
  else if (wk s l i).1 = 6 then (⟨false, (nx l i 4).1, (wrow s l i).take (s.cols.length - 1)⟩, (wk s l i).2)
  else if (wk s l i).1 = 7 then (⟨false, (nx l i 4).1, (wrow s l i).set (nx l (wk s l i).2 s.cols.length).1.toNat ⟨1, 1, bs []⟩⟩, (nx l (wk s l i).2 s.cols.length).2)
  else if (wk s l i).1 = 8 then (⟨false, -1, wrow s l i⟩, (wk s l i).2)
  else (⟨false, (nx l i 4).1, wrow s l i⟩, (wk s l i).2)

end Go.AW

namespace Go.AW
variable [Draws]
attribute [local irreducible] ACalls
def wf (s : Src) (l : List Int) : Nat → Nat → List Rec → List Rec × Nat
  | 0, i, L => (L, i)
  | k + 1, i, L => wf s l k (wrec s l i).2 (L ++ [(wrec s l i).1])

end Go.AW

namespace Go.AW
variable [Draws]
attribute [local irreducible] ACalls
def tO (x y z : List Int) : AObj := .arr 1 [[.list false 1 (bC x)], [.list false 1 (bC y)], [.list false 1 (bC z)]]

end Go.AW

namespace Go.AW
variable [Draws]
attribute [local irreducible] ACalls
set_option maxRecDepth 20000 in
theorem ins0_spec {P : Program} (F : F_slices_insertionSortCmpFunc_Entry P) (X : AVal) (g : FuncId) (H : List AObj) :
    ACalls P F.id [X, .int .i64 0, .int .i64 0, .fn g []] H (fun r H' => r = .tuple [] ∧ H' = H) := by
  refine acalls_of_body F.has ?_
  conv => whnf
  refine ⟨fun m ρ H1 => H1 = H ∧ Sv 53 [(1, .int .i64 0), (2, .int .i64 0), (8, .int .i64 1)] ρ, 0, [], ?_, ?_⟩
  · exact ⟨rfl, Sv.intro rfl ⟨rfl, rfl, rfl, trivial⟩⟩
  rintro m ρ H1 ⟨rfl, d, rfl⟩
  conv => whnf
  exact ⟨rfl, rfl⟩

set_option maxRecDepth 20000 in
theorem Len64_0 {P : Program} (F : F_math_bits_Len64 P) (H : List AObj) :
    ACalls P F.id [.int .u64 0] H (fun r H' => r = .int .i64 0 ∧ H' = H) := by
  refine ACalls.pure rfl (acalls_of_body F.has ?_)
  (conv => whnf); refine And.intro (by decide) ?_
  conv => whnf
  exact .closed _ rfl

theorem Len_0 {P : Program} (F : F_math_bits_Len P) (H : List AObj) :
    ACalls P F.id [.int .u64 0] H (fun r H' => r = .int .i64 0 ∧ H' = H) := by
  refine ACalls.pure rfl (acalls_of_body F.has ?_)
  (conv => whnf); refine ACalls.use (Len64_0 F.math_bits_Len64 _) ?_
  conv => whnf
  exact .closed _ rfl

set_option maxRecDepth 20000 in
theorem pdq0_spec {P : Program} (F : F_slices_pdqsortCmpFunc_Entry P) (X : AVal) (g : FuncId) (H : List AObj) :
    ACalls P F.id [X, .int .i64 0, .int .i64 0, .int .i64 0, .fn g []] H (fun r H' => r = .tuple [] ∧ H' = H) := by
  refine acalls_of_body F.has ?_
  conv => whnf
  refine ⟨fun m ρ H1 => H1 = H ∧ Sv 148 [(0, X), (1, .int .i64 0), (2, .int .i64 0), (3, .int .i64 0), (4, .fn g []), (10, .bool true), (11, .bool true)] ρ, 0, [], ?_, ?_⟩
  · exact ⟨rfl, Sv.intro rfl ⟨rfl, rfl, rfl, rfl, rfl, rfl, rfl, trivial⟩⟩
  rintro m ρ H1 ⟨rfl, d, rfl⟩
  (conv => whnf); refine ACalls.use (ins0_spec F.slices_insertionSortCmpFunc_Entry X g _) ?_
  conv => whnf
  exact ⟨rfl, rfl⟩

theorem sort0_spec {P : Program} (F : F_slices_SortFunc_LEntry_Entry P) (id : Nat) (g : FuncId) (H : List AObj) (ho : H[id]? = some (.arr 2 [])) :
    ACalls P F.id [.sl id 0 0 0, .fn g []] H (fun r H' => r = .tuple [] ∧ H' = H) := by
  refine acalls_of_body F.has ?_
  (conv => whnf); refine recO (ho) ?_
  (conv => whnf); refine ACalls.use (Len_0 F.math_bits_Len _) ?_
  (conv => whnf); refine ACalls.use (pdq0_spec F.slices_pdqsortCmpFunc_Entry (.sl id 0 0 0) g _) ?_
  conv => whnf
  exact ⟨rfl, rfl⟩

end Go.AW

namespace Go.AW
variable [Draws]
def Asc (l : List Ent) : Prop := l.Pairwise fun x y => rowsCmp x.row y.row ≤ 0

end Go.AW

namespace Go.AW
variable [Draws]
attribute [local irreducible] ACalls
def SortE (P : Program) (f g : FuncId) : Prop :=
  ∀ (l : List Ent), l ≠ [] → l.length ≤ 1000000 → (∀ e ∈ l, e.row.length ≤ 1000) → ∀ (H : List AObj) (i0 : Nat), H[i0]? = some (.arr 2 (eC l)) →
    ACalls P f [.sl i0 l.length 0 l.length, .fn g []] H (fun r H' => r = .tuple [] ∧ ∃ s : List Ent, s.Perm l ∧ Asc s ∧ H' = H.set i0 (.arr 2 (eC s)))

theorem SortE.all {P : Program} {F : F_slices_SortFunc_LEntry_Entry P} {g : FuncId} (hS : SortE P F.id g) (l : List Ent) (hl : l.length ≤ 1000000) (hr : ∀ e ∈ l, e.row.length ≤ 1000) (H : List AObj) (i0 : Nat) (ho : H[i0]? = some (.arr 2 (eC l))) :
    ACalls P F.id [.sl i0 l.length 0 l.length, .fn g []] H (fun r H' => r = .tuple [] ∧ ∃ s : List Ent, s.Perm l ∧ Asc s ∧ H' = H.set i0 (.arr 2 (eC s))) := by
  cases l with
  | nil =>
    refine (sort0_spec F i0 g H ho).mono ?_
    rintro r H' ⟨rfl, rfl⟩
    refine ⟨rfl, [], List.Perm.refl _, List.Pairwise.nil, ?_⟩
    obtain ⟨h, e⟩ := List.getElem?_eq_some_iff.1 ho
    rw [← e, List.set_getElem_self]
  | cons x l => exact hS (x :: l) (by simp) hl hr H i0 ho

end Go.AW

namespace Go.AW
variable [Draws]
attribute [local irreducible] ACalls
theorem or4 {a b c e : Int} (ha : 0 ≤ a ∧ a ≤ 255) (hb : 0 ≤ b ∧ b ≤ 255) (hc : 0 ≤ c ∧ c ≤ 255) (he : 0 ≤ e ∧ e ≤ 255) :
    or64 (or64 (or64 (IntKind.i64.wrap (IntKind.i64.wrap a * 2 ^ 24)) (IntKind.i64.wrap (IntKind.i64.wrap b * 2 ^ 16))) (IntKind.i64.wrap (IntKind.i64.wrap c * 2 ^ 8))) (IntKind.i64.wrap e) = num [a, b, c, e] := by
  have w : ∀ x : Int, 0 ≤ x → x ≤ 4294967296 → IntKind.i64.wrap x = x := fun x h1 h2 => wrapI x (by omega) (by omega)
  rw [w a (by omega) (by omega), w b (by omega) (by omega), w c (by omega) (by omega), w e (by omega) (by omega), w (a * 2 ^ 24) (by omega) (by omega), w (b * 2 ^ 16) (by omega) (by omega), w (c * 2 ^ 8) (by omega) (by omega)]
  rw [or64_add a (b * 2 ^ 16) 24 (by omega) (by omega) (by omega) (by omega)]
  rw [show a * 2 ^ 24 + b * 2 ^ 16 = (a * 256 + b) * 2 ^ 16 by omega, or64_add (a * 256 + b) (c * 2 ^ 8) 16 (by omega) (by omega) (by omega) (by omega)]
  rw [show (a * 256 + b) * 2 ^ 16 + c * 2 ^ 8 = ((a * 256 + b) * 256 + c) * 2 ^ 8 by omega, or64_add ((a * 256 + b) * 256 + c) e 8 (by omega) (by omega) (by omega) (by omega)]
  simp only [num, List.foldl]
  omega

theorem four {l : List Int} (h : 4 ≤ l.length) : ∃ a b c e t, l = a :: b :: c :: e :: t := by
  match l, h with
  | a :: b :: c :: e :: t, _ => exact ⟨a, b, c, e, t, rfl⟩

set_option maxRecDepth 20000 in
theorem jnumber_spec {P : Program} (F : F_journal_number P) (ex : Bool) (l : List Int) (hl : 4 ≤ l.length) (hby : Byt l) (H : List AObj) :
    ACalls P F.id [.list ex 1 (bC l)] H (fun r H' => r = .int .i64 (num (l.take 4)) ∧ H' = H) := by
  obtain ⟨a, b, c, e, t, rfl⟩ := four hl
  have ha := hby a (by simp)
  have hb := hby b (by simp)
  have hc := hby c (by simp)
  have he := hby e (by simp)
  refine ACalls.pure rfl (acalls_of_body F.has ?_)
  (conv => whnf); refine And.intro (by decide) ?_
  (conv => whnf); refine And.intro (by decide) ?_
  (conv => whnf); refine And.intro (by decide) ?_
  (conv => whnf); refine And.intro (by decide) ?_
  (conv => whnf); refine And.intro (by decide) ?_
  (conv => whnf); refine And.intro (by decide) ?_
  (conv => whnf); refine And.intro (by decide) ?_
  conv => whnf
  exact pubI (or4 ha hb hc he)

def jBody (p : List Int) : List Int := beN 4 p.length ++ p

set_option maxRecDepth 20000 in
theorem jput4_own {P : Program} (F : F_journal_put4 P) (H : List AObj) (id : Nat) (l : List Int) (n : Int) (h0 : 0 ≤ n) (h1 : n < 4294967296) (ho : H[id]? = some (.arr 1 (bC l))) (hl : l.length ≤ 90000000) :
    ACalls P F.id [.sl id l.length 0 l.length, .int .u32 n] H (fun r H' => r = .sl id (l.length + 4) 0 (l.length + 4) ∧ H' = H.set id (.arr 1 (bC (l ++ beN 4 n)))) := by
  refine acalls_of_body F.has ?_
  (conv => whnf); refine And.intro (by decide) ?_
  (conv => whnf); refine And.intro (by decide) ?_
  (conv => whnf); refine And.intro (by decide) ?_
  (conv => whnf); refine recO (ho) ?_
  (conv => whnf); refine recT (by rw [bC_length]; exact Nat.beq_refl _) ?_
  (conv => whnf); refine And.intro (⟨roomB_le1 (by simp; omega), roomB_le (by simp; omega), rfl, by rw [bC_length]⟩) ?_
  rw [setO_eq]
  conv => whnf
  have hl2 : (bC l ++ bC (w4 n)).length = l.length + 4 := by rw [List.length_append, bC_length]; rfl
  rw [← w4_eq, bC_append]
  exact ⟨by show AVal.sl id (bC l ++ bC (w4 n)).length 0 (bC l ++ bC (w4 n)).length = _; rw [hl2], rfl⟩

set_option maxRecDepth 20000 in
theorem jput4_nil {P : Program} (F : F_journal_put4 P) (n : Int) :
    ACalls P F.id [.nil, .int .u32 n] [] (fun r H' => r = .sl 0 4 0 4 ∧ H' = [.arr 1 (bC (beN 4 n))]) := by
  refine acalls_of_body F.has ?_
  (conv => whnf); refine And.intro (by decide) ?_
  (conv => whnf); refine And.intro (by decide) ?_
  (conv => whnf); refine And.intro (by decide) ?_
  (conv => whnf); refine And.intro (⟨roomB_le1 (by simp), roomB_le (by simp)⟩) ?_
  conv => whnf
  rw [← w4_eq]
  exact ⟨rfl, rfl⟩

theorem u32_small {n : Nat} (h : n < 4294967296) : IntKind.u32.wrap (n : Int) = n := by rw [u32_wrap]; omega

set_option maxRecDepth 20000 in
theorem jsum_spec {P : Program} (F : F_journal_sum P) (ex : Bool) (p : List Int) (hl : p.length ≤ 10000000) (H : List AObj) :
    ACalls P F.id [.list ex 1 (bC p)] H (fun r H' => r = .int .u32 (fnv (jBody p)) ∧ H' = H) := by
  have e1 : IntKind.u32.wrap ((bC p).length : Int) = p.length := by rw [bC_length]; exact u32_small (by omega)
  refine ACalls.pure rfl (acalls_of_body F.has ?_)
  conv => whnf
  rw [e1]
  (conv => whnf); refine ACalls.mono (jput4_nil F.journal_put4 p.length) ?_
  rintro r H1 ⟨rfl, rfl⟩
  (conv => whnf); refine And.intro (⟨roomB_le1 (by simp [bC_length, beN_length]; omega), roomB_le (by simp [bC_length, beN_length]; omega), rfl, rfl⟩) ?_
  conv => whnf
  have hl3 : (bC (beN 4 (p.length : Int)) ++ bC p).length = (bC (jBody p)).length := by rw [jBody, bC_append]
  have key := ACalls.bor (H := [.arr 1 (bC (jBody p))]) (R := .int .u32 (fnv (jBody p))) rfl ((Checksum_spec F.batch_Checksum false (jBody p) (by rw [jBody, List.length_append, beN_length]; omega) []).mono fun _ _ h => h.1) (.cons (lentSl (id := 0) (ep := (bC (beN 4 (p.length : Int)) ++ bC p).length) (len := (bC (beN 4 (p.length : Int)) ++ bC p).length) rfl hl3 hl3 (pureEs_bC _)) .nil)
  rw [jBody, bC_append] at key
  refine ACalls.use key ?_
  conv => whnf
  exact .closed _ rfl

set_option maxRecDepth 20000 in
theorem bClone_raw {P : Program} (F : F_bytes_Clone P) (ex : Bool) (l : List Int) (hl : l.length ≤ 90000000) :
    ACalls P F.id [.list ex 1 (bC l)] [] (fun r H' => (r = .nil ∧ l = [] ∧ H' = []) ∨ (r = .sl 0 l.length 0 l.length ∧ H' = [.arr 1 (bC l)])) := by
  refine acalls_of_body F.has ?_
  conv => whnf
  refine And.intro (fun h => ?_) ?_
  · conv => whnf
    exact .inl ⟨rfl, by simpa [bC] using h, rfl⟩
  · (conv => whnf); refine And.intro (⟨roomB_le1 (by simp [bC_length]; omega), roomB_le (by simp [bC_length]; omega), .inr rfl⟩) ?_
    conv => whnf
    exact .inr ⟨slEq (bC_length l) (bC_length l), rfl⟩

end Go.AW

namespace Go.AW
variable [Draws]
def Reads (W : World) (v : Value) (l : List Int) : Prop :=
  (l = [] ∧ ∃ a cap, v = .slice a 0 cap) ∨ (l ≠ [] ∧ ∃ b off cap, v = .slice (some ⟨b, off, none⟩) l.length cap ∧ l.length ≤ cap ∧ b < W.heap.size ∧ ∀ i x, l[i]? = some x → W.cell? ⟨b, off + i, none⟩ = some (.int .u8 x))

theorem Reads.kept {W W' : World} {v : Value} {l : List Int} {row : Option Nat} (h : Reads W v l) (hg : W.grownBy W' row) (hr : l ≠ [] → ∀ b, v.ownBlock = some b → some b ≠ row) : Reads W' v l := by
  rcases h with h | ⟨h0, b, off, cap, rfl, hcap, hb, hc⟩
  · exact .inl h
  · refine .inr ⟨h0, b, off, cap, rfl, hcap, Nat.lt_of_lt_of_le hb hg.size, fun i x hx => ?_⟩
    rw [← hc i x hx]
    exact World.cell?_of_block (hg.block b hb (hr h0 b rfl))

theorem Reads.rd {W : World} {v : Value} {l : List Int} (h : Reads W v l) : ∃ C : Nat → Nat, Rd C W (.list false 1 (bC l)) v ∧ (∀ b, 0 < C b → b < W.heap.size) ∧ (∀ b, 0 < C b → v.ownBlock = some b) := by
  rcases h with ⟨rfl, a, cap, rfl⟩ | ⟨h0, b, off, cap, rfl, hcap, hb, hc⟩
  · exact ⟨fun _ => 0, .list0 _ _ _ _ (by simp), fun b h => absurd h (by simp), fun b h => absurd h (by simp)⟩
  · refine ⟨fun x => if x = b then off + l.length else 0, ?_, fun x hx => ?_, fun x hx => ?_⟩
    · have hl := bC_length l
      have := Rd.list (C := fun x => if x = b then off + l.length else 0) (w := W) false 1 (bC l) b off cap (fun i _ => .int .u8 (l.getD i 0)) (by simp) (by rw [hl]; exact hcap) (fun e he => by
          rw [bC] at he
          obtain ⟨x, _, rfl⟩ := List.mem_map.1 he
          rfl) (by rw [hl, Nat.mul_one]; simp) (fun i j hi hj => by
          obtain rfl : j = 0 := by omega
          rw [hl] at hi
          rw [Nat.mul_one, Nat.add_zero, hc i l[i] (List.getElem?_eq_getElem hi), List.getD_eq_getElem?_getD, List.getElem?_eq_getElem hi]; rfl) (fun i j e d he hd => by
          rw [bC, List.getElem?_map] at he
          obtain ⟨x, _, rfl⟩ := Option.map_eq_some_iff.1 he
          rcases j with _ | j
          · cases hd; rfl
          · simp at hd) (fun i j e d he hd => by
          rw [bC, List.getElem?_map] at he
          obtain ⟨x, hx, rfl⟩ := Option.map_eq_some_iff.1 he
          rcases j with _ | j
          · cases hd
            rw [List.getD_eq_getElem?_getD, hx]
            exact .int _ _
          · simp at hd)
      rwa [hl] at this
    · by_cases hx2 : x = b
      · rw [hx2]; exact hb
      · simp [hx2] at hx
    · by_cases hx2 : x = b
      · rw [hx2]; rfl
      · simp [hx2] at hx

theorem Reads.of_rd {C : Nat → Nat} {W : World} {x : Bool} {v : Value} {l : List Int} (h : Rd C W (.list x 1 (bC l)) v) (hC : ∀ b, 0 < C b → b < W.heap.size) : Reads W v l ∧ (l ≠ [] → ∃ b, v.ownBlock = some b ∧ 0 < C b) := by
  generalize he : bC l = es at h
  cases h with
  | list0 _ _ a cap hx =>
    have : l = [] := by simpa [bC] using he
    subst this
    exact ⟨.inl ⟨rfl, a, cap, rfl⟩, fun h => absurd rfl h⟩
  | list _ _ es b off cap vs hx hcap hsz hC2 hcell hp hrd =>
    subst he
    have hl := bC_length l
    rw [hl] at hcap hC2 ⊢
    by_cases h0 : l = []
    · subst h0
      exact ⟨.inl ⟨rfl, _, _, rfl⟩, fun h => absurd rfl h⟩
    · have hpos := List.length_pos_iff.2 h0
      have hb : 0 < C b := by omega
      refine ⟨.inr ⟨h0, b, off, cap, rfl, hcap, hC b hb, fun i y hy => ?_⟩, fun _ => ⟨b, rfl, hb⟩⟩
      have hi := (List.getElem?_eq_some_iff.1 hy).1
      have h1 := hcell i 0 (by omega) (by omega)
      have h2 := hrd i 0 [.int .u8 y] (.int .u8 y) (by rw [bC, List.getElem?_map, hy]; rfl) rfl
      rw [Nat.mul_one, Nat.add_zero] at h1
      generalize vs i 0 = z at h1 h2
      cases h2
      exact h1

theorem wf0 {C : Nat → Nat} {W : World} (h : ∀ b, 0 < C b → b < W.heap.size) : WF C (fun _ => none) [] W :=
  ⟨fun id o h => by simp at h, fun id o h => by simp at h, fun id o l h => by simp at h, fun id l h => by simp at h, fun i j li lj h => by simp at h, h⟩

theorem grown0 {C C' : Nat → Nat} {τ' : Nat → Option Loc} {H' : List AObj} {W W' : World} (h : St W (PrCall (fun _ => none) [] W) C' τ' H' W') : W.grownBy W' none :=
  ⟨h.fr.os, h.fr.tape, h.fr.output, h.fr.size, fun k hk _ => h.fr.prot k ⟨hk, by rintro ⟨id, l, h, _⟩; simp at h⟩⟩

theorem ACalls.int1 {P : Program} {f : FuncId} {l : List Int} {k : IntKind} {n : Int} (eg : ∀ args w, (callFunc f args).run P w = .ok (.enter f args) w) (h : ACalls P f [.list false 1 (bC l)] [] (fun r _ => r = .int k n)) {W : World} {v : Value} (hr : Reads W v l) :
    Calls P f #[v] W fun e W' => e = .returned (.int k n) ∧ W.grownBy W' none := by
  obtain ⟨C, hrd, hC, _⟩ := hr.rd
  have h := h C (fun _ => none) W #[v] (wf0 hC) rfl fun i a u ha hu => by
    rcases i with _ | i
    · cases ha; cases hu; exact .rd hrd
    · simp at ha
  unfold CallsX at h
  rw [eg] at h
  refine Calls.mono h fun e w' => ?_
  rintro ⟨u, r, C', τ', H', rfl, rfl, hrv, hst, _⟩
  refine ⟨?_, grown0 (C := C) hst⟩
  cases hrv with
  | rd h => cases h; rfl

theorem Reads.rdC {C : Nat → Nat} {W : World} {v : Value} {l : List Int} (h : Reads W v l) (hC : l ≠ [] → ∀ b i x, v.ownBlock = some b → W.cell? ⟨b, i, none⟩ = some x → i < C b) : Rd C W (.list false 1 (bC l)) v := by
  rcases h with ⟨rfl, a, cap, rfl⟩ | ⟨h0, b, off, cap, rfl, hcap, hb, hc⟩
  · exact .list0 _ _ _ _ (by simp)
  · have hl := bC_length l
    have hp := List.length_pos_iff.2 h0
    have hlast := hC h0 b _ _ rfl (hc (l.length - 1) _ (List.getElem?_eq_getElem (by omega)))
    have := Rd.list (C := C) (w := W) false 1 (bC l) b off cap (fun i _ => .int .u8 (l.getD i 0)) (by simp) (by rw [hl]; exact hcap) (fun e he => by
        rw [bC] at he
        obtain ⟨x, _, rfl⟩ := List.mem_map.1 he
        rfl) (by rw [hl, Nat.mul_one]; omega) (fun i j hi hj => by
        obtain rfl : j = 0 := by omega
        rw [hl] at hi
        rw [Nat.mul_one, Nat.add_zero, hc i l[i] (List.getElem?_eq_getElem hi), List.getD_eq_getElem?_getD, List.getElem?_eq_getElem hi]; rfl) (fun i j e d he hd => by
        rw [bC, List.getElem?_map] at he
        obtain ⟨x, _, rfl⟩ := Option.map_eq_some_iff.1 he
        rcases j with _ | j
        · cases hd; rfl
        · simp at hd) (fun i j e d he hd => by
        rw [bC, List.getElem?_map] at he
        obtain ⟨x, hx, rfl⟩ := Option.map_eq_some_iff.1 he
        rcases j with _ | j
        · cases hd
          rw [List.getD_eq_getElem?_getD, hx]
          exact .int _ _
        · simp at hd)
    rwa [hl] at this

theorem Reads.of_sl {C : Nat → Nat} {τ : Nat → Option Loc} {H : List AObj} {W : World} {v : Value} {l : List Int} {id : Nat} (hw : WF C τ H W) (ho : H[id]? = some (.arr 1 (bC l))) (h : Rel C W τ H (.sl id l.length 0 l.length) v) : Reads W v l := by
  cases h with
  | rd h => cases h
  | sl id ep off len a cap esz es ho2 hep hh =>
    rw [ho] at ho2
    cases ho2
    obtain ⟨h1, h2, h3⟩ := hh (bC_length l).symm
    by_cases h0 : l = []
    · subst h0; exact .inl ⟨rfl, _, _, rfl⟩
    · have hp := List.length_pos_iff.2 h0
      rcases h3 with ⟨_, h3⟩ | ⟨lc, h3, h4, h5⟩
      · omega
      · rcases h5 with h5 | rfl
        · omega
        · obtain ⟨hle, cells, elem, fz, hb, hsz, hfz, hcs⟩ := hw.objs id _ lc ho h3
          refine .inr ⟨h0, _, _, _, rfl, h2, lt_of_heap hb, fun i x hx => ?_⟩
          obtain ⟨y, hy, hy2⟩ := hcs i 0 [.int .u8 x] (.int .u8 x) (by rw [bC, List.getElem?_map, hx]; rfl) rfl
          have hyx : y = .int .u8 x := by
            cases hy2 with
            | rd h => cases h; rfl
          subst hyx
          rw [Nat.mul_one, Nat.add_zero] at hy
          rw [Nat.mul_one, Nat.zero_add]
          simp only [World.cell?, hb]
          exact hy

theorem Reads.of_slPart {C : Nat → Nat} {τ : Nat → Option Loc} {H : List AObj} {W : World} {v : Value} {l : List Int} {rest : List (List AVal)} {id ep : Nat} (hw : WF C τ H W) (ho : H[id]? = some (.arr 1 (bC l ++ rest))) (hep : ep = l.length + rest.length) (h : Rel C W τ H (.sl id ep 0 l.length) v) : Reads W v l := by
  cases h with
  | rd h => cases h
  | sl id ep off len a cap esz es ho2 hep2 hh =>
    rw [ho] at ho2
    cases ho2
    obtain ⟨h1, h2, h3⟩ := hh (by rw [List.length_append, bC_length]; exact hep)
    by_cases h0 : l = []
    · subst h0; exact .inl ⟨rfl, _, _, rfl⟩
    · have hp := List.length_pos_iff.2 h0
      rcases h3 with ⟨_, h3⟩ | ⟨lc, h3, h4, h5⟩
      · omega
      · rcases h5 with h5 | rfl
        · omega
        · obtain ⟨hle, cells, elem, fz, hb, hsz, hfz, hcs⟩ := hw.objs id _ lc ho h3
          refine .inr ⟨h0, _, _, _, rfl, h2, lt_of_heap hb, fun i x hx => ?_⟩
          have hil : i < (bC l).length := by rw [bC_length]; exact (List.getElem?_eq_some_iff.1 hx).1
          obtain ⟨y, hy, hy2⟩ := hcs i 0 [.int .u8 x] (.int .u8 x) (by rw [List.getElem?_append_left hil, bC, List.getElem?_map, hx]; rfl) rfl
          have hyx : y = .int .u8 x := by
            cases hy2 with
            | rd h => cases h; rfl
          subst hyx
          rw [Nat.mul_one, Nat.add_zero] at hy
          rw [Nat.mul_one, Nat.zero_add]
          simp only [World.cell?, hb]
          exact hy

theorem ACalls.fresh1 {P : Program} {f : FuncId} {l l' : List Int} (eg : ∀ args w, (callFunc f args).run P w = .ok (.enter f args) w) (h : ACalls P f [.list false 1 (bC l)] [] (fun r H' => (r = .nil ∧ l' = [] ∧ H' = []) ∨ (r = .sl 0 l'.length 0 l'.length ∧ H' = [.arr 1 (bC l')]))) {W : World} {v : Value} (hr : Reads W v l) :
    Calls P f #[v] W fun e W' => ∃ a c, e = .returned (.slice a l'.length c) ∧ Reads W' (.slice a l'.length c) l' ∧ W.grownBy W' none ∧ (l' ≠ [] → ∀ b, (Value.slice a l'.length c).ownBlock = some b → W.heap.size ≤ b) := by
  obtain ⟨C, hrd, hC, hC2⟩ := hr.rd
  have h := h C (fun _ => none) W #[v] (wf0 hC) rfl fun i a u ha hu => by
    rcases i with _ | i
    · cases ha; cases hu; exact .rd hrd
    · simp at ha
  unfold CallsX at h
  rw [eg] at h
  refine Calls.mono h fun e w' => ?_
  rintro ⟨u, r, C', τ', H', rfl, hq, hrv, hst, hstep⟩
  rcases hq with ⟨rfl, rfl, rfl⟩ | ⟨rfl, rfl⟩
  · cases hrv with
    | rd h =>
      cases h
      exact ⟨_, _, rfl, .inl ⟨rfl, _, _, rfl⟩, grown0 (C := C) hst, fun h => absurd rfl h⟩
  · cases hrv with
    | rd h => cases h
    | sl id ep off len a cap esz es ho hep hh =>
      cases ho
      obtain ⟨h1, h2, h3⟩ := hh (bC_length l').symm
      refine ⟨a, cap, rfl, ?_, grown0 (C := C) hst, ?_⟩
      · by_cases h0 : l' = []
        · subst h0; exact .inl ⟨rfl, _, _, rfl⟩
        · have hp := List.length_pos_iff.2 h0
          rcases h3 with ⟨_, h3⟩ | ⟨lc, h3, h4, h5⟩
          · omega
          · rcases h5 with h5 | rfl
            · omega
            · obtain ⟨hle, cells, elem, fz, hb, hsz, hfz, hcs⟩ := hst.wf.objs 0 _ lc rfl h3
              refine .inr ⟨h0, _, _, _, rfl, h2, lt_of_heap hb, fun i x hx => ?_⟩
              obtain ⟨y, hy, hy2⟩ := hcs i 0 [.int .u8 x] (.int .u8 x) (by rw [bC, List.getElem?_map, hx]; rfl) rfl
              have hyx : y = .int .u8 x := by
                cases hy2 with
                | rd h => cases h; rfl
              subst hyx
              rw [Nat.mul_one, Nat.add_zero] at hy
              rw [Nat.mul_one, Nat.zero_add]
              simp only [World.cell?, hb]
              exact hy
      · intro h0 b hbb
        have hp := List.length_pos_iff.2 h0
        rcases h3 with ⟨_, h3⟩ | ⟨lc, h3, h4, h5⟩
        · omega
        · rcases h5 with h5 | rfl
          · omega
          · cases hbb
            have := hst.own lc.b ⟨0, lc, by simp, h3, rfl⟩
            by_cases hlt : W.heap.size ≤ lc.b
            · exact hlt
            · exact absurd ⟨by omega, by rintro ⟨id, l, h, _⟩; simp at h⟩ this

end Go.AW

namespace Go.AW
variable [Draws]
def hdr (zs : List Int) (k : Nat) : Int := num ((zs.drop k).take 4)

def okE (zs : List Int) (k : Nat) : Bool :=
  decide (k + 8 ≤ zs.length) && (decide (hdr zs k ≤ 65536) && decide (hdr zs k ≤ (zs.length : Int) - k - 8)) && decide (IntKind.u32.wrap (hdr zs (k + 4)) = fnv (jBody ((zs.drop (k + 8)).take (hdr zs k).toNat)))

def entP (zs : List Int) (k : Nat) : List (Nat × Nat) :=
  if h : okE zs k = true then (k + 8, (hdr zs k).toNat) :: entP zs (k + 8 + (hdr zs k).toNat) else []
termination_by zs.length - k
decreasing_by
  simp [okE] at h
  omega

theorem num_nonneg : ∀ (l : List Int) (a : Int), 0 ≤ a → (∀ x ∈ l, 0 ≤ x) → 0 ≤ l.foldl (fun n x => n * 256 + x) a
  | [], a, h, _ => h
  | x :: l, a, h, hx => num_nonneg l _ (by have := hx x (List.mem_cons_self ..); show 0 ≤ a * 256 + x; omega) fun y hy => hx y (List.mem_cons_of_mem _ hy)

theorem hdr_nonneg {zs : List Int} (h : Byt zs) (k : Nat) : 0 ≤ hdr zs k := num_nonneg _ 0 (Int.le_refl _) fun x hx => (h x (List.mem_of_mem_drop (List.mem_of_mem_take hx))).1

theorem entP_nil {zs : List Int} {k : Nat} (h : okE zs k = false) : entP zs k = [] := by rw [entP, dif_neg (by simp [h])]

theorem entP_cons {zs : List Int} {k : Nat} (h : okE zs k = true) : entP zs k = (k + 8, (hdr zs k).toNat) :: entP zs (k + 8 + (hdr zs k).toNat) := by rw [entP, dif_pos h]

theorem okE_short {zs : List Int} {k : Nat} (h : ¬ k + 8 ≤ zs.length) : okE zs k = false := by simp [okE, h]

theorem okE_big {zs : List Int} {k : Nat} {N : Nat} (hN : hdr zs k = N) (h : 65536 < N ∨ (zs.length : Int) - k - 8 < N) : okE zs k = false := by
  simp only [okE, hN]
  rcases h with h | h
  · rw [decide_eq_false (p := (N : Int) ≤ 65536) (by omega)]; simp
  · rw [decide_eq_false (p := (N : Int) ≤ (zs.length : Int) - k - 8) (by omega)]; simp

theorem okE_sum {zs : List Int} {k : Nat} {N : Nat} (hN : hdr zs k = N) (h8 : k + 8 ≤ zs.length) (h1 : ¬ 65536 < N) (h2 : ¬ (zs.length : Int) - k - 8 < N) : okE zs k = decide (IntKind.u32.wrap (hdr zs (k + 4)) = fnv (jBody ((zs.drop (k + 8)).take N))) := by
  simp only [okE, hN, Int.toNat_natCast]
  rw [decide_eq_true h8, decide_eq_true (p := (N : Int) ≤ 65536) (by omega), decide_eq_true (p := (N : Int) ≤ (zs.length : Int) - k - 8) (by omega)]
  rfl

def endP (l : List (Nat × Nat)) : Nat := l.foldl (fun _ x => x.1 + x.2) 0

theorem endP_snoc (l : List (Nat × Nat)) (x : Nat × Nat) : endP (l ++ [x]) = x.1 + x.2 := by simp [endP]

def payP (zs : List Int) (x : Nat × Nat) : List Int := (zs.drop x.1).take x.2

def payL (zs : List Int) : AVal := .list false 1 ((entP zs 0).map fun x => [.list false 1 (bC (payP zs x))])

structure JRead (P : Program) (f : FuncId) : Prop where
  pure : ∀ (ex : Bool) (zs : List Int) (_ : zs.length ≤ 10000000) (_ : Byt zs) (H : List AObj),
    ACalls P f [.list ex 1 (bC zs)] H (fun r H' => r = .tuple [payL zs, .int .i64 (endP (entP zs 0))] ∧ H' = H)
  own : ∀ (zs : List Int) (n : Nat) (_ : n = zs.length) (_ : zs.length ≤ 10000000) (_ : Byt zs) (H : List AObj) (id : Nat) (_ : H[id]? = some (.arr 1 (bC zs))),
    ACalls P f [.sl id n 0 n] H (fun r H' => r = .tuple [payL zs, .int .i64 (endP (entP zs 0))] ∧ H' = H)
  part : ∀ (zs : List Int) (rest : List (List AVal)) (ep n : Nat) (_ : ep = zs.length + rest.length) (_ : n = zs.length) (_ : zs.length ≤ 10000000) (_ : Byt zs) (H : List AObj) (id : Nat) (_ : H[id]? = some (.arr 1 (bC zs ++ rest))),
    ACalls P f [.sl id ep 0 n] H (fun r H' => r = .tuple [payL zs, .int .i64 (endP (entP zs 0))] ∧ H' = H)

end Go.AW

namespace Go.AW
variable [Draws]
attribute [local irreducible] ACalls
def jEnt (p : List Int) : List Int := beN 4 p.length ++ beN 4 (fnv (jBody p)) ++ p

theorem jEnt_length (p : List Int) : (jEnt p).length = 8 + p.length := by simp [jEnt, beN_length]; omega

def jFull (zs p : List Int) : Bool := decide ((p.length : Int) > 65536) || decide ((zs.length : Int) + 8 + p.length > 4194304)

def jApp (zs p : List Int) : AVal := if jFull zs p then .tuple [.nil, .int .i64 2] else .tuple [.list false 1 (bC (zs ++ jEnt p)), .int .i64 0]

theorem jput4_own2 {P : Program} (F : F_journal_put4 P) (l : List Int) (k : Nat) (n : Int) (hk : k = l.length) (h0 : 0 ≤ n) (h1 : n < 4294967296) (hl : l.length ≤ 90000000) :
    ACalls P F.id [.sl 0 k 0 k, .int .u32 n] [.arr 1 (bC l)] (fun r H' => r = .sl 0 (k + 4) 0 (k + 4) ∧ H' = [.arr 1 (bC (l ++ beN 4 n))]) := by
  subst hk
  exact jput4_own F _ 0 l n h0 h1 rfl hl

set_option maxRecDepth 20000 in
theorem jAppend_spec {P : Program} (F : F_journal_Append P) (e1 e2 : Bool) (zs p : List Int) (hz : zs.length ≤ 10000000) (hp : p.length ≤ 10000000) (H : List AObj) :
    ACalls P F.id [.list e1 1 (bC zs), .list e2 1 (bC p)] H (fun r H' => r = jApp zs p ∧ H' = H) := by
  have w1 : IntKind.i64.wrap (((bC zs).length : Int) + 8) = (zs.length : Int) + 8 := by rw [bC_length]; exact wrapI _ (by omega) (by omega)
  have w2 : IntKind.i64.wrap ((zs.length : Int) + 8 + ((bC p).length : Int)) = (zs.length : Int) + 8 + p.length := by rw [bC_length]; exact wrapI _ (by omega) (by omega)
  have e3 : IntKind.u32.wrap ((bC p).length : Int) = p.length := by rw [bC_length]; exact u32_small (by omega)
  refine ACalls.pure rfl (acalls_of_body F.has ?_)
  conv => whnf
  (conv => whnf); refine recA (fun h1 => ?_) (fun h1 => ?_)
  · have hf : jFull zs p = true := by rw [bC_length] at h1; simp at h1; simp [jFull]; omega
    rw [jApp, if_pos hf]
    conv => whnf
    exact pub2 (.closed _ rfl) (.closed _ rfl)
  have h1' : ¬ 65536 < p.length := by rw [bC_length] at h1; simp at h1; omega
  conv => whnf
  rw [w1, w2]
  (conv => whnf); refine recA (fun h2 => ?_) (fun h2 => ?_)
  · have hf : jFull zs p = true := by simp at h2; simp [jFull]; omega
    rw [jApp, if_pos hf]
    conv => whnf
    exact pub2 (.closed _ rfl) (.closed _ rfl)
  have hf : jFull zs p = false := by simp at h2; simp [jFull]; omega
  rw [jApp, if_neg (by simp [hf])]
  (conv => whnf); refine ACalls.mono (bClone_raw F.bytes_Clone e1 zs (by omega)) ?_
  rintro r H1 (⟨rfl, h3, rfl⟩ | ⟨rfl, rfl⟩)
  · subst h3
    conv => whnf
    rw [e3]
    (conv => whnf); refine ACalls.mono (jput4_nil F.journal_put4 p.length) ?_
    rintro r H1 ⟨rfl, rfl⟩
    conv => whnf
    (conv => whnf); refine ACalls.use (jsum_spec F.journal_sum e2 p hp _) ?_
    (conv => whnf); refine ACalls.mono (jput4_own2 F.journal_put4 ([] ++ beN 4 (p.length : Int)) _ (fnv (jBody p)) (by simp [beN_length]) (fnv_bound _).1 (fnv_bound _).2 (by rw [List.length_append, beN_length]; omega)) ?_
    rintro r H1 ⟨rfl, rfl⟩
    try ((conv => whnf); refine recT (by rw [bC_length]; simp [beN_length]) ?_)
    (conv => whnf); refine And.intro (⟨roomB_le1 (by simp [bC_length, beN_length]; omega), roomB_le (by simp [bC_length, beN_length]; omega), rfl, by simp [bC_length, beN_length]⟩) ?_
    conv => whnf
    have hlen : (bC ([] ++ beN 4 (p.length : Int) ++ beN 4 (fnv (jBody p))) ++ bC p).length = (bC ([] ++ jEnt p)).length := by simp [bC_length, jEnt, beN_length]; omega
    refine pub2 (pubF (es := bC ([] ++ jEnt p)) ?_ hlen hlen (pureEs_bC _)) (.closed _ rfl)
    show some (AObj.arr 1 (bC ([] ++ beN 4 (p.length : Int) ++ beN 4 (fnv (jBody p))) ++ bC p)) = _
    rw [← bC_append, jEnt]
    simp only [List.append_assoc]
  · conv => whnf
    rw [e3]
    (conv => whnf); refine ACalls.mono (jput4_own2 F.journal_put4 zs _ p.length rfl (by omega) (by omega) (by omega)) ?_
    rintro r H1 ⟨rfl, rfl⟩
    conv => whnf
    (conv => whnf); refine ACalls.use (jsum_spec F.journal_sum e2 p hp _) ?_
    (conv => whnf); refine ACalls.mono (jput4_own2 F.journal_put4 (zs ++ beN 4 (p.length : Int)) _ (fnv (jBody p)) (by simp [beN_length]) (fnv_bound _).1 (fnv_bound _).2 (by rw [List.length_append, beN_length]; omega)) ?_
    rintro r H1 ⟨rfl, rfl⟩
    try ((conv => whnf); refine recT (by rw [bC_length]; simp [beN_length]) ?_)
    (conv => whnf); refine And.intro (⟨roomB_le1 (by simp [bC_length, beN_length]; omega), roomB_le (by simp [bC_length, beN_length]; omega), rfl, by simp [bC_length, beN_length]⟩) ?_
    conv => whnf
    have hlen : (bC (zs ++ beN 4 (p.length : Int) ++ beN 4 (fnv (jBody p))) ++ bC p).length = (bC (zs ++ jEnt p)).length := by simp [bC_length, jEnt, beN_length]; omega
    refine pub2 (pubF (es := bC (zs ++ jEnt p)) ?_ hlen hlen (pureEs_bC _)) (.closed _ rfl)
    show some (AObj.arr 1 (bC (zs ++ beN 4 (p.length : Int) ++ beN 4 (fnv (jBody p))) ++ bC p)) = _
    rw [← bC_append, jEnt]
    simp only [List.append_assoc]

end Go.AW

namespace Go.AW
variable [Draws]
def pays (zs : List Int) : List (List Int) := (entP zs 0).map (payP zs)

def stop (zs : List Int) : Nat := endP (entP zs 0)

theorem drop_app (a t : List Int) (k : Nat) : (a ++ t).drop (a.length + k) = t.drop k := by simp

theorem hdr_app (a t : List Int) (k : Nat) : hdr (a ++ t) (a.length + k) = hdr t k := by rw [hdr, drop_app, hdr]

theorem okE_app (a t : List Int) (k : Nat) : okE (a ++ t) (a.length + k) = okE t k := by
  have e1 : (a.length + k + 8 ≤ (a ++ t).length) ↔ (k + 8 ≤ t.length) := by rw [List.length_append]; omega
  have e2 : (hdr t k ≤ ((a ++ t).length : Int) - ((a.length + k : Nat) : Int) - 8) ↔ (hdr t k ≤ (t.length : Int) - k - 8) := by rw [List.length_append]; omega
  simp only [okE, hdr_app, e1, e2]
  rw [show a.length + k + 4 = a.length + (k + 4) by omega, hdr_app, show a.length + k + 8 = a.length + (k + 8) by omega, drop_app]

theorem entP_app (a t : List Int) : ∀ (n k : Nat), t.length - k ≤ n → entP (a ++ t) (a.length + k) = (entP t k).map fun x => (a.length + x.1, x.2)
  | n, k, hn => by
    by_cases h : okE t k = true
    · have h' : okE (a ++ t) (a.length + k) = true := by rw [okE_app]; exact h
      rw [entP_cons h, entP_cons h', hdr_app]
      have hk : k + 8 ≤ t.length := by simp [okE] at h; omega
      match n, hn with
      | 0, hn => omega
      | n + 1, hn =>
        have := entP_app a t n (k + 8 + (hdr t k).toNat) (by omega)
        rw [List.map_cons, ← this]
        congr 2
        omega
    · have h0 : okE t k = false := by simpa using h
      rw [entP_nil h0, entP_nil (by rw [okE_app]; exact h0)]; rfl

theorem entP_bound (zs : List Int) : ∀ (n k : Nat), zs.length - k ≤ n → ∀ x ∈ entP zs k, k + 8 ≤ x.1 ∧ x.1 + x.2 ≤ zs.length
  | n, k, hn, x, hx => by
    by_cases h : okE zs k = true
    · rw [entP_cons h] at hx
      have hk : k + 8 ≤ zs.length ∧ hdr zs k ≤ (zs.length : Int) - k - 8 := by simp [okE] at h; omega
      rcases List.mem_cons.1 hx with rfl | hx
      · exact ⟨by simp, by simp only []; omega⟩
      · match n, hn with
        | 0, hn => omega
        | n + 1, hn =>
          have := entP_bound zs n _ (by omega) x hx
          omega
    · rw [entP_nil (by simpa using h)] at hx
      simp at hx

def endA (a : Nat) (l : List (Nat × Nat)) : Nat := l.foldl (fun _ x => x.1 + x.2) a

theorem endA_mem : ∀ (l : List (Nat × Nat)) (a : Nat), (l = [] ∧ endA a l = a) ∨ ∃ x ∈ l, endA a l = x.1 + x.2
  | [], a => .inl ⟨rfl, rfl⟩
  | x :: l, a => by
    rcases endA_mem l (x.1 + x.2) with ⟨rfl, h⟩ | ⟨y, hy, h⟩
    · exact .inr ⟨x, by simp, h⟩
    · exact .inr ⟨y, by simp [hy], h⟩

theorem endA_map (n : Nat) : ∀ (l : List (Nat × Nat)) (a : Nat), endA (n + a) (l.map fun x => (n + x.1, x.2)) = n + endA a l
  | [], a => rfl
  | x :: l, a => by
    have := endA_map n l (x.1 + x.2)
    show endA (n + x.1 + x.2) _ = n + endA (x.1 + x.2) l
    rw [← this, Nat.add_assoc]

theorem endP_mem (l : List (Nat × Nat)) : l = [] ∨ ∃ x ∈ l, endP l = x.1 + x.2 := by
  rcases endA_mem l 0 with h | h
  · exact .inl h.1
  · exact .inr h

theorem stop_le (zs : List Int) : stop zs ≤ zs.length := by
  rcases endP_mem (entP zs 0) with h | ⟨x, hx, h⟩
  · rw [stop, h]; exact Nat.zero_le _
  · rw [stop, h]; exact (entP_bound zs _ 0 (Nat.le_refl _) x hx).2

theorem payP_app (a t : List Int) (x : Nat × Nat) : payP (a ++ t) (a.length + x.1, x.2) = payP t x := by rw [payP, drop_app, payP]

theorem jEnt_hdr (p t : List Int) (hp : p.length < 4294967296) : hdr (jEnt p ++ t) 0 = p.length ∧ hdr (jEnt p ++ t) 4 = fnv (jBody p) := by
  have h1 : ((jEnt p ++ t).drop 0).take 4 = beN 4 p.length := by
    rw [List.drop_zero, jEnt, List.append_assoc, List.append_assoc, List.take_left' (beN_length _ _)]
  have h2 : ((jEnt p ++ t).drop 4).take 4 = beN 4 (fnv (jBody p)) := by
    rw [jEnt, List.append_assoc, List.append_assoc, List.drop_left' (beN_length _ _), List.take_left' (beN_length _ _)]
  have hb := fnv_bound (jBody p)
  exact ⟨by rw [hdr, h1]; exact num_be 4 _ (by omega) (by omega), by rw [hdr, h2]; exact num_be 4 _ hb.1 (by omega)⟩

theorem jEnt_pay (p t : List Int) : payP (jEnt p ++ t) (8, p.length) = p := by
  rw [payP, jEnt, List.append_assoc, List.drop_left' (by simp [beN_length]), List.take_left]

theorem okE_ent (p t : List Int) (hp : p.length ≤ 65536) : okE (jEnt p ++ t) 0 = true := by
  obtain ⟨h1, h2⟩ := jEnt_hdr p t (by omega)
  have hl : (jEnt p ++ t).length = 8 + p.length + t.length := by rw [List.length_append, jEnt_length]
  have h3 : ((jEnt p ++ t).drop 8).take p.length = p := jEnt_pay p t
  have hb := fnv_bound (jBody p)
  simp only [okE, Nat.zero_add, h1, h2, Int.toNat_natCast, h3, u32_wrap]
  rw [Int.emod_eq_of_lt hb.1 hb.2]
  simp only [hl, Bool.and_eq_true, decide_eq_true_eq]
  exact ⟨⟨by omega, by omega, by omega⟩, trivial⟩

theorem entP_ent (p t : List Int) (hp : p.length ≤ 65536) : entP (jEnt p ++ t) 0 = (8, p.length) :: (entP t 0).map fun x => (8 + p.length + x.1, x.2) := by
  rw [entP_cons (okE_ent p t hp), (jEnt_hdr p t (by omega)).1, Int.toNat_natCast]
  have := entP_app (jEnt p) t _ 0 (Nat.le_refl _)
  rw [jEnt_length, Nat.add_zero] at this
  rw [show 0 + 8 + p.length = 8 + p.length by omega, this]

theorem pays_ent (p t : List Int) (hp : p.length ≤ 65536) : pays (jEnt p ++ t) = p :: pays t ∧ stop (jEnt p ++ t) = 8 + p.length + stop t := by
  rw [pays, stop, entP_ent p t hp, List.map_cons, jEnt_pay, List.map_map, pays, stop]
  refine ⟨?_, ?_⟩
  · congr 1
    refine List.map_congr_left fun x _ => ?_
    have := payP_app (jEnt p) t x
    rw [jEnt_length] at this
    exact this
  · have := endA_map (8 + p.length) (entP t 0) 0
    exact this

theorem pays_nil : pays [] = [] ∧ stop [] = 0 := by rw [pays, stop, entP_nil (okE_short (by simp))]; exact ⟨rfl, rfl⟩

def jLog (l : List (List Int)) : List Int := l.flatMap jEnt

theorem jLog_cons (p : List Int) (l : List (List Int)) : jLog (p :: l) = jEnt p ++ jLog l := by simp [jLog]

theorem jLog_snoc (l : List (List Int)) (p : List Int) : jLog (l ++ [p]) = jLog l ++ jEnt p := by simp [jLog]

theorem pays_log : ∀ (l : List (List Int)) (t : List Int), (∀ p ∈ l, p.length ≤ 65536) → pays (jLog l ++ t) = l ++ pays t ∧ stop (jLog l ++ t) = (jLog l).length + stop t
  | [], t, _ => ⟨rfl, by simp [jLog]⟩
  | p :: l, t, h => by
    obtain ⟨h1, h2⟩ := pays_log l t fun q hq => h q (List.mem_cons_of_mem _ hq)
    obtain ⟨h3, h4⟩ := pays_ent p (jLog l ++ t) (h p (List.mem_cons_self ..))
    rw [jLog_cons, List.append_assoc, h3, h4, h1, h2, List.length_append, jEnt_length]
    exact ⟨rfl, by omega⟩

theorem okE_cut (p : List Int) (hp : p.length ≤ 65536) (m : Nat) (hm : m < 8 + p.length) : okE ((jEnt p).take m) 0 = false := by
  have hl : ((jEnt p).take m).length = m := by rw [List.length_take, jEnt_length]; omega
  by_cases h8 : 8 ≤ m
  · have h : hdr ((jEnt p).take m) 0 = p.length := by
      have := (jEnt_hdr p [] (by omega)).1
      rw [List.append_nil] at this
      rw [← this, hdr, hdr, List.drop_zero, List.drop_zero, List.take_take, show min 4 m = 4 by omega]
    exact okE_big h (.inr (by rw [hl]; omega))
  · exact okE_short (by rw [hl]; omega)

theorem pays_cut (p : List Int) (hp : p.length ≤ 65536) (m : Nat) (hm : m < 8 + p.length) : pays ((jEnt p).take m) = [] ∧ stop ((jEnt p).take m) = 0 := by
  rw [pays, stop, entP_nil (okE_cut p hp m hm)]; exact ⟨rfl, rfl⟩

end Go.AW

namespace Go.AW
variable [Draws]
attribute [local irreducible] ACalls
theorem ref35_Number_raw {P : Program} (F : F_warehouseref35_Number P) (n : Int) (hn : 0 ≤ n) (hn2 : n ≤ 9000000000000000000) :
    ACalls P F.id [.int .i64 n, .int .i64 4] [] (fun r H' => r = .sl 0 4 0 4 ∧ H' = [.arr 1 (bC (beN 4 n))]) :=
  ref24_number_raw ⟨F.id, F.has⟩ n 4 hn hn2 (by decide)

theorem ref35_Number_spec {P : Program} (F : F_warehouseref35_Number P) (n : Int) (hn : 0 ≤ n) (hn2 : n ≤ 9000000000000000000) (H : List AObj) :
    ACalls P F.id [.int .i64 n, .int .i64 4] H (fun r H' => r = .list false 1 (bC (beN 4 n)) ∧ H' = H) :=
  ref24_number_spec ⟨F.id, F.has⟩ n 4 hn hn2 (by decide) H

set_option maxRecDepth 20000 in
theorem ref35_Entry_spec {P : Program} (F : F_warehouseref35_Entry P) (ex : Bool) (p : List Int) (hp : p.length ≤ 10000000) (hb : Byt p) (H : List AObj) :
    ACalls P F.id [.list ex 1 (bC p)] H (fun r H' => r = .list false 1 (bC (jEnt p)) ∧ H' = H) := by
  have hbb : Byt (jBody p) := fun x hx => (List.mem_append.1 hx).elim (beN_byt _ _ x) (hb x)
  have hf := fnv_bound (jBody p)
  refine ACalls.pure rfl (acalls_of_body F.has ?_)
  conv => whnf
  rw [bC_length]
  (conv => whnf); refine ACalls.mono (ref35_Number_raw F.warehouseref35_Number p.length (by omega) (by omega)) ?_
  rintro r H1 ⟨rfl, rfl⟩
  (conv => whnf); refine And.intro (⟨roomB_le1 (by simp [bC_length, beN_length]; omega), roomB_le (by simp [bC_length, beN_length]; omega), rfl, rfl⟩) ?_
  have h1 : (bC (beN 4 (p.length : Int)) ++ bC p).length = 4 + p.length := by simp [bC_length, beN_length]
  (conv => whnf); refine recT (Nat.beq_refl _) ?_
  (conv => whnf); refine And.intro (⟨by omega, by show (4 : Int) ≤ ((bC (beN 4 (p.length : Int)) ++ bC p).length : Int); rw [h1]; omega⟩) ?_
  (conv => whnf); refine recT (Nat.beq_refl _) ?_
  conv => whnf
  have hsub : List.take (Int.toNat 4 - 0) (List.drop (0 + 0) (bC (beN 4 (p.length : Int)) ++ bC p)) = bC (beN 4 p.length) := by
    show List.take 4 (List.drop 0 (bC (beN 4 (p.length : Int)) ++ bC p)) = _
    rw [List.drop_zero, List.take_left' (by simp [bC_length, beN_length])]
  rw [hsub]
  (conv => whnf); refine And.intro (⟨roomB_le1 (by simp [bC_length, beN_length]), roomB_le (by simp [bC_length, beN_length])⟩) ?_
  conv => whnf
  have hl3 : (bC (beN 4 (p.length : Int)) ++ bC p).length = (bC (jBody p)).length := by rw [jBody, bC_append]
  have key := ACalls.bor (H := [.arr 1 (bC (jBody p)), .arr 1 (bC (beN 4 (p.length : Int)))]) (R := .int .u32 (fnv (jBody p))) rfl ((ref24_Checksum_spec F.warehouseref24_Checksum false (jBody p) (by rw [jBody, List.length_append, beN_length]; omega) hbb []).mono fun _ _ h => h.1) (.cons (lentSl (id := 0) (ep := (bC (beN 4 (p.length : Int)) ++ bC p).length) (len := (bC (beN 4 (p.length : Int)) ++ bC p).length) rfl hl3 hl3 (pureEs_bC _)) .nil)
  rw [jBody, bC_append] at key
  (conv => whnf); refine ACalls.use (key) ?_
  conv => whnf
  rw [show IntKind.i64.wrap (fnv (beN 4 (p.length : Int) ++ p)) = fnv (jBody p) from wrapI _ (by show _ ≤ fnv (jBody p); omega) (by show fnv (jBody p) ≤ _; omega)]
  (conv => whnf); refine ACalls.use (ref35_Number_spec F.warehouseref35_Number (fnv (jBody p)) hf.1 (by omega) _) ?_
  (conv => whnf); refine And.intro (⟨roomB_le1 (by simp [bC_length, beN_length]), roomB_le (by simp [bC_length, beN_length]), rfl, rfl⟩) ?_
  (conv => whnf); refine And.intro (⟨roomB_le1 (by simp [bC_length, beN_length]; omega), roomB_le (by simp [bC_length, beN_length]; omega), rfl, rfl⟩) ?_
  conv => whnf
  have hl4 : (bC (beN 4 (p.length : Int)) ++ bC (beN 4 (fnv (jBody p))) ++ bC p).length = (bC (jEnt p)).length := by simp [bC_length, jEnt, beN_length]
  refine pubF (es := bC (jEnt p)) ?_ hl4 hl4 (pureEs_bC _)
  show some (AObj.arr 1 (bC (beN 4 (p.length : Int)) ++ bC (beN 4 (fnv (jBody p))) ++ bC p)) = _
  rw [← bC_append, ← bC_append, jEnt]

theorem jEnt_byt {p : List Int} (hb : Byt p) : Byt (jEnt p) := fun x hx => by
  rw [jEnt, List.append_assoc] at hx
  rcases List.mem_append.1 hx with h | h
  · exact beN_byt _ _ x h
  rcases List.mem_append.1 h with h | h
  · exact beN_byt _ _ x h
  · exact hb x h

end Go.AW

namespace Go.AW
variable [Draws]
attribute [local irreducible] ACalls
def pL (ps : List (List Int)) : List (List AVal) := ps.map fun p => [.list false 1 (bC p)]

theorem pL_length (ps : List (List Int)) : (pL ps).length = ps.length := by simp [pL]

theorem payL_eq (zs : List Int) : payL zs = .list false 1 (pL (pays zs)) := by simp [payL, pL, pays, List.map_map, Function.comp_def]

def RdRaw (zs : List Int) (r : AVal) : Prop := r = .tuple [payL zs, .int .i64 (stop zs)] ∨ (pays zs = [] ∧ r = .tuple [.nil, .int .i64 (stop zs)])

theorem RdRaw.wk {zs : List Int} {r : AVal} (h : RdRaw zs r) : WkD r (.tuple [payL zs, .int .i64 (stop zs)]) := by
  rcases h with rfl | ⟨h, rfl⟩
  · exact .refl _
  · rw [payL_eq, h]
    exact .tuples (.cons (.nil _ _) (.cons (.refl _) .nil))

end Go.AW

namespace Go.AW
variable [Draws]
attribute [local irreducible] ACalls
theorem bClone_spec {P : Program} (F : F_bytes_Clone P) (ex : Bool) (l : List Int) (hl : l.length ≤ 90000000) (H : List AObj) :
    ACalls P F.id [.list ex 1 (bC l)] H (fun r H' => r = .list false 1 (bC l) ∧ H' = H) := by
  refine ACalls.weakR (Q := fun r H' => (r = .list false 1 (bC l) ∨ (r = .nil ∧ l = [])) ∧ H' = H) (ACalls.lift0 (R := fun r => r = .list false 1 (bC l) ∨ (r = .nil ∧ l = [])) rfl ((bClone_raw F ex l hl).mono ?_)) ?_
  · rintro r H1 (⟨rfl, h1, rfl⟩ | ⟨rfl, rfl⟩)
    · exact ⟨_, .closed _ rfl, .inr ⟨rfl, h1⟩⟩
    · exact ⟨_, pubF rfl (bC_length l).symm (bC_length l).symm (pureEs_bC l), .inl rfl⟩
  · rintro r H' ⟨rfl | ⟨rfl, rfl⟩, rfl⟩
    · exact ⟨_, .refl _, rfl, rfl⟩
    · exact ⟨_, .nil _ _, rfl, rfl⟩

theorem slice_bC (zs : List Int) (n : Nat) : List.drop 0 (List.take (n : Int).toNat (bC zs)) = bC (zs.take n) := by rw [List.drop_zero, Int.toNat_natCast, bC_take]

set_option maxRecDepth 20000 in
theorem jRepair_spec {P : Program} (F : F_journal_Repair P) (hR : JRead P F.journal_Read.id) (ex : Bool) (zs : List Int) (hz : zs.length ≤ 7000000) (hb : Byt zs) (H : List AObj) :
    ACalls P F.id [.list ex 1 (bC zs)] H (fun r H' => r = .list false 1 (bC (zs.take (stop zs))) ∧ H' = H) := by
  have hs := stop_le zs
  refine ACalls.pure rfl (acalls_of_body F.has ?_)
  (conv => whnf); refine ACalls.use (hR.pure ex zs (by omega) hb _) ?_
  (conv => whnf); refine And.intro (⟨by omega, by show ((stop zs : Nat) : Int) ≤ _; rw [bC_length]; omega⟩) ?_
  conv => whnf
  rw [slice_bC]
  (conv => whnf); refine ACalls.use (bClone_spec F.bytes_Clone _ (zs.take (stop zs)) (by rw [List.length_take]; omega) _) ?_
  conv => whnf
  exact .closed _ rfl

theorem pL_get {ps : List (List Int)} {k : Nat} {p : List Int} (h : ps[k]? = some p) : (pL ps)[k]? = some [.list false 1 (bC p)] := by rw [pL, List.getElem?_map, h]; rfl

def qL (ps : List (Bool × List Int)) : List (List AVal) := ps.map fun p => [.list p.1 1 (bC p.2)]

theorem qL_length (ps : List (Bool × List Int)) : (qL ps).length = ps.length := by simp [qL]

theorem qL_get {ps : List (Bool × List Int)} {k : Nat} {p : Bool × List Int} (h : ps[k]? = some p) : (qL ps)[k]? = some [.list p.1 1 (bC p.2)] := by rw [qL, List.getElem?_map, h]; rfl

theorem pL_q (ps : List (List Int)) : pL ps = qL (ps.map fun p => (false, p)) := by simp [pL, qL, List.map_map, Function.comp_def]

def bytL (ps : List (Bool × List Int)) : Prop := ∀ p ∈ ps, Byt p.2

set_option maxRecDepth 20000 in
theorem same35_spec {P : Program} (F : F_warehouselaw35_same P) (e1 e2 : Bool) (a b : List (Bool × List Int)) (ha : bytL a) (hb : bytL b) (hl : a.length ≤ 10000000) (H : List AObj) :
    ACalls P F.id [.list e1 1 (qL a), .list e2 1 (qL b)] H (fun r H' => r = .bool (a.map (fun p => p.2) == b.map (fun p => p.2)) ∧ H' = H) := by
  refine ACalls.pure rfl (acalls_of_body F.has ?_)
  (conv => whnf); refine recA (fun h1 => ?_) (fun h1 => ?_)
  · have hne : (a.map (fun p => p.2) == b.map (fun p => p.2)) = false := by
      rw [qL_length, qL_length] at h1
      simp at h1
      refine beq_false_of_ne fun e => h1 ?_
      have := congrArg List.length e
      simp at this
      omega
    rw [hne]
    conv => whnf
    exact .closed _ rfl
  rw [qL_length, qL_length] at h1
  simp at h1
  conv => whnf
  refine ⟨fun m ρ H1 => ∃ k : Nat, k + m = a.length ∧ H1 = [] ∧ (a.take k).map (fun p => p.2) = (b.take k).map (fun p => p.2) ∧
    Sv 28 [(0, .list e1 1 (qL a)), (1, .list e2 1 (qL b)), (12, .int .i64 a.length), (13, .int .i64 k)] ρ, a.length, [], ?_, ?_⟩
  · exact ⟨0, by omega, rfl, rfl, Sv.intro rfl ⟨rfl, rfl, intEq (by rw [qL_length]), rfl, trivial⟩⟩
  rintro m ρ H1 ⟨k, hk, rfl, heq, d, rfl⟩
  (conv => whnf); refine recA (fun hlt => ?_) (fun hlt => ?_)
  · simp at hlt
    obtain ⟨x, hx⟩ : ∃ x, a[k]? = some x := ⟨_, List.getElem?_eq_getElem hlt⟩
    obtain ⟨y, hy⟩ : ∃ y, b[k]? = some y := ⟨_, List.getElem?_eq_getElem (by omega)⟩
    have hxb := ha x (List.mem_of_getElem? hx)
    have hyb := hb y (List.mem_of_getElem? hy)
    (conv => whnf); refine And.intro (by omega) ?_
    (conv => whnf); refine recO (qL_get hx) ?_
    (conv => whnf); refine ⟨_, bytesOf_bC _, ?_⟩
    (conv => whnf); refine And.intro (by omega) ?_
    (conv => whnf); refine recO (qL_get hy) ?_
    (conv => whnf); refine ⟨_, bytesOf_bC _, ?_⟩
    (conv => whnf); refine recA (fun hq => ?_) (fun hq => ?_)
    · replace hq : (!((x.2.map fun n => UInt8.ofNat n.toNat) == y.2.map fun n => UInt8.ofNat n.toNat)) = true := hq
      rw [byt_beq hxb hyb] at hq
      simp at hq
      have hne : (a.map (fun p => p.2) == b.map (fun p => p.2)) = false := by
        refine beq_false_of_ne fun e => hq ?_
        have := congrArg (fun l => l[k]?) e
        simpa [hx, hy] using this
      rw [hne]
      conv => whnf
      exact .closed _ rfl
    · replace hq : (!((x.2.map fun n => UInt8.ofNat n.toNat) == y.2.map fun n => UInt8.ofNat n.toNat)) = false := hq
      rw [byt_beq hxb hyb] at hq
      simp at hq
      conv => whnf
      refine ⟨m - 1, by omega, Gp.keep rfl ?_ fun ρ1 h => ⟨k + 1, by omega, rfl, ?_, h⟩⟩
      · exact ⟨rfl, rfl, rfl, intEq (wrapI _ (by omega) (by omega)), trivial⟩
      · rw [List.take_add_one, List.take_add_one, List.map_append, List.map_append, heq, hx, hy]
        simp [hq]
  · simp at hlt
    have hkl : k = a.length := by omega
    have heq2 : (a.map (fun p => p.2) == b.map (fun p => p.2)) = true := by
      rw [beq_iff_eq, ← List.take_of_length_le (l := a) (i := k) (by omega), ← List.take_of_length_le (l := b) (i := k) (by omega), heq]
    rw [heq2]
    conv => whnf
    exact .closed _ rfl

def light35 (ps : List (Bool × List Int)) : Bool := decide (ps.length ≤ 20) && ps.all fun p => decide (p.2.length ≤ 300)

set_option maxRecDepth 20000 in
theorem light35_spec {P : Program} (F : F_warehouselaw35_light P) (e1 : Bool) (a : List (Bool × List Int)) (H : List AObj) :
    ACalls P F.id [.list e1 1 (qL a)] H (fun r H' => r = .bool (light35 a) ∧ H' = H) := by
  refine ACalls.pure rfl (acalls_of_body F.has ?_)
  (conv => whnf); refine recA (fun h1 => ?_) (fun h1 => ?_)
  · rw [qL_length] at h1
    simp at h1
    rw [light35, decide_eq_false (by omega)]
    conv => whnf
    exact .closed _ rfl
  rw [qL_length] at h1
  simp at h1
  have h20 : a.length ≤ 20 := by omega
  rw [light35, decide_eq_true h20, Bool.true_and]
  conv => whnf
  refine ⟨fun m ρ H1 => ∃ k : Nat, k + m = a.length ∧ H1 = [] ∧ (a.take k).all (fun p => decide (p.2.length ≤ 300)) = true ∧
    Sv 19 [(0, .list e1 1 (qL a)), (8, .int .i64 a.length), (9, .int .i64 k)] ρ, a.length, [], ?_, ?_⟩
  · exact ⟨0, by omega, rfl, rfl, Sv.intro rfl ⟨rfl, intEq (by rw [qL_length]), rfl, trivial⟩⟩
  rintro m ρ H1 ⟨k, hk, rfl, hall, d, rfl⟩
  (conv => whnf); refine recA (fun hlt => ?_) (fun hlt => ?_)
  · simp at hlt
    obtain ⟨x, hx⟩ : ∃ x, a[k]? = some x := ⟨_, List.getElem?_eq_getElem hlt⟩
    (conv => whnf); refine And.intro (by omega) ?_
    (conv => whnf); refine recO (qL_get hx) ?_
    (conv => whnf); refine recA (fun hq => ?_) (fun hq => ?_)
    · rw [bC_length] at hq
      simp at hq
      have : a.all (fun p => decide (p.2.length ≤ 300)) = false := by
        rw [List.all_eq_false]
        exact ⟨x, List.mem_of_getElem? hx, by simp; omega⟩
      rw [this]
      conv => whnf
      exact .closed _ rfl
    · rw [bC_length] at hq
      simp at hq
      conv => whnf
      refine ⟨m - 1, by omega, Gp.keep rfl ?_ fun ρ1 h => ⟨k + 1, by omega, rfl, ?_, h⟩⟩
      · exact ⟨rfl, rfl, intEq (wrapI _ (by omega) (by omega)), trivial⟩
      · rw [List.take_add_one, List.all_append, hall, hx]
        simp; omega
  · simp at hlt
    rw [List.take_of_length_le (by omega)] at hall
    rw [hall]
    conv => whnf
    exact .closed _ rfl

end Go.AW

namespace Go.AW
variable [Draws]
attribute [local irreducible] ACalls
theorem cellsOk_bytes {e : List AVal} (h : CellsOk [.slice [.int .u8]] e) : ∃ p : List Int, e = [.list false 1 (bC p)] ∧ p.length ≤ maxLen ∧ ∀ n ∈ p, (Lit.int .u8 n).wf = true := by
  match e, h with
  | [a], h =>
    obtain ⟨h1, _⟩ := h
    obtain ⟨es, rfl, hl, h3⟩ := shOk_slice h1
    obtain ⟨m, rfl, hm⟩ := list_image (g := fun n => [AVal.int .u8 n]) (W := fun n => (Lit.int .u8 n).wf = true) es fun e he => cellsOk_int (h3 e he)
    exact ⟨m, rfl, by simpa using hl, hm⟩

theorem argOk_bytess {a : AVal} (h : ArgOk (false, [.slice [.slice [.int .u8]]]) a) : ∃ l : List (List Int), a = .list false 1 (pL l) ∧ l.length ≤ maxLen ∧ ∀ p ∈ l, p.length ≤ maxLen ∧ ∀ n ∈ p, (Lit.int .u8 n).wf = true := by
  obtain ⟨es, rfl, hl, h⟩ := argOk_slice h
  obtain ⟨m, rfl, hm⟩ := list_image (g := fun p => [AVal.list false 1 (bC p)]) (W := fun p => p.length ≤ maxLen ∧ ∀ n ∈ p, (Lit.int .u8 n).wf = true) es fun e he => cellsOk_bytes (h e he)
  exact ⟨m, rfl, by simpa using hl, hm⟩

theorem byt_nil : Byt [] := fun x hx => by simp at hx

theorem byt_app {a b : List Int} (ha : Byt a) (hb : Byt b) : Byt (a ++ b) := fun x hx => (List.mem_append.1 hx).elim (ha x) (hb x)

def xy : List Int := [120, 121]

theorem byt_xy : Byt xy := fun x hx => by simp [xy] at hx; omega

theorem jApp_ok {zs p : List Int} (h : jFull zs p = false) : jApp zs p = .tuple [.list false 1 (bC (zs ++ jEnt p)), .int .i64 0] := by rw [jApp, if_neg (by simp [h])]

theorem jApp_full {zs p : List Int} (h : jFull zs p = true) : jApp zs p = .tuple [.nil, .int .i64 2] := by rw [jApp, if_pos h]

theorem bClone_own {P : Program} (F : F_bytes_Clone P) (ex : Bool) (l : List Int) (h0 : l ≠ []) (hl : l.length ≤ 90000000) (o : List Int) :
    ACalls P F.id [.list ex 1 (bC l)] [.arr 1 (bC o)] (fun r H' => r = .sl 1 l.length 0 l.length ∧ H' = [.arr 1 (bC o), .arr 1 (bC l)]) := by
  refine (bClone_raw F ex l hl).lift rfl ?_
  rintro r H1 (⟨rfl, h1, rfl⟩ | ⟨rfl, rfl⟩)
  · exact absurd h1 h0
  · exact ⟨[0], .sl 1 l.length 0 l.length, [.arr 1 (bC l)], .keep 0 _ _ _ 0 rfl, by simp, rfl, fun k id h => by
      rcases k with _ | k
      · cases h; exact ⟨rfl, 1, bC l, rfl, pureEs_bC l⟩
      · simp at h, rfl, rfl⟩

theorem jput4_own3 {P : Program} (F : F_journal_put4 P) (o l : List Int) (k : Nat) (n : Int) (hk : k = l.length) (h0 : 0 ≤ n) (h1 : n < 4294967296) (hl : l.length ≤ 90000000) :
    ACalls P F.id [.sl 1 k 0 k, .int .u32 n] [.arr 1 (bC o), .arr 1 (bC l)] (fun r H' => r = .sl 1 (k + 4) 0 (k + 4) ∧ H' = [.arr 1 (bC o), .arr 1 (bC (l ++ beN 4 n))]) := by
  subst hk
  exact jput4_own F _ 1 l n h0 h1 rfl hl

set_option maxRecDepth 20000 in
theorem jAppend_sl {P : Program} (F : F_journal_Append P) (e1 : Bool) (zs p : List Int) (h0 : zs ≠ []) (hf : jFull zs p = false) (n : Nat) (hn : n = p.length) :
    ACalls P F.id [.list e1 1 (bC zs), .sl 0 n 0 n] [.arr 1 (bC p)] (fun r H' => r = .tuple [.sl 1 (zs.length + 8 + p.length) 0 (zs.length + 8 + p.length), .int .i64 0] ∧ H' = [.arr 1 (bC p), .arr 1 (bC (zs ++ jEnt p))]) := by
  subst hn
  simp [jFull] at hf
  have w1 : IntKind.i64.wrap (((bC zs).length : Int) + 8) = (zs.length : Int) + 8 := by rw [bC_length]; exact wrapI _ (by omega) (by omega)
  have w2 : IntKind.i64.wrap ((zs.length : Int) + 8 + (p.length : Int)) = (zs.length : Int) + 8 + p.length := wrapI _ (by omega) (by omega)
  have e3 : IntKind.u32.wrap (p.length : Int) = p.length := u32_small (by omega)
  refine acalls_of_body F.has ?_
  have hbq : ∀ l : List Int, Nat.beq l.length (bC l).length = true := fun l => by rw [bC_length]; exact Nat.beq_refl _
  (conv => whnf); refine recT (hbq p) ?_
  (conv => whnf); refine recF (by simp; omega) ?_
  conv => whnf
  rw [w1]
  (conv => whnf); refine recT (hbq p) ?_
  conv => whnf
  rw [w2]
  (conv => whnf); refine recF (by simp; omega) ?_
  (conv => whnf); refine ACalls.mono (bClone_own F.bytes_Clone e1 zs h0 (by omega) p) ?_
  rintro r H1 ⟨rfl, rfl⟩
  (conv => whnf); refine recT (hbq p) ?_
  conv => whnf
  rw [e3]
  (conv => whnf); refine ACalls.mono (jput4_own3 F.journal_put4 p zs _ p.length rfl (by omega) (by omega) (by omega)) ?_
  rintro r H1 ⟨rfl, rfl⟩
  conv => whnf
  have hs := ACalls.bor (H := [.arr 1 (bC p), .arr 1 (bC (zs ++ beN 4 (p.length : Int)))]) (R := .int .u32 (fnv (jBody p))) rfl ((jsum_spec F.journal_sum false p (by omega) []).mono fun _ _ h => h.1) (.cons (lentSl (id := 0) (ep := p.length) (len := p.length) rfl (bC_length p).symm (bC_length p).symm (pureEs_bC _)) .nil)
  (conv => whnf); refine ACalls.use (hs) ?_
  (conv => whnf); refine ACalls.mono (jput4_own3 F.journal_put4 p (zs ++ beN 4 (p.length : Int)) _ (fnv (jBody p)) (by simp [beN_length]) (fnv_bound _).1 (fnv_bound _).2 (by rw [List.length_append, beN_length]; omega)) ?_
  rintro r H1 ⟨rfl, rfl⟩
  (conv => whnf); refine recT (hbq p) ?_
  (conv => whnf); refine recT (by simp [bC_length, beN_length]) ?_
  (conv => whnf); refine And.intro (⟨roomB_le1 (by simp [bC_length, beN_length]; omega), roomB_le (by simp [bC_length, beN_length]; omega), rfl, by simp [bC_length, beN_length]⟩) ?_
  conv => whnf
  have ht : List.take p.length (List.drop 0 (bC p)) = bC p := by rw [List.drop_zero, List.take_of_length_le (by rw [bC_length]; exact Nat.le_refl _)]
  have e : bC (zs ++ beN 4 (p.length : Int) ++ beN 4 (fnv (jBody p))) ++ List.take p.length (List.drop 0 (bC p)) = bC (zs ++ jEnt p) := by
    rw [ht, ← bC_append, jEnt]
    simp only [List.append_assoc]
  have el : (bC (zs ++ beN 4 (p.length : Int) ++ beN 4 (fnv (jBody p))) ++ List.take p.length (List.drop 0 (bC p))).length = zs.length + 8 + p.length := by
    rw [e, bC_length, List.length_append, jEnt_length]; omega
  refine ⟨?_, ?_⟩
  · show AVal.tuple [.sl 1 (bC (zs ++ beN 4 (p.length : Int) ++ beN 4 (fnv (jBody p))) ++ List.take p.length (List.drop 0 (bC p))).length 0 (bC (zs ++ beN 4 (p.length : Int) ++ beN 4 (fnv (jBody p))) ++ List.take p.length (List.drop 0 (bC p))).length, .int .i64 0] = _
    rw [el]
  · show [AObj.arr 1 (bC p), AObj.arr 1 (bC (zs ++ beN 4 (p.length : Int) ++ beN 4 (fnv (jBody p))) ++ List.take p.length (List.drop 0 (bC p)))] = _
    rw [e]

set_option maxRecDepth 20000 in
theorem known35_spec {P : Program} (F : F_warehouselaw35_known P) (hR : JRead P F.journal_Read.id) (hR2 : JRead P F.journal_Repair.journal_Read.id) (H : List AObj) :
    ACalls P F.id [] H (fun r H' => r = .bool true ∧ H' = H) := by
  have b2 : Byt (jEnt [] ++ jEnt xy) := byt_app (jEnt_byt byt_nil) (jEnt_byt byt_xy)
  have l1 : (jEnt []).length = 8 := jEnt_length []
  have l2 : (jEnt [] ++ jEnt xy).length = 18 := by rw [List.length_append, jEnt_length, jEnt_length]; rfl
  have a1 : ∀ H, ACalls P F.journal_Append.id [.nil, .nil] H (fun r H' => r = .tuple [.list false 1 (bC (jEnt [])), .int .i64 0] ∧ H' = H) := fun H => by
    have := (jAppend_spec F.journal_Append false false [] [] (by simp) (by simp) H).weakD (args := [.nil, .nil]) (.cons (.nil false 1) (.cons (.nil false 1) .nil))
    rwa [jApp_ok (by simp [jFull])] at this
  have a2 : ∀ e1, ACalls P F.journal_Append.id [.list e1 1 (bC (jEnt [])), .sl 0 2 0 2] [.arr 1 (bC xy)] (fun r H' => r = .tuple [.sl 1 18 0 18, .int .i64 0] ∧ H' = [.arr 1 (bC xy), .arr 1 (bC (jEnt [] ++ jEnt xy))]) := fun e1 => by
    have := jAppend_sl F.journal_Append e1 (jEnt []) xy (fun h => by rw [h] at l1; cases l1) (by simp [jFull, xy, l1]) 2 rfl
    rw [l1] at this
    exact this
  have hp : pays (jEnt [] ++ jEnt xy ++ [0, 0, 0]) = [[], xy] ∧ stop (jEnt [] ++ jEnt xy ++ [0, 0, 0]) = 18 := by
    have h := pays_log [[], xy] [0, 0, 0] (fun p hp => by simp at hp; rcases hp with rfl | rfl <;> simp [xy])
    have e : jLog [[], xy] = jEnt [] ++ jEnt xy := by simp [jLog]
    have n : pays [0, 0, 0] = [] ∧ stop [0, 0, 0] = 0 := by rw [pays, stop, entP_nil (okE_short (by simp))]; exact ⟨rfl, rfl⟩
    rw [e, n.1, n.2, l2] at h
    exact ⟨h.1, h.2⟩
  have hq : stop ((jEnt [] ++ jEnt xy).take 17) = 8 := by
    have h := pays_log [[]] ((jEnt xy).take 9) (fun p hp => by simp at hp; subst hp; simp)
    have e : jLog [[]] ++ (jEnt xy).take 9 = (jEnt [] ++ jEnt xy).take 17 := by
      have : jLog [[]] = jEnt [] := by simp [jLog]
      rw [this, List.take_append, l1, List.take_of_length_le (l := jEnt []) (by omega)]
    rw [← e, h.2, (pays_cut xy (by simp [xy]) 9 (by simp [xy])).2]
    simp [jLog, l1]
  refine ACalls.pure rfl (acalls_of_body F.has ?_)
  (conv => whnf); refine ACalls.use (a1 _) ?_
  (conv => whnf); refine ACalls.mono (a2 _) ?_
  rintro r H1 ⟨rfl, rfl⟩
  conv => whnf
  refine Ghost.none (n := 65) (live := [(1, .list false 1 (bC (jEnt []))), (2, .int .i64 0), (3, .list false 1 (bC (jEnt [] ++ jEnt xy))), (4, .int .i64 0)]) rfl ⟨.closed _ rfl, .closed _ rfl, pubF rfl (by rw [bC_length, l2]) (by rw [bC_length, l2]) (pureEs_bC _), .closed _ rfl, trivial⟩ ?_
  rintro ρ1 ⟨d, rfl⟩
  (conv => whnf); refine And.intro (⟨roomB_le1 (by rw [bC_length]; omega), roomB_le (by rw [bC_length]; omega)⟩) ?_
  try ((conv => whnf); refine recT (Nat.beq_refl _) ?_)
  (conv => whnf); refine And.intro (⟨roomB_le1 (by simp [bC_length, l2]), roomB_le (by simp [bC_length, l2]), rfl, rfl⟩) ?_
  conv => whnf
  have e3 : bC (jEnt [] ++ jEnt xy) ++ [AVal.int .u8 0] :: [AVal.int .u8 0] :: [AVal.int .u8 0] :: List.replicate 0 [AVal.int .u8 0] = bC (jEnt [] ++ jEnt xy ++ [0, 0, 0]) := by rw [bC_append (jEnt [] ++ jEnt xy)]; rfl
  rw [e3]
  have hrd := hR.own (jEnt [] ++ jEnt xy ++ [0, 0, 0]) (bC (jEnt [] ++ jEnt xy ++ [0, 0, 0])).length (bC_length _) (by rw [List.length_append, l2]; simp) (byt_app b2 (fun x hx => by simp at hx; subst hx; simp)) [.arr 1 (bC (jEnt [] ++ jEnt xy ++ [0, 0, 0]))] 0 rfl
  have hpl : payL (jEnt [] ++ jEnt xy ++ [0, 0, 0]) = .list false 1 [[.list false 1 []], [.list false 1 (bC xy)]] := by rw [payL_eq, hp.1]; rfl
  have hst : endP (entP (jEnt [] ++ jEnt xy ++ [0, 0, 0]) 0) = 18 := hp.2
  rw [hpl, hst] at hrd
  (conv => whnf); refine ACalls.use (hrd) ?_
  (conv => whnf); refine And.intro (by decide) ?_
  (conv => whnf); refine ⟨_, bytesOf_bC _, ?_⟩
  (conv => whnf); refine And.intro (⟨by decide, by rw [bC_length, l2]; decide⟩) ?_
  have hsl : List.drop 0 (List.take (17 : Int).toNat (bC (jEnt [] ++ jEnt xy))) = bC ((jEnt [] ++ jEnt xy).take 17) := slice_bC _ 17
  have hrp : ∀ e H, ACalls P F.journal_Repair.id [.list e 1 (bC ((jEnt [] ++ jEnt xy).take 17))] H (fun r H' => r = .list false 1 (bC (jEnt [])) ∧ H' = H) := fun e H => by
    have := jRepair_spec F.journal_Repair hR2 e ((jEnt [] ++ jEnt xy).take 17) (by rw [List.length_take]; omega) (fun x hx => b2 x (List.mem_of_mem_take hx)) H
    rwa [hq, List.take_take, show min 8 17 = 8 by omega, List.take_left' l1] at this
  conv => whnf
  rw [hsl]
  (conv => whnf); refine ACalls.use (hrp _ _) ?_
  conv => whnf
  exact pubB (by rw [bC_length, l1]; rfl)

end Go.AW

namespace Go.AW
variable [Draws]
attribute [local irreducible] ACalls
theorem light_all {l : List (List Int)} (h : light35 (l.map fun p => (false, p)) = true) : l.length ≤ 20 ∧ ∀ p ∈ l, p.length ≤ 300 := by
  simp [light35] at h
  exact ⟨h.1, fun p hp => h.2 p hp⟩

theorem jLog_bound {l : List (List Int)} (h : ∀ p ∈ l, p.length ≤ 300) : (jLog l).length ≤ 308 * l.length := by
  induction l with
  | nil => simp [jLog]
  | cons p l ih =>
    have h1 := ih fun q hq => h q (List.mem_cons_of_mem _ hq)
    have h2 := h p (List.mem_cons_self ..)
    rw [jLog_cons, List.length_append, jEnt_length, List.length_cons]
    omega

theorem jLog_byt {l : List (List Int)} (h : ∀ p ∈ l, Byt p) : Byt (jLog l) := by
  induction l with
  | nil => exact byt_nil
  | cons p l ih =>
    rw [jLog_cons]
    exact byt_app (jEnt_byt (h p (List.mem_cons_self ..))) (ih fun q hq => h q (List.mem_cons_of_mem _ hq))

def LogSt (v : AVal) (H : List AObj) (zs : List Int) : Prop := (v = .nil ∧ H = [] ∧ zs = []) ∨ (v = .sl 0 zs.length 0 zs.length ∧ H = [.arr 1 (bC zs)])

theorem take_snoc {α : Type} {l : List α} {k : Nat} {x : α} (h : l[k]? = some x) : l.take (k + 1) = l.take k ++ [x] := by rw [List.take_add_one, h]; rfl

theorem same35_pL {P : Program} (F : F_warehouselaw35_same P) (e1 e2 : Bool) (a b : List (List Int)) (ha : ∀ p ∈ a, Byt p) (hb : ∀ p ∈ b, Byt p) (hl : a.length ≤ 10000000) (H : List AObj) :
    ACalls P F.id [.list e1 1 (pL a), .list e2 1 (pL b)] H (fun r H' => r = .bool (a == b) ∧ H' = H) := by
  have := same35_spec F e1 e2 (a.map fun p => (false, p)) (b.map fun p => (false, p)) (fun p hp => by obtain ⟨q, hq, rfl⟩ := List.mem_map.1 hp; exact ha q hq) (fun p hp => by obtain ⟨q, hq, rfl⟩ := List.mem_map.1 hp; exact hb q hq) (by simpa using hl) H
  rw [← pL_q, ← pL_q, List.map_map, List.map_map] at this
  simpa [Function.comp_def] using this

end Go.AW

namespace Go.AW
variable [Draws]
attribute [local irreducible] ACalls
def LgSt (v : AVal) (zs : List Int) : Prop := (v = .nil ∧ zs = []) ∨ v = .list false 1 (bC zs)

theorem LgSt.wk {v : AVal} {zs : List Int} (h : LgSt v zs) : WkD v (.list false 1 (bC zs)) := by
  rcases h with ⟨rfl, rfl⟩ | rfl
  · exact .nil _ _
  · exact .refl _

end Go.AW

namespace Go.AW
variable [Draws]
section
variable {P : Program} {C : Nat → Nat} {τ : Nat → Option Loc} {H : List AObj} {w : World}
theorem Rel.slc_sl {id ep off len cap : Nat} {v : Value} (hw : WF C τ H w) (h : Rel C w τ H (.slc id ep off len cap) v) : Rel C w τ H (.sl id ep off len) v := by
  cases h with
  | rd h => cases h
  | slc _ _ _ _ _ a esz es ho hep h =>
    refine .sl _ _ _ _ a cap esz es ho hep fun e => ?_
    obtain ⟨h1, h2, l, h3, h4⟩ := h e
    have := (hw.objs id _ l ho h3).1
    exact ⟨by omega, h2, .inr ⟨l, h3, by omega, h4⟩⟩

inductive SlcW : AVal → AVal → Prop where
  | refl (a : AVal) : SlcW a a
  | slc (id ep off len cap : Nat) : SlcW (.slc id ep off len cap) (.sl id ep off len)

def SlcWs (asv bs : List AVal) : Prop := asv.length = bs.length ∧ ∀ (i : Nat) (a b : AVal), asv[i]? = some a → bs[i]? = some b → SlcW a b

theorem SlcWs.nil : SlcWs [] [] := ⟨rfl, fun i a b h => by simp at h⟩

theorem SlcWs.cons {a b : AVal} {asv bs : List AVal} (h : SlcW a b) (hs : SlcWs asv bs) : SlcWs (a :: asv) (b :: bs) := by
  refine ⟨by simp [hs.1], fun i x y hx hy => ?_⟩
  cases i with
  | zero => simp at hx hy; subst hx hy; exact h
  | succ i => exact hs.2 i x y (by simpa using hx) (by simpa using hy)

theorem ACalls.slc {f : FuncId} {args bs : List AVal} {Q : AVal → List AObj → Prop} (h : ACalls P f bs H Q) (hs : SlcWs args bs) : ACalls P f args H Q := by
  intro C τ w vs hwf hl hr
  refine h C τ w vs hwf (by rw [← hs.1]; exact hl) fun i b v hb hv => ?_
  have hi : i < args.length := by have := (List.getElem?_eq_some_iff.1 hb).1; have := hs.1; omega
  have h1 := hr i args[i] v (List.getElem?_eq_getElem hi) hv
  have h2 := hs.2 i args[i] b (List.getElem?_eq_getElem hi) hb
  generalize args[i] = x at h1 h2
  cases h2 with
  | refl => exact h1
  | slc => exact h1.slc_sl hwf

end
end Go.AW

namespace Go.AW
variable [Draws]
attribute [local irreducible] ACalls
theorem part_len (l : List Int) (rest : List (List AVal)) : (bC l ++ rest).length = l.length + rest.length := by rw [List.length_append, bC_length]

set_option maxRecDepth 20000 in
theorem bClone_part {P : Program} (F : F_bytes_Clone P) (l : List Int) (m : Nat) (rest : List (List AVal)) (hm : m ≤ l.length) (ep : Nat) (hep : ep = l.length + rest.length) (hl : l.length ≤ 90000000) :
    ACalls P F.id [.sl 0 ep 0 m] [.arr 1 (bC l ++ rest)] (fun r H' => (r = .nil ∧ m = 0 ∧ H' = [.arr 1 (bC l ++ rest)]) ∨ (r = .sl 1 m 0 m ∧ H' = [.arr 1 (bC l ++ rest), .arr 1 (bC (l.take m))])) := by
  subst hep
  have ht : List.take m (List.drop 0 (bC l ++ rest)) = bC (l.take m) := by
    rw [List.drop_zero, List.take_append_of_le_length (by rw [bC_length]; exact hm), bC_take]
  have htl : (l.take m).length = m := by rw [List.length_take]; omega
  refine acalls_of_body F.has ?_
  (conv => whnf); refine recT (by rw [part_len]; exact Nat.beq_refl _) ?_
  refine And.intro (fun h => ?_) ?_
  · conv => whnf
    exact .inl ⟨rfl, h, rfl⟩
  · (conv => whnf); refine recT (by rw [part_len]; exact Nat.beq_refl _) ?_
    conv => whnf
    (conv => whnf); refine And.intro (⟨roomB_le1 (by simp; omega), roomB_le (by simp; omega), .inr rfl⟩) ?_
    conv => whnf
    rw [ht]
    have el : (List.replicate 0 [AVal.int IntKind.u8 0] ++ bC (List.take m l)).length = m := by
      show (bC (List.take m l)).length = m
      rw [bC_length, htl]
    exact .inr ⟨slEq el el, rfl⟩

theorem jput4_owO {P : Program} (F : F_journal_put4 P) (o : AObj) (l : List Int) (k : Nat) (n : Int) (hk : k = l.length) (h0 : 0 ≤ n) (h1 : n < 4294967296) (hl : l.length ≤ 90000000) :
    ACalls P F.id [.sl 1 k 0 k, .int .u32 n] [o, .arr 1 (bC l)] (fun r H' => r = .sl 1 (k + 4) 0 (k + 4) ∧ H' = [o, .arr 1 (bC (l ++ beN 4 n))]) := by
  subst hk
  exact jput4_own F _ 1 l n h0 h1 rfl hl

theorem jput4_nilO {P : Program} (F : F_journal_put4 P) (o : AObj) (n : Int) :
    ACalls P F.id [.nil, .int .u32 n] [o] (fun r H' => r = .sl 1 4 0 4 ∧ H' = [o, .arr 1 (bC (beN 4 n))]) := by
  refine (jput4_nil F n).lift rfl ?_
  rintro r H1 ⟨rfl, rfl⟩
  exact ⟨[0], .sl 1 4 0 4, [.arr 1 (bC (beN 4 n))], .keep 0 _ _ _ 0 rfl, by simp, rfl, fun k id h => by
      rcases k with _ | k
      · cases h; exact ⟨rfl, 1, _, rfl, pureEs_bC _⟩
      · simp at h, rfl, rfl⟩

set_option maxRecDepth 20000 in
theorem jAppend_pr {P : Program} (F : F_journal_Append P) (zs p : List Int) (rest : List (List AVal)) (ep : Nat) (hep : ep = zs.length + rest.length) (e2 : Bool) (n : Nat) (hn : n = zs.length) (hf : jFull zs p = false) :
    ACalls P F.id [.sl 0 ep 0 n, .list e2 1 (bC p)] [.arr 1 (bC zs ++ rest)] (fun r H' => r = .tuple [.sl 1 (zs.length + 8 + p.length) 0 (zs.length + 8 + p.length), .int .i64 0] ∧ H' = [.arr 1 (bC zs ++ rest), .arr 1 (bC (zs ++ jEnt p))]) := by
  subst hep hn
  simp [jFull] at hf
  have w1 : IntKind.i64.wrap ((zs.length : Int) + 8) = (zs.length : Int) + 8 := wrapI _ (by omega) (by omega)
  have w2 : IntKind.i64.wrap ((zs.length : Int) + 8 + ((bC p).length : Int)) = (zs.length : Int) + 8 + p.length := by rw [bC_length]; exact wrapI _ (by omega) (by omega)
  have e3 : IntKind.u32.wrap ((bC p).length : Int) = p.length := by rw [bC_length]; exact u32_small (by omega)
  refine acalls_of_body F.has ?_
  (conv => whnf); refine recF (by rw [bC_length]; exact decide_eq_false (by omega)) ?_
  (conv => whnf); refine recT (by rw [part_len]; exact Nat.beq_refl _) ?_
  conv => whnf
  rw [w1]
  conv => whnf
  rw [w2]
  (conv => whnf); refine recF (by simp; omega) ?_
  (conv => whnf); refine ACalls.mono (bClone_part F.bytes_Clone zs zs.length rest (Nat.le_refl _) _ rfl (by omega)) ?_
  rintro r H1 (⟨rfl, h3, rfl⟩ | ⟨rfl, rfl⟩)
  · have h3 : zs = [] := List.eq_nil_of_length_eq_zero h3
    subst h3
    conv => whnf
    rw [e3]
    (conv => whnf); refine ACalls.mono (jput4_nilO F.journal_put4 _ p.length) ?_
    rintro r H1 ⟨rfl, rfl⟩
    conv => whnf
    (conv => whnf); refine ACalls.use (jsum_spec F.journal_sum e2 p (by omega) _) ?_
    (conv => whnf); refine ACalls.mono (jput4_owO F.journal_put4 _ (([]:List Int) ++ beN 4 (p.length : Int)) _ (fnv (jBody p)) (by simp [beN_length]) (fnv_bound _).1 (fnv_bound _).2 (by rw [List.length_append, beN_length]; omega)) ?_
    rintro r H1 ⟨rfl, rfl⟩
    try ((conv => whnf); refine recT (by rw [bC_length]; simp [beN_length]) ?_)
    (conv => whnf); refine And.intro (⟨roomB_le1 (by simp [bC_length, beN_length]; omega), roomB_le (by simp [bC_length, beN_length]; omega), rfl, by simp [bC_length, beN_length]⟩) ?_
    conv => whnf
    have e : bC (([]:List Int) ++ beN 4 (p.length : Int) ++ beN 4 (fnv (jBody p))) ++ bC p = bC (([]:List Int) ++ jEnt p) := by
      rw [← bC_append, jEnt]
      simp only [List.append_assoc]
    have el : (bC (([]:List Int) ++ beN 4 (p.length : Int) ++ beN 4 (fnv (jBody p))) ++ bC p).length = ([]:List Int).length + 8 + p.length := by
      rw [e, bC_length, List.length_append, jEnt_length]; omega
    refine ⟨?_, ?_⟩
    · show AVal.tuple [.sl 1 (bC (([]:List Int) ++ beN 4 (p.length : Int) ++ beN 4 (fnv (jBody p))) ++ bC p).length 0 (bC (([]:List Int) ++ beN 4 (p.length : Int) ++ beN 4 (fnv (jBody p))) ++ bC p).length, .int .i64 0] = _
      rw [el]
    · show [_, AObj.arr 1 (bC (([]:List Int) ++ beN 4 (p.length : Int) ++ beN 4 (fnv (jBody p))) ++ bC p)] = _
      rw [e]
  · rw [List.take_length]
    conv => whnf
    rw [e3]
    (conv => whnf); refine ACalls.mono (jput4_owO F.journal_put4 _ zs _ p.length rfl (by omega) (by omega) (by omega)) ?_
    rintro r H1 ⟨rfl, rfl⟩
    conv => whnf
    (conv => whnf); refine ACalls.use (jsum_spec F.journal_sum e2 p (by omega) _) ?_
    (conv => whnf); refine ACalls.mono (jput4_owO F.journal_put4 _ (zs ++ beN 4 (p.length : Int)) _ (fnv (jBody p)) (by simp [beN_length]) (fnv_bound _).1 (fnv_bound _).2 (by rw [List.length_append, beN_length]; omega)) ?_
    rintro r H1 ⟨rfl, rfl⟩
    try ((conv => whnf); refine recT (by rw [bC_length]; simp [beN_length]) ?_)
    (conv => whnf); refine And.intro (⟨roomB_le1 (by simp [bC_length, beN_length]; omega), roomB_le (by simp [bC_length, beN_length]; omega), rfl, by simp [bC_length, beN_length]⟩) ?_
    conv => whnf
    have e : bC (zs ++ beN 4 (p.length : Int) ++ beN 4 (fnv (jBody p))) ++ bC p = bC (zs ++ jEnt p) := by
      rw [← bC_append, jEnt]
      simp only [List.append_assoc]
    have el : (bC (zs ++ beN 4 (p.length : Int) ++ beN 4 (fnv (jBody p))) ++ bC p).length = zs.length + 8 + p.length := by
      rw [e, bC_length, List.length_append, jEnt_length]; omega
    refine ⟨?_, ?_⟩
    · show AVal.tuple [.sl 1 (bC (zs ++ beN 4 (p.length : Int) ++ beN 4 (fnv (jBody p))) ++ bC p).length 0 (bC (zs ++ beN 4 (p.length : Int) ++ beN 4 (fnv (jBody p))) ++ bC p).length, .int .i64 0] = _
      rw [el]
    · show [_, AObj.arr 1 (bC (zs ++ beN 4 (p.length : Int) ++ beN 4 (fnv (jBody p))) ++ bC p)] = _
      rw [e]

theorem part_clean (zs : List Int) (q : Nat) : pureEs (bC zs ++ bC (List.replicate q 0)) = true := by rw [← bC_append]; exact pureEs_bC _

theorem jAppend_part {P : Program} (F : F_journal_Append P) (zs p : List Int) (q ep : Nat) (hep : ep = zs.length + q) (e2 : Bool) (n : Nat) (hn : n = zs.length) (hf : jFull zs p = false) :
    ACalls P F.id [.sl 0 ep 0 n, .list e2 1 (bC p)] [.arr 1 (bC zs ++ bC (List.replicate q 0))] (fun r H' => r = .tuple [.list false 1 (bC (zs ++ jEnt p)), .int .i64 0] ∧ H' = [.arr 1 (bC zs ++ bC (List.replicate q 0))]) := by
  have hl : (bC (zs ++ jEnt p)).length = zs.length + 8 + p.length := by rw [bC_length, List.length_append, jEnt_length]; omega
  refine (jAppend_pr F zs p (bC (List.replicate q 0)) ep (by rw [hep, bC_length, List.length_replicate]) e2 n hn hf).gpI [0] (by simp) (keepB_one rfl rfl rfl) ⟨⟨_, rfl, .same _ _ (part_clean _ _)⟩, trivial⟩ ?_
  refine .tuple _ _ rfl fun i v r hv hr => ?_
  rcases i with _ | _ | i
  · cases hv; cases hr
    exact pubFI (by simp) rfl hl.symm hl.symm (pureEs_bC _)
  · cases hv; cases hr; exact .closed _ rfl
  · simp at hv

theorem bClone_pp {P : Program} (F : F_bytes_Clone P) (zs : List Int) (m q : Nat) (hm : m ≤ zs.length) (ep : Nat) (hep : ep = zs.length + q) (hl : zs.length ≤ 90000000) :
    ACalls P F.id [.sl 0 ep 0 m] [.arr 1 (bC zs ++ bC (List.replicate q 0))] (fun r H' => r = .list false 1 (bC (zs.take m)) ∧ H' = [.arr 1 (bC zs ++ bC (List.replicate q 0))]) := by
  have htl : (bC (zs.take m)).length = m := by rw [bC_length, List.length_take]; omega
  refine ACalls.weakR (Q := fun r H' => (r = .list false 1 (bC (zs.take m)) ∨ (r = .nil ∧ m = 0)) ∧ H' = [.arr 1 (bC zs ++ bC (List.replicate q 0))]) ((bClone_part F zs m (bC (List.replicate q 0)) hm ep (by rw [hep, bC_length, List.length_replicate]) hl).gp ?_) ?_
  · rintro r H1 (⟨rfl, h1, rfl⟩ | ⟨rfl, rfl⟩)
    · refine Gp.res (r' := .nil) (H1 := [.arr 1 (bC zs ++ bC (List.replicate q 0))]) [0] (by simp) (keepB_one rfl rfl rfl) ⟨⟨_, rfl, .same _ _ (part_clean _ _)⟩, trivial⟩ (.closed _ rfl) ?_
      exact ⟨_, rfl, .inr ⟨rfl, h1⟩, rfl⟩
    · refine Gp.res (r' := .list false 1 (bC (zs.take m))) (H1 := [.arr 1 (bC zs ++ bC (List.replicate q 0))]) [0] (by simp) (keepB_one rfl rfl rfl) ⟨⟨_, rfl, .same _ _ (part_clean _ _)⟩, trivial⟩ (pubFI (by simp) rfl htl.symm htl.symm (pureEs_bC _)) ?_
      exact ⟨_, rfl, .inl rfl, rfl⟩
  · rintro r H' ⟨rfl | ⟨rfl, h0⟩, rfl⟩
    · exact ⟨_, .refl _, rfl, rfl⟩
    · refine ⟨_, .nil false 1, ?_, rfl⟩
      subst h0; rfl

set_option maxRecDepth 20000 in
theorem jRepair_part {P : Program} (F : F_journal_Repair P) (hR : JRead P F.journal_Read.id) (zs : List Int) (q ep : Nat) (hep : ep = zs.length + q) (n : Nat) (hn : n = zs.length) (hz : zs.length ≤ 7000000) (hb : Byt zs) :
    ACalls P F.id [.sl 0 ep 0 n] [.arr 1 (bC zs ++ bC (List.replicate q 0))] (fun r H' => r = .list false 1 (bC (zs.take (stop zs))) ∧ H' = [.arr 1 (bC zs ++ bC (List.replicate q 0))]) := by
  have hs := stop_le zs
  subst hn
  have hep2 : ep = (bC zs ++ bC (List.replicate q 0)).length := by rw [part_len, bC_length, List.length_replicate, hep]
  refine acalls_of_body F.has ?_
  (conv => whnf); refine ACalls.use (hR.part zs (bC (List.replicate q 0)) ep zs.length (by rw [hep, bC_length, List.length_replicate]) rfl (by omega) hb _ 0 rfl) ?_
  (conv => whnf); refine recT (by rw [← hep2]; exact Nat.beq_refl _) ?_
  (conv => whnf); refine And.intro (⟨by omega, by show ((stop zs : Nat) : Int) ≤ _; omega⟩) ?_
  conv => whnf
  (conv => whnf); refine ACalls.use (bClone_pp F.bytes_Clone zs (stop zs) q hs ep hep (by omega)) ?_
  conv => whnf
  exact ⟨rfl, rfl⟩

end Go.AW

namespace Go.AW
variable [Draws]
attribute [local irreducible] ACalls
theorem obSame {H : List AObj} {ids : List Nat} {sz : Nat} {es es1 : List (List AVal)} (h : es = es1) (hp : pureEs es1 = true) : ObP H ids (.arr sz es) (.arr sz es1) := by
  subst h; exact .same _ _ hp

theorem pubC {H : List AObj} {ids : List Nat} {id k ep ep' len len' cap cap' : Nat} (hk : ids[k]? = some id) (e1 : ep = ep') (e2 : len = len') (e3 : cap = cap') : Pub H 0 ids (.slc id ep 0 len cap) (.slc k ep' 0 len' cap') := by
  subst e1 e2 e3
  have := Pub.keepC (H1 := H) (n := 0) (ids := ids) id ep 0 len cap k hk
  rwa [Nat.zero_add] at this

theorem slcEq {id ep off off' len len' cap cap' : Nat} (h1 : off = off') (h2 : len = len') (h3 : cap = cap') : AVal.slc id ep off len cap = .slc id ep off' len' cap' := by subst h1 h2 h3; rfl

theorem drop_rep (n k : Nat) : List.drop n (List.replicate (n + k) [AVal.int .u8 0]) = bC (List.replicate k 0) := by
  rw [List.drop_replicate, show n + k - n = k by omega, bC, List.map_replicate]

theorem pubFB {H : List AObj} {ids : List Nat} {n id ep len : Nat} {es : List (List AVal)} {z : List Int} (hid : id ∉ ids) (ho : H[id]? = some (.arr 1 es)) (he : es = bC z) (h1 : ep = es.length) (h2 : len = es.length) : Pub H n ids (.sl id ep 0 len) (.list false 1 (bC z)) := by
  subst he
  exact pubFI hid ho h1 h2 (pureEs_bC z)

set_option maxRecDepth 20000 in
theorem law_JournalOwns {P : Program} (F : F_warehouselaw35_JournalOwns P) (hR : JRead P F.warehouselaw35_known.journal_Read.id) (hR2 : JRead P F.warehouselaw35_known.journal_Repair.journal_Read.id) (hR3 : JRead P F.journal_Read.id) (hR4 : JRead P F.journal_Repair.journal_Read.id)
    (l : List (List Int)) (p : List Int) (n : Int) (_ : l.length ≤ maxLen) (hw2 : ∀ p ∈ l, p.length ≤ maxLen ∧ ∀ x ∈ p, (Lit.int .u8 x).wf = true) (_ : p.length ≤ maxLen) (hw3 : ∀ x ∈ p, (Lit.int .u8 x).wf = true) (hn : (Lit.int .i64 n).wf = true) :
    ACalls P F.id [.list false 1 (pL l), .list false 1 (bC p), .int .i64 n] [] (fun r _ => r = .bool true) := by
  have hl : ∀ p ∈ l, Byt p := fun p hp x hx => bounds_u8 ((hw2 p hp).2 x hx)
  have hm : Byt p := fun x hx => bounds_u8 (hw3 x hx)
  have fin : ∀ H, ACalls P F.warehouselaw35_known.id [] H (fun r H' => r = .bool true ∧ H' = H) := known35_spec F.warehouselaw35_known hR hR2
  have lig : ∀ H, ACalls P F.warehouselaw35_light.id [.list false 1 (pL l)] H (fun r H' => r = .bool (light35 (l.map fun p => (false, p))) ∧ H' = H) := fun H => by
    rw [pL_q]; exact light35_spec F.warehouselaw35_light false _ H
  refine acalls_of_body F.has ?_
  (conv => whnf); refine ACalls.use (lig _) ?_
  (conv => whnf); refine recA (fun h2 => ?_) (fun h2 => ?_)
  · (conv => whnf); refine ACalls.use (fin _) ?_
    conv => whnf
  simp at h2
  obtain ⟨l20, l300⟩ := light_all h2
  (conv => whnf); refine recA (fun h3 => ?_) (fun h3 => ?_)
  · (conv => whnf); refine ACalls.use (fin _) ?_
    conv => whnf
  rw [bC_length] at h3
  simp at h3
  have lb := jLog_bound l300
  have lby := jLog_byt hl
  have mx : ∀ k, k ≤ 20 → 308 * k ≤ 6160 := fun k h => by omega
  have lb2 : (jLog l).length ≤ 6160 := by omega
  conv => whnf
  refine ⟨fun m ρ H1 => ∃ (k : Nat) (v7 : AVal), k + m = l.length ∧ LogSt v7 H1 (jLog (l.take k)) ∧
    Sv 136 [(0, .list false 1 (pL l)), (1, .list false 1 (bC p)), (2, .int .i64 n), (7, v7), (32, .int .i64 l.length), (33, .int .i64 k)] ρ, l.length, [], ?_, ?_⟩
  · exact ⟨0, .nil, by omega, .inl ⟨rfl, rfl, rfl⟩, Sv.intro rfl ⟨rfl, rfl, rfl, rfl, intEq (by rw [pL_length]), rfl, trivial⟩⟩
  rintro m ρ H1 ⟨k, v7, hk, hst, d, rfl⟩
  (conv => whnf); refine recA (fun hlt => ?_) (fun hlt => ?_)
  · simp at hlt
    obtain ⟨q, hq⟩ : ∃ q, l[k]? = some q := ⟨_, List.getElem?_eq_getElem hlt⟩
    have hqm := List.mem_of_getElem? hq
    have hq3 := l300 q hqm
    have hlb := jLog_bound (l := l.take k) fun q hq => l300 q (List.mem_of_mem_take hq)
    rw [List.length_take] at hlb
    have hnx : jLog (l.take (k + 1)) = jLog (l.take k) ++ jEnt q := by rw [take_snoc hq, jLog_snoc]
    (conv => whnf); refine And.intro (by omega) ?_
    (conv => whnf); refine recO (pL_get hq) ?_
    (conv => whnf); refine ACalls.use (ref35_Entry_spec F.warehouseref35_Entry false q (by omega) (hl q hqm) _) ?_
    rcases hst with ⟨rfl, rfl, h0⟩ | ⟨rfl, rfl⟩
    · (conv => whnf); refine And.intro (⟨roomB_le1 (by simp [bC_length, jEnt_length]; omega), roomB_le (by simp [bC_length, jEnt_length]; omega)⟩) ?_
      conv => whnf
      refine ⟨m - 1, by omega, Gp.keep rfl ?_ fun ρ1 h => ⟨k + 1, .sl 0 (jLog (l.take (k + 1))).length 0 (jLog (l.take (k + 1))).length, by omega, .inr ⟨rfl, ?_⟩, h⟩⟩
      · exact ⟨rfl, rfl, rfl, slEq (by rw [hnx, h0, bC_length]; rfl) (by rw [hnx, h0, bC_length]; rfl), rfl, intEq (wrapI _ (by omega) (by omega)), trivial⟩
      · rw [hnx, h0]; rfl
    · (conv => whnf); refine recT (by rw [bC_length]; exact Nat.beq_refl _) ?_
      (conv => whnf); refine And.intro (⟨roomB_le1 (by simp [bC_length, jEnt_length]; omega), roomB_le (by simp [bC_length, jEnt_length]; omega), rfl, by rw [bC_length]⟩) ?_
      conv => whnf
      have e : bC (jLog (l.take (k + 1))) = bC (jLog (l.take k)) ++ bC (jEnt q) := by rw [hnx, bC_append]
      refine ⟨m - 1, by omega, Gp.keep rfl ?_ fun ρ1 h => ⟨k + 1, .sl 0 (jLog (l.take (k + 1))).length 0 (jLog (l.take (k + 1))).length, by omega, .inr ⟨rfl, ?_⟩, h⟩⟩
      · exact ⟨rfl, rfl, rfl, slEq (by rw [← e, bC_length]) (by rw [← e, bC_length]), rfl, intEq (wrapI _ (by omega) (by omega)), trivial⟩
      · rw [e]
  simp at hlt
  rw [List.take_of_length_le (by omega)] at hst
  obtain ⟨zs, hzs⟩ : ∃ zs, zs = jLog l := ⟨_, rfl⟩
  rw [← hzs] at hst lb lb2 lby
  have w4 : IntKind.i64.wrap ((zs.length : Int) + 400) = ((zs.length + 400 : Nat) : Int) := by rw [wrapI _ (by omega) (by omega)]; omega
  have hp := pays_log l [] (fun p hp => by have := l300 p hp; omega)
  rw [List.append_nil, pays_nil.1, pays_nil.2, List.append_nil, Nat.add_zero] at hp
  have rdp : ∀ (z : List Int), z = jLog l → ∀ (H : List AObj) (id : Nat), H[id]? = some (.arr 1 (bC z ++ bC (List.replicate 400 0))) →
      ACalls P F.journal_Read.id [.sl id (z.length + 400) 0 z.length] H (fun r H' => r = .tuple [.list false 1 (pL l), .int .i64 z.length] ∧ H' = H) := fun z hz H id ho => by
    have := hR3.part z (bC (List.replicate 400 0)) (z.length + 400) z.length (by rw [bC_length, List.length_replicate]) rfl (by rw [hz, ← hzs]; exact Nat.le_trans lb2 (by decide)) (by rw [hz, ← hzs]; exact lby) H id ho
    rw [payL_eq] at this
    have e : endP (entP z 0) = z.length := by rw [hz]; exact hp.2
    rw [e, hz, hp.1, ← hz] at this
    exact this
  have rpp : ∀ (z : List Int), z = jLog l →
      ACalls P F.journal_Repair.id [.sl 0 (z.length + 400) 0 z.length] [.arr 1 (bC z ++ bC (List.replicate 400 0))] (fun r H' => r = .list false 1 (bC z) ∧ H' = [.arr 1 (bC z ++ bC (List.replicate 400 0))]) := fun z hz => by
    have := jRepair_part F.journal_Repair hR4 z 400 (z.length + 400) rfl z.length rfl (by rw [hz, ← hzs]; exact Nat.le_trans lb2 (by decide)) (by rw [hz, ← hzs]; exact lby)
    have e : stop z = z.length := by rw [hz]; exact hp.2
    rw [e, List.take_length] at this
    exact this
  obtain ⟨c, hc0, hc⟩ : ∃ c : Nat, c ≤ 4 ∧ IntKind.i64.wrap (65534 + n % 5) = ((65534 + c : Nat) : Int) := by
    have h1 := Int.emod_nonneg n (show (5 : Int) ≠ 0 by omega)
    have h2 := Int.emod_lt_of_pos n (show (0 : Int) < 5 by omega)
    exact ⟨(n % 5).toNat, by omega, by rw [wrapI _ (by omega) (by omega)]; omega⟩
  have hbig : (c ≤ 2 ∧ ∀ H, ACalls P F.journal_Append.id [.nil, .list false 1 (bC (List.replicate (65534 + c) 0))] H (fun r H' => r = .tuple [.list false 1 (bC ([] ++ jEnt (List.replicate (65534 + c) 0))), .int .i64 0] ∧ H' = H)) ∨
      (2 < c ∧ ∀ H, ACalls P F.journal_Append.id [.nil, .list false 1 (bC (List.replicate (65534 + c) 0))] H (fun r H' => r = .tuple [.nil, .int .i64 2] ∧ H' = H)) := by
    have key := fun H => (jAppend_spec F.journal_Append false false [] (List.replicate (65534 + c) 0) (by simp) (by rw [List.length_replicate]; omega) H).weakD (args := [.nil, .list false 1 (bC (List.replicate (65534 + c) 0))]) (.cons (.nil false 1) (.cons (.refl _) .nil))
    by_cases h : c ≤ 2
    · refine .inl ⟨h, fun H => ?_⟩
      have := key H
      rwa [jApp_ok (by simp only [jFull, List.length_replicate, List.length_nil, Bool.or_eq_false_iff, decide_eq_false_iff_not]; omega)] at this
    · refine .inr ⟨by omega, fun H => ?_⟩
      have := key H
      rwa [jApp_full (by simp only [jFull, List.length_replicate, List.length_nil, Bool.or_eq_true, decide_eq_true_eq]; omega)] at this
  have sb1 : ∀ H, ACalls P F.warehouseworld_SameBytes.id [.list false 1 (bC (zs ++ jEnt p)), .list false 1 (bC (zs ++ jEnt p))] H (fun r H' => r = .bool true ∧ H' = H) := fun H => by
    have hb := byt_app lby (jEnt_byt hm)
    have := SameBytes_spec F.warehouseworld_SameBytes false false (zs ++ jEnt p) (zs ++ jEnt p) hb hb H
    rwa [beq_self_eq_true] at this
  have sm1 : ∀ H, ACalls P F.warehouselaw35_same.id [.list false 1 (pL l), .list false 1 (pL l)] H (fun r H' => r = .bool true ∧ H' = H) := fun H => by
    have := same35_pL F.warehouselaw35_same false false l l hl hl (by omega) H
    rwa [beq_self_eq_true] at this
  have sb2 : ∀ v, LgSt v zs → ∀ H, ACalls P F.warehouseworld_SameBytes.id [.list false 1 (bC zs), v] H (fun r H' => r = .bool true ∧ H' = H) := fun v hv H => by
    have := (SameBytes_spec F.warehouseworld_SameBytes false false zs zs lby lby H).weakD (args := [.list false 1 (bC zs), v]) (.cons (.refl _) (.cons hv.wk .nil))
    rwa [beq_self_eq_true] at this
  rcases hst with ⟨rfl, rfl, h0⟩ | ⟨rfl, rfl⟩
  · have w5 : IntKind.i64.wrap (0 + 400) = ((400 : Nat) : Int) := by rw [wrapI _ (by omega) (by omega)]; rfl
    conv => whnf
    rw [w5]
    (conv => whnf); refine And.intro (⟨by omega, by omega, by rw [roomB_val]; omega, by rw [roomB_val]; omega⟩) ?_
    (conv => whnf); refine And.intro (⟨rfl, rfl, Nat.zero_le _⟩) ?_
    conv => whnf
    refine Ghost.some (n := 136) (H1 := [.arr 1 (bC zs ++ bC (List.replicate 400 0))]) (live := [(0, .list false 1 (pL l)), (1, .list false 1 (bC p)), (2, .int .i64 n), (7, .nil), (9, .slc 0 (zs.length + 400) 0 zs.length (zs.length + 400))]) [0] (by simp) ⟨⟨_, rfl, obSame (by rw [h0]; exact drop_rep 0 400) (part_clean zs 400)⟩, trivial⟩ rfl ⟨.closed _ rfl, .closed _ rfl, .closed _ rfl, .closed _ rfl, pubC rfl (by rw [h0]; rfl) (by rw [h0]; rfl) (by rw [h0]; rfl), trivial⟩ ?_
    rintro ρ1 ⟨d, rfl⟩
    (conv => whnf); refine ACalls.use (ACalls.slc (jAppend_part F.journal_Append zs p 400 _ rfl false _ rfl (by simp [jFull]; omega)) (.cons (.slc ..) (.cons (.refl _) .nil))) ?_
    (conv => whnf); refine And.intro (⟨roomB_le1 (by simp [bC_length] <;> omega), roomB_le (by simp [bC_length] <;> omega)⟩) ?_
    (conv => whnf); refine ACalls.use (ref35_Entry_spec F.warehouseref35_Entry false p (by omega) hm _) ?_
    try ((conv => whnf); refine recT (by rw [bC_length]; exact Nat.beq_refl _) ?_)
    (conv => whnf); refine And.intro (⟨roomB_le1 (by simp [bC_length, jEnt_length]; omega), roomB_le (by simp [bC_length, jEnt_length]; omega), rfl, by simp⟩) ?_
    conv => whnf
    refine Ghost.some (n := 136) (H1 := [.arr 1 (bC zs ++ bC (List.replicate 400 0))]) (live := [(0, .list false 1 (pL l)), (2, .int .i64 n), (7, .nil), (9, .slc 0 (zs.length + 400) 0 zs.length (zs.length + 400)), (10, .list false 1 (bC (zs ++ jEnt p))), (11, .int .i64 0), (12, .list false 1 (bC (zs ++ jEnt p)))]) [0] (by simp) ⟨⟨_, rfl, .same _ _ (part_clean zs 400)⟩, trivial⟩ rfl ⟨.closed _ rfl, .closed _ rfl, .closed _ rfl, pubC rfl rfl rfl rfl, .closed _ rfl, .closed _ rfl, pubFB (by simp) rfl (by first | exact (bC_append _ _).symm | (rw [h0]; rfl)) rfl rfl, trivial⟩ ?_
    rintro ρ1 ⟨d, rfl⟩
    (conv => whnf); refine ACalls.use (ACalls.slc (rdp zs hzs _ 0 rfl) (.cons (.slc ..) .nil)) ?_
    (conv => whnf); refine ACalls.use (ACalls.slc (rpp zs hzs) (.cons (.slc ..) .nil)) ?_
    conv => whnf
    refine ⟨fun m ρ H1 => ∃ (k : Nat) (es : List Int), k + m = zs.length ∧ es.length = zs.length + 400 ∧ es.drop zs.length = List.replicate 400 0 ∧ H1 = [.arr 1 (bC es)] ∧
      Sv 136 [(0, .list false 1 (pL l)), (2, .int .i64 n), (7, .nil), (9, .slc 0 (zs.length + 400) 0 zs.length (zs.length + 400)), (10, .list false 1 (bC (zs ++ jEnt p))), (11, .int .i64 0), (12, .list false 1 (bC (zs ++ jEnt p))), (13, .list false 1 (pL l)), (15, .list false 1 (bC zs)), (69, .int .i64 zs.length), (70, .int .i64 k)] ρ, zs.length, [], ?_, ?_⟩
    · exact ⟨0, zs ++ List.replicate 400 0, by omega, by rw [List.length_append, List.length_replicate], by rw [List.drop_left], by rw [bC_append], Sv.intro rfl ⟨rfl, rfl, rfl, rfl, rfl, rfl, rfl, rfl, rfl, rfl, rfl, trivial⟩⟩
    rintro m2 ρ H1 ⟨k2, es, hk2, hes, hed, rfl, d2, rfl⟩
    (conv => whnf); refine recA (fun hlt2 => ?_) (fun hlt2 => ?_)
    · simp at hlt2
      (conv => whnf); refine recT (by rw [bC_length, hes]; exact Nat.beq_refl _) ?_
      (conv => whnf); refine And.intro (⟨by omega, by omega⟩) ?_
      (conv => whnf); refine recT (by rw [bC_length, hes]; exact Nat.beq_refl _) ?_
      have hg : ∃ x, es[0 + (k2 : Int).toNat]? = some x := ⟨_, List.getElem?_eq_getElem (by omega)⟩
      obtain ⟨x0, hg⟩ := hg
      (conv => whnf); refine recO (bC_get hg) ?_
      conv => whnf
      refine ⟨m2 - 1, by omega, Gp.keep rfl ?_ fun ρ1 h => ⟨k2 + 1, es.set (0 + (k2 : Int).toNat) 7, by omega, by rw [List.length_set]; exact hes, by rw [List.drop_set_of_lt (by omega)]; exact hed, by rw [← setEs_bC], h⟩⟩
      exact ⟨rfl, rfl, rfl, rfl, rfl, rfl, rfl, rfl, rfl, rfl, intEq (wrapI _ (by omega) (by omega)), trivial⟩
    simp at hlt2
    (conv => whnf); refine recT (by rw [bC_length, hes]; exact Nat.beq_refl _) ?_
    (conv => whnf); refine And.intro (⟨by omega, by omega, by omega⟩) ?_
    conv => whnf
    have e4 : ((((zs.length + 400 : Nat) : Int)).toNat - ((zs.length : Nat) : Int).toNat : Nat) = 400 := by omega
    refine ⟨fun m ρ H1 => ∃ (k : Nat), k + m = 400 ∧ H1 = [.arr 1 (bC es)] ∧
      Sv 136 [(0, .list false 1 (pL l)), (2, .int .i64 n), (7, .nil), (10, .list false 1 (bC (zs ++ jEnt p))), (11, .int .i64 0), (12, .list false 1 (bC (zs ++ jEnt p))), (13, .list false 1 (pL l)), (15, .list false 1 (bC zs)), (82, .slc 0 (zs.length + 400) zs.length 400 400), (83, .int .i64 400), (84, .int .i64 k)] ρ, 400, [], ?_, ?_⟩
    · exact ⟨0, by omega, rfl, Sv.intro rfl ⟨rfl, rfl, rfl, rfl, rfl, rfl, rfl, rfl, slcEq (by omega) e4 (by omega), intEq (by rw [e4]; rfl), rfl, trivial⟩⟩
    rintro m3 ρ H1 ⟨k3, hk3, rfl, d3, rfl⟩
    (conv => whnf); refine recA (fun hlt3 => ?_) (fun hlt3 => ?_)
    · simp at hlt3
      (conv => whnf); refine recT (by rw [bC_length, hes]; exact Nat.beq_refl _) ?_
      (conv => whnf); refine And.intro (⟨by omega, by omega⟩) ?_
      (conv => whnf); refine recT (by rw [bC_length, hes]; exact Nat.beq_refl _) ?_
      have hg : es[zs.length + (k3 : Int).toNat]? = some 0 := by
        rw [← List.getElem?_drop, hed, List.getElem?_replicate, if_pos (by omega)]
      (conv => whnf); refine recO (bC_get hg) ?_
      conv => whnf
      refine ⟨m3 - 1, by omega, Gp.keep rfl ?_ fun ρ1 h => ⟨k3 + 1, by omega, rfl, h⟩⟩
      exact ⟨rfl, rfl, rfl, rfl, rfl, rfl, rfl, rfl, rfl, rfl, intEq (wrapI _ (by omega) (by omega)), trivial⟩
    simp at hlt3
    (conv => whnf); refine ACalls.use (Place_spec F.warehouseworld_Place n 5 (by omega) (by omega) _) ?_
    conv => whnf
    rw [hc]
    (conv => whnf); refine And.intro (⟨by omega, by omega, by rw [roomB_val]; omega, by rw [roomB_val]; omega⟩) ?_
    conv => whnf
    refine Ghost.none (n := 136) (live := [(0, .list false 1 (pL l)), (7, .nil), (10, .list false 1 (bC (zs ++ jEnt p))), (11, .int .i64 0), (12, .list false 1 (bC (zs ++ jEnt p))), (13, .list false 1 (pL l)), (15, .list false 1 (bC zs)), (19, .list false 1 (bC (List.replicate (65534 + c) 0)))]) rfl ⟨.closed _ rfl, .closed _ rfl, .closed _ rfl, .closed _ rfl, .closed _ rfl, .closed _ rfl, .closed _ rfl, pubFB (by simp) rfl (by rw [Int.toNat_natCast, bC, List.map_replicate]) (by rw [List.length_replicate]) (by rw [List.length_replicate]), trivial⟩ ?_
    rintro ρ1 ⟨d4, rfl⟩
    rcases hbig with ⟨hc1, hb⟩ | ⟨hc1, hb⟩
    · (conv => whnf); refine ACalls.use (hb _) ?_
      (conv => whnf); refine ACalls.use (sb1 _) ?_
      (conv => whnf); refine ACalls.use (sm1 _) ?_
      (conv => whnf); refine ACalls.use (sb2 _ (.inl ⟨rfl,h0⟩) _) ?_
      repeat ((conv => whnf); refine recT (by rw [bC_length, List.length_replicate]; simp <;> omega) ?_)
      (conv => whnf); refine ACalls.use (fin _) ?_
      repeat ((conv => whnf); refine recT (by rw [bC_length, List.length_replicate]; simp <;> omega) ?_)
      conv => whnf
    · (conv => whnf); refine ACalls.use (hb _) ?_
      (conv => whnf); refine ACalls.use (sb1 _) ?_
      (conv => whnf); refine ACalls.use (sm1 _) ?_
      (conv => whnf); refine ACalls.use (sb2 _ (.inl ⟨rfl,h0⟩) _) ?_
      repeat ((conv => whnf); refine recT (by rw [bC_length, List.length_replicate]; simp <;> omega) ?_)
      (conv => whnf); refine ACalls.use (fin _) ?_
      repeat ((conv => whnf); refine recT (by rw [bC_length, List.length_replicate]; simp <;> omega) ?_)
      conv => whnf
  · (conv => whnf); refine recT (by rw [bC_length]; exact Nat.beq_refl _) ?_
    conv => whnf
    rw [w4]
    (conv => whnf); refine And.intro (⟨by omega, by omega, by rw [roomB_val]; omega, by rw [roomB_val]; omega⟩) ?_
    (conv => whnf); refine recT (by rw [bC_length]; exact Nat.beq_refl _) ?_
    have hx : List.take zs.length (List.drop 0 (bC zs)) = bC zs := by rw [List.drop_zero, List.take_of_length_le (by rw [bC_length]; exact Nat.le_refl _)]
    conv => whnf
    rw [hx]
    (conv => whnf); refine recT (by rw [List.length_replicate]; exact Nat.beq_refl _) ?_
    (conv => whnf); refine And.intro (⟨rfl, rfl, by rw [bC_length, Int.toNat_natCast]; omega⟩) ?_
    conv => whnf
    refine Ghost.some (n := 136) (H1 := [.arr 1 (bC zs ++ bC (List.replicate 400 0))]) (live := [(0, .list false 1 (pL l)), (1, .list false 1 (bC p)), (2, .int .i64 n), (7, .list false 1 (bC zs)), (9, .slc 0 (zs.length + 400) 0 zs.length (zs.length + 400))]) [1] (by simp) ⟨⟨_, rfl, obSame (by rw [bC_length, Int.toNat_natCast, drop_rep]) (part_clean zs 400)⟩, trivial⟩ rfl ⟨.closed _ rfl, .closed _ rfl, .closed _ rfl, pubFI (by simp) rfl (bC_length zs).symm (bC_length zs).symm (pureEs_bC zs), pubC rfl (Int.toNat_natCast _) (bC_length zs) (Int.toNat_natCast _), trivial⟩ ?_
    rintro ρ1 ⟨d, rfl⟩
    (conv => whnf); refine ACalls.use (ACalls.slc (jAppend_part F.journal_Append zs p 400 _ rfl false _ rfl (by simp [jFull]; omega)) (.cons (.slc ..) (.cons (.refl _) .nil))) ?_
    (conv => whnf); refine And.intro (⟨roomB_le1 (by simp [bC_length] <;> omega), roomB_le (by simp [bC_length] <;> omega)⟩) ?_
    (conv => whnf); refine ACalls.use (ref35_Entry_spec F.warehouseref35_Entry false p (by omega) hm _) ?_
    try ((conv => whnf); refine recT (by rw [bC_length]; exact Nat.beq_refl _) ?_)
    (conv => whnf); refine And.intro (⟨roomB_le1 (by simp [bC_length, jEnt_length]; omega), roomB_le (by simp [bC_length, jEnt_length]; omega), rfl, by simp⟩) ?_
    conv => whnf
    refine Ghost.some (n := 136) (H1 := [.arr 1 (bC zs ++ bC (List.replicate 400 0))]) (live := [(0, .list false 1 (pL l)), (2, .int .i64 n), (7, (.list false 1 (bC zs))), (9, .slc 0 (zs.length + 400) 0 zs.length (zs.length + 400)), (10, .list false 1 (bC (zs ++ jEnt p))), (11, .int .i64 0), (12, .list false 1 (bC (zs ++ jEnt p)))]) [0] (by simp) ⟨⟨_, rfl, .same _ _ (part_clean zs 400)⟩, trivial⟩ rfl ⟨.closed _ rfl, .closed _ rfl, .closed _ rfl, pubC rfl rfl rfl rfl, .closed _ rfl, .closed _ rfl, pubFB (by simp) rfl (by first | exact (bC_append _ _).symm | (rw [h0]; rfl)) rfl rfl, trivial⟩ ?_
    rintro ρ1 ⟨d, rfl⟩
    (conv => whnf); refine ACalls.use (ACalls.slc (rdp zs hzs _ 0 rfl) (.cons (.slc ..) .nil)) ?_
    (conv => whnf); refine ACalls.use (ACalls.slc (rpp zs hzs) (.cons (.slc ..) .nil)) ?_
    conv => whnf
    refine ⟨fun m ρ H1 => ∃ (k : Nat) (es : List Int), k + m = zs.length ∧ es.length = zs.length + 400 ∧ es.drop zs.length = List.replicate 400 0 ∧ H1 = [.arr 1 (bC es)] ∧
      Sv 136 [(0, .list false 1 (pL l)), (2, .int .i64 n), (7, (.list false 1 (bC zs))), (9, .slc 0 (zs.length + 400) 0 zs.length (zs.length + 400)), (10, .list false 1 (bC (zs ++ jEnt p))), (11, .int .i64 0), (12, .list false 1 (bC (zs ++ jEnt p))), (13, .list false 1 (pL l)), (15, .list false 1 (bC zs)), (69, .int .i64 zs.length), (70, .int .i64 k)] ρ, zs.length, [], ?_, ?_⟩
    · exact ⟨0, zs ++ List.replicate 400 0, by omega, by rw [List.length_append, List.length_replicate], by rw [List.drop_left], by rw [bC_append], Sv.intro rfl ⟨rfl, rfl, rfl, rfl, rfl, rfl, rfl, rfl, rfl, rfl, rfl, trivial⟩⟩
    rintro m2 ρ H1 ⟨k2, es, hk2, hes, hed, rfl, d2, rfl⟩
    (conv => whnf); refine recA (fun hlt2 => ?_) (fun hlt2 => ?_)
    · simp at hlt2
      (conv => whnf); refine recT (by rw [bC_length, hes]; exact Nat.beq_refl _) ?_
      (conv => whnf); refine And.intro (⟨by omega, by omega⟩) ?_
      (conv => whnf); refine recT (by rw [bC_length, hes]; exact Nat.beq_refl _) ?_
      have hg : ∃ x, es[0 + (k2 : Int).toNat]? = some x := ⟨_, List.getElem?_eq_getElem (by omega)⟩
      obtain ⟨x0, hg⟩ := hg
      (conv => whnf); refine recO (bC_get hg) ?_
      conv => whnf
      refine ⟨m2 - 1, by omega, Gp.keep rfl ?_ fun ρ1 h => ⟨k2 + 1, es.set (0 + (k2 : Int).toNat) 7, by omega, by rw [List.length_set]; exact hes, by rw [List.drop_set_of_lt (by omega)]; exact hed, by rw [← setEs_bC], h⟩⟩
      exact ⟨rfl, rfl, rfl, rfl, rfl, rfl, rfl, rfl, rfl, rfl, intEq (wrapI _ (by omega) (by omega)), trivial⟩
    simp at hlt2
    (conv => whnf); refine recT (by rw [bC_length, hes]; exact Nat.beq_refl _) ?_
    (conv => whnf); refine And.intro (⟨by omega, by omega, by omega⟩) ?_
    conv => whnf
    have e4 : ((((zs.length + 400 : Nat) : Int)).toNat - ((zs.length : Nat) : Int).toNat : Nat) = 400 := by omega
    refine ⟨fun m ρ H1 => ∃ (k : Nat), k + m = 400 ∧ H1 = [.arr 1 (bC es)] ∧
      Sv 136 [(0, .list false 1 (pL l)), (2, .int .i64 n), (7, (.list false 1 (bC zs))), (10, .list false 1 (bC (zs ++ jEnt p))), (11, .int .i64 0), (12, .list false 1 (bC (zs ++ jEnt p))), (13, .list false 1 (pL l)), (15, .list false 1 (bC zs)), (82, .slc 0 (zs.length + 400) zs.length 400 400), (83, .int .i64 400), (84, .int .i64 k)] ρ, 400, [], ?_, ?_⟩
    · exact ⟨0, by omega, rfl, Sv.intro rfl ⟨rfl, rfl, rfl, rfl, rfl, rfl, rfl, rfl, slcEq (by omega) e4 (by omega), intEq (by rw [e4]; rfl), rfl, trivial⟩⟩
    rintro m3 ρ H1 ⟨k3, hk3, rfl, d3, rfl⟩
    (conv => whnf); refine recA (fun hlt3 => ?_) (fun hlt3 => ?_)
    · simp at hlt3
      (conv => whnf); refine recT (by rw [bC_length, hes]; exact Nat.beq_refl _) ?_
      (conv => whnf); refine And.intro (⟨by omega, by omega⟩) ?_
      (conv => whnf); refine recT (by rw [bC_length, hes]; exact Nat.beq_refl _) ?_
      have hg : es[zs.length + (k3 : Int).toNat]? = some 0 := by
        rw [← List.getElem?_drop, hed, List.getElem?_replicate, if_pos (by omega)]
      (conv => whnf); refine recO (bC_get hg) ?_
      conv => whnf
      refine ⟨m3 - 1, by omega, Gp.keep rfl ?_ fun ρ1 h => ⟨k3 + 1, by omega, rfl, h⟩⟩
      exact ⟨rfl, rfl, rfl, rfl, rfl, rfl, rfl, rfl, rfl, rfl, intEq (wrapI _ (by omega) (by omega)), trivial⟩
    simp at hlt3
    (conv => whnf); refine ACalls.use (Place_spec F.warehouseworld_Place n 5 (by omega) (by omega) _) ?_
    conv => whnf
    rw [hc]
    (conv => whnf); refine And.intro (⟨by omega, by omega, by rw [roomB_val]; omega, by rw [roomB_val]; omega⟩) ?_
    conv => whnf
    refine Ghost.none (n := 136) (live := [(0, .list false 1 (pL l)), (7, (.list false 1 (bC zs))), (10, .list false 1 (bC (zs ++ jEnt p))), (11, .int .i64 0), (12, .list false 1 (bC (zs ++ jEnt p))), (13, .list false 1 (pL l)), (15, .list false 1 (bC zs)), (19, .list false 1 (bC (List.replicate (65534 + c) 0)))]) rfl ⟨.closed _ rfl, .closed _ rfl, .closed _ rfl, .closed _ rfl, .closed _ rfl, .closed _ rfl, .closed _ rfl, pubFB (by simp) rfl (by rw [Int.toNat_natCast, bC, List.map_replicate]) (by rw [List.length_replicate]) (by rw [List.length_replicate]), trivial⟩ ?_
    rintro ρ1 ⟨d4, rfl⟩
    rcases hbig with ⟨hc1, hb⟩ | ⟨hc1, hb⟩
    · (conv => whnf); refine ACalls.use (hb _) ?_
      (conv => whnf); refine ACalls.use (sb1 _) ?_
      (conv => whnf); refine ACalls.use (sm1 _) ?_
      (conv => whnf); refine ACalls.use (sb2 _ (.inr rfl) _) ?_
      repeat ((conv => whnf); refine recT (by rw [bC_length, List.length_replicate]; simp <;> omega) ?_)
      (conv => whnf); refine ACalls.use (fin _) ?_
      repeat ((conv => whnf); refine recT (by rw [bC_length, List.length_replicate]; simp <;> omega) ?_)
      conv => whnf
    · (conv => whnf); refine ACalls.use (hb _) ?_
      (conv => whnf); refine ACalls.use (sb1 _) ?_
      (conv => whnf); refine ACalls.use (sm1 _) ?_
      (conv => whnf); refine ACalls.use (sb2 _ (.inr rfl) _) ?_
      repeat ((conv => whnf); refine recT (by rw [bC_length, List.length_replicate]; simp <;> omega) ?_)
      (conv => whnf); refine ACalls.use (fin _) ?_
      repeat ((conv => whnf); refine recT (by rw [bC_length, List.length_replicate]; simp <;> omega) ?_)
      conv => whnf

end Go.AW

namespace Go.Proofs
open Go.RowKit Go.Shelf Go.AW
variable [Draws]
set_option linter.all false
attribute [local go_sem] Oper.semAt_some
set_option maxHeartbeats 1000000 in
theorem Try.entries_in (F : Fence) (n : Nat) (h5 : F.fn 26) (hro : F.round = none) (a : Option Addr) (len cap : Nat) (w : World) :
    CallsIn F n Try.prog 26 #[.slice a len cap] w fun e w' => e = .returned (.func (.func 28) #[] #[.pointer (some ⟨w.heap.size, 0, none⟩)]) ∧ w' = w.alloc (.cells #[.slice a len cap] 22) := by
  refine callsIn_of_wp Try.func26 rfl h5 ?_ hro
  simp only [Try.ntmps26, List.size_toArray, List.length_cons, List.length_nil, Nat.reduceAdd, Nat.reduceSub, Array.replicate_succ, Array.replicate_zero, List.push_toArray, List.append_toArray, List.nil_append, List.cons_append]
  gi_wp2
  go_ret
  exact ⟨rfl, rfl⟩

def offJ (off cap s : Nat) : Nat := if cap - s = 0 then off else off + s

def encJ (b off cap : Nat) (x : Nat × Nat) : Array Value := #[.slice (some ⟨b, offJ off cap x.1, none⟩) x.2 (cap - x.1), .int .i64 ((x.1 + x.2 : Nat) : Int)]

def LogAt (W : World) (Bs b off cap : Nat) (zs : List Int) : Prop :=
  W.cell? ⟨Bs, 0, none⟩ = some (.slice (some ⟨b, off, none⟩) zs.length cap) ∧ Bs < W.heap.size ∧ b < W.heap.size ∧ ∀ i x, zs[i]? = some x → W.cell? ⟨b, off + i, none⟩ = some (.int .u8 x)

def KeepJ (Bs b : Nat) (W W' : World) : Prop := W.heap.size ≤ W'.heap.size ∧ W'.heap[Bs]? = W.heap[Bs]? ∧ W'.heap[b]? = W.heap[b]?

theorem LogAt.kept {W W' : World} {Bs b off cap : Nat} {zs : List Int} (h : LogAt W Bs b off cap zs) (hk : KeepJ Bs b W W') : LogAt W' Bs b off cap zs := by
  obtain ⟨h1, h2, h3, h4⟩ := h
  obtain ⟨k1, k2, k3⟩ := hk
  exact ⟨by rw [World.cell?_of_block (w' := W') (a := ⟨Bs, 0, none⟩) k2]; exact h1, by omega, by omega, fun i x hx => by rw [World.cell?_of_block (w' := W') (a := ⟨b, off + i, none⟩) k3]; exact h4 i x hx⟩

theorem KeepJ.grown {Bs b : Nat} {W W' : World} (hg : W.grownBy W' none) (h1 : Bs < W.heap.size) (h2 : b < W.heap.size) : KeepJ Bs b W W' := ⟨hg.size, hg.block Bs h1 (by simp), hg.block b h2 (by simp)⟩

theorem LogAt.reads {W : World} {Bs b off cap : Nat} {zs : List Int} (h : LogAt W Bs b off cap zs) (hcap : zs.length ≤ cap) (s m : Nat) (hs : s + m ≤ zs.length) (c : Nat) (hc : m ≤ c) : Reads W (.slice (some ⟨b, off + s, none⟩) m c) ((zs.drop s).take m) := by
  have hl : ((zs.drop s).take m).length = m := by rw [List.length_take, List.length_drop]; omega
  by_cases h0 : m = 0
  · subst h0; exact .inl ⟨rfl, _, _, rfl⟩
  · refine .inr ⟨fun e => h0 (by rw [e] at hl; exact hl.symm), b, off + s, c, by rw [hl], by omega, h.2.2.1, fun i x hx => ?_⟩
    have hi := (List.getElem?_eq_some_iff.1 hx).1
    rw [List.getElem?_take, if_pos (by omega), List.getElem?_drop] at hx
    rw [Nat.add_assoc]
    exact h.2.2.2 _ x hx

theorem LogAt.readsEnd {W : World} {Bs b off cap : Nat} {zs : List Int} (h : LogAt W Bs b off cap zs) (hcap : zs.length ≤ cap) (s : Nat) (hs : s ≤ zs.length) : Reads W (.slice (some ⟨b, off + s, none⟩) (zs.length - s) (cap - s)) (zs.drop s) := by
  have := h.reads hcap s (zs.length - s) (by omega) (cap - s) (by omega)
  rwa [List.take_of_length_le (by rw [List.length_drop]; omega)] at this

noncomputable def iPut4 : F_journal_put4 Try.prog := ⟨21, ⟨Try.f21, Try.f21.body.getD .skip, Try.func21, by kernel_rfl, by kernel_rfl, by kernel_rfl, by kernel_rfl, by kernel_rfl⟩⟩

noncomputable def iChecksum : F_batch_Checksum Try.prog := ⟨27, ⟨Try.f27, Try.f27.body.getD .skip, Try.func27, by kernel_rfl, by kernel_rfl, by kernel_rfl, by kernel_rfl, by kernel_rfl⟩⟩

noncomputable def iSum : F_journal_sum Try.prog := ⟨23, iPut4, iChecksum, ⟨Try.f23, Try.f23.body.getD .skip, Try.func23, by kernel_rfl, by kernel_rfl, by kernel_rfl, by kernel_rfl, by kernel_rfl⟩⟩

noncomputable def iClone : F_bytes_Clone Try.prog := ⟨22, ⟨Try.f22, Try.f22.body.getD .skip, Try.func22, by kernel_rfl, by kernel_rfl, by kernel_rfl, by kernel_rfl, by kernel_rfl⟩⟩

noncomputable def iNumber : F_journal_number Try.prog := ⟨29, ⟨Try.f29, Try.f29.body.getD .skip, Try.func29, by kernel_rfl, by kernel_rfl, by kernel_rfl, by kernel_rfl, by kernel_rfl⟩⟩

theorem Try.number_calls {W : World} {v : Value} {l : List Int} (hr : Reads W v l) (hl : 4 ≤ l.length) (hby : Byt l) : Calls Try.prog 29 #[v] W fun e W' => e = .returned (.int .i64 (num (l.take 4))) ∧ W.grownBy W' none :=
  ACalls.int1 (f := 29) (enters_of Try.func29 (by kernel_rfl) rfl) ((jnumber_spec iNumber false l hl hby []).mono fun _ _ h => h.1) hr

theorem Try.sum_calls {W : World} {v : Value} {l : List Int} (hr : Reads W v l) (hl : l.length ≤ 10000000) : Calls Try.prog 23 #[v] W fun e W' => e = .returned (.int .u32 (fnv (jBody l))) ∧ W.grownBy W' none :=
  ACalls.int1 (f := 23) (enters_of Try.func23 (by kernel_rfl) rfl) ((jsum_spec iSum false l hl []).mono fun _ _ h => h.1) hr

abbrev PosJ (zs : List Int) := {x : Nat × Nat // x.1 + x.2 ≤ zs.length}

set_option maxRecDepth 100000 in
set_option maxHeartbeats 2000000 in
theorem Try.ent1_in (n : Nat) (hn : 1 ≤ n) (l Bs b off cap : Nat) (zs : List Int) (hcap : zs.length ≤ cap) (hz : zs.length ≤ 10000000) (hby : Byt zs) (J Jx : List (PosJ zs) → World → Prop)
    (hY : ∀ pre x W, J pre W → pre.length < zs.length + 1 → YieldAt Fence.wide (n - 1) Try.prog l (encJ b off cap x.1) W fun e W' =>
      (e = .returned (.bool true) ∧ J (pre ++ [x]) W' ∧ KeepJ Bs b W W') ∨ (e = .returned (.bool false) ∧ Jx (pre ++ [x]) W'))
    (W : World) (hJ : AbidesFrom W.heap.size J) (hL : LogAt W Bs b off cap zs) (h0 : J [] W) :
    CallsIn Fence.wide n Try.prog 28 #[.func (.yield l) #[] #[], .pointer (some ⟨Bs, 0, none⟩)] W fun e W' => (∃ v, e = .returned v) ∧
      ((∃ ys : List (PosJ zs), ys.map (fun x => x.1) = entP zs 0 ∧ J ys W') ∨ (∃ pre, True ∧ Jx pre W')) := by
  refine callsIn_of_wp Try.func28 rfl trivial ?_ rfl
  simp only [Try.ntmps28, List.size_toArray, List.length_cons, List.length_nil, Nat.reduceAdd, Nat.reduceSub, Array.replicate_succ, Array.replicate_zero, List.push_toArray, List.append_toArray, List.nil_append, List.cons_append]
  gi_wp2
  gi_loopw [3] (fun i wr => ∃ (k : Nat) (pre : List (PosJ zs)), k ≤ zs.length ∧ i = .int .i64 k ∧ entP zs 0 = pre.map (fun x => x.1) ++ entP zs k ∧ pre.length ≤ k ∧ J pre wr ∧ LogAt wr Bs b off cap zs)
    (fun i _ => zs.length - (intOf i).toNat)
  case atStart => exact ⟨0, [], Nat.zero_le _, rfl, rfl, Nat.zero_le _, h0, hL⟩
  case round =>
    obtain ⟨k, pre, hk, rfl, hpre, hpl, hJs, hLw⟩ := hrel
    have hL1 := hLw.1
    by_cases h8 : k + 8 ≤ zs.length
    · gi_wp2
      refine ⟨trivial, ?_⟩
      refine (callsIn_wide.2 (Try.number_calls (hLw.readsEnd hcap k hk) (by rw [List.length_drop]; omega) (fun x hx => hby x (List.mem_of_mem_drop hx)))).mono ?_
      rintro e w1 ⟨rfl, hg1⟩
      have hJ1 : J pre w1 := hJ _ _ _ _ hJs hg1 (fun r e => by cases e)
      have hLw1 := hLw.kept (KeepJ.grown hg1 hLw.2.1 hLw.2.2.1)
      have hLc1 := hLw1.1
      clear hJs hLw hL1
      have hn0 := hdr_nonneg hby k
      obtain ⟨N, hN⟩ : ∃ N : Nat, hdr zs k = N := ⟨(hdr zs k).toNat, by omega⟩
      have hN' : num ((zs.drop k).take 4) = N := hN
      rw [hN']
      by_cases hA : 65536 < N
      · have hnil := entP_nil (okE_big hN (.inl hA))
        gi_wp2
        refine bodyPost_ret (results_none rfl _ _ _) rfl ?_
        first
          | exact ⟨⟨_, rfl⟩, .inl hJ1⟩
          | exact ⟨⟨_, rfl⟩, .inl ⟨_, rfl, hJ1⟩⟩
          | exact ⟨⟨_, rfl⟩, .inl ⟨_, by rw [hpre, hnil, List.append_nil], hJ1⟩⟩
      by_cases hB : (zs.length : Int) - k - 8 < N
      · have hnil := entP_nil (okE_big hN (.inr hB))
        gi_wp2
        refine bodyPost_ret (results_none rfl _ _ _) rfl ?_
        first
          | exact ⟨⟨_, rfl⟩, .inl hJ1⟩
          | exact ⟨⟨_, rfl⟩, .inl ⟨_, rfl, hJ1⟩⟩
          | exact ⟨⟨_, rfl⟩, .inl ⟨_, by rw [hpre, hnil, List.append_nil], hJ1⟩⟩
      have hok := okE_sum hN h8 hA hB
      by_cases hE : cap = k + 8
      · have hN0 : N = 0 := by omega
        subst hN0 hE
        have hrd1 : Reads w1 (.slice (some ⟨b, off + (k + 4), none⟩) (zs.length - (k + 4)) 4) (zs.drop (k + 4)) := by
          have := hLw1.readsEnd hcap (k + 4) (by omega)
          rwa [show k + 8 - (k + 4) = 4 by omega] at this
        gi_wp2
        refine ⟨trivial, ?_⟩
        refine (callsIn_wide.2 (Try.number_calls hrd1 (by rw [List.length_drop]; omega) (fun x hx => hby x (List.mem_of_mem_drop hx)))).mono ?_
        rintro e w2 ⟨rfl, hg2⟩
        have hJ2 : J pre w2 := hJ _ _ _ _ hJ1 hg2 (fun r e => by cases e)
        have hLw2 := hLw1.kept (KeepJ.grown hg2 hLw1.2.1 hLw1.2.2.1)
        have hLc2 := hLw2.1
        clear hJ1 hLw1 hLc1
        have hrd2 : Reads w2 (.slice (some ⟨b, off, none⟩) 0 0) ((zs.drop (k + 8)).take 0) := .inl ⟨rfl, _, _, rfl⟩
        gi_wp2
        refine ⟨trivial, ?_⟩
        refine (callsIn_wide.2 (Try.sum_calls hrd2 (by rw [List.length_take]; omega))).mono ?_
        rintro e w3 ⟨rfl, hg3⟩
        have hJ3 : J pre w3 := hJ _ _ _ _ hJ2 hg3 (fun r e => by cases e)
        have hLw3 := hLw2.kept (KeepJ.grown hg3 hLw2.2.1 hLw2.2.2.1)
        clear hJ2 hLw2 hLc2 hrd1 hrd2
        obtain ⟨T, hT⟩ : ∃ T, T = fnv (jBody ((zs.drop (k + 8)).take 0)) := ⟨_, rfl⟩
        rw [← hT] at hok ⊢
        have hTn := fnv_bound (jBody ((zs.drop (k + 8)).take 0))
        rw [← hT] at hTn
        clear hT
        obtain ⟨S, hS⟩ : ∃ S, S = hdr zs (k + 4) := ⟨_, rfl⟩
        have hS0 : 0 ≤ S := by rw [hS]; exact hdr_nonneg hby _
        have hS' : num ((zs.drop (k + 4)).take 4) = S := hS.symm
        rw [hS']
        rw [← hS, u32_wrap] at hok
        clear hS hS' hN'
        by_cases hC : S % 4294967296 = T
        · have hcons := entP_cons (by rw [hok]; simpa using hC)
          rw [hN, Int.toNat_natCast] at hcons
          obtain ⟨fn, tmps, assign, body, hy, hR⟩ := hY pre ⟨(k + 8, 0), by simp only []; omega⟩ w3 hJ3 (by omega)
          have hcast : ((k + 8 + 0 : Nat) : Int) = (k : Int) + 8 := by omega
          simp only [encJ, offJ, Nat.sub_self, if_true, hcast] at hy
          clear hok hN
          gi_wp2
          refine hR.mono ?_
          rintro e W3 (⟨rfl, hJ4, hk4⟩ | ⟨rfl, hJx4⟩)
          · have hLw4 := hLw3.kept hk4
            clear hJ3 hLw3 hR
            gi_wp2
            go_roundw
            case rel => exact ⟨k + 8 + 0, pre ++ [⟨(k + 8, 0), by simp only []; omega⟩], by omega, by congr 1 <;> omega, by rw [hpre, hcons, List.map_append, List.append_assoc]; rfl, by simp; omega, hJ4, hLw4⟩
            case measure => simp [intOf]; omega
          · gi_wp2
            refine bodyPost_ret (results_none rfl _ _ _) rfl ?_
            first
              | exact ⟨⟨_, rfl⟩, .inr ⟨_, trivial, hJx4⟩⟩
              | exact ⟨⟨_, rfl⟩, .inr ⟨_, hJx4⟩⟩
        · have hnil := entP_nil (by rw [hok]; simpa using hC)
          clear hok hN
          gi_wp2
          refine bodyPost_ret (results_none rfl _ _ _) rfl ?_
          first
            | exact ⟨⟨_, rfl⟩, .inl hJ3⟩
            | exact ⟨⟨_, rfl⟩, .inl ⟨_, rfl, hJ3⟩⟩
            | exact ⟨⟨_, rfl⟩, .inl ⟨_, by rw [hpre, hnil, List.append_nil], hJ3⟩⟩
      · have hE2 : ¬ cap - (k + 8) = 0 := by omega
        have hrd1 := hLw1.readsEnd hcap (k + 4) (by omega)
        gi_wp2
        refine ⟨trivial, ?_⟩
        refine (callsIn_wide.2 (Try.number_calls hrd1 (by rw [List.length_drop]; omega) (fun x hx => hby x (List.mem_of_mem_drop hx)))).mono ?_
        rintro e w2 ⟨rfl, hg2⟩
        have hJ2 : J pre w2 := hJ _ _ _ _ hJ1 hg2 (fun r e => by cases e)
        have hLw2 := hLw1.kept (KeepJ.grown hg2 hLw1.2.1 hLw1.2.2.1)
        have hLc2 := hLw2.1
        clear hJ1 hLw1 hLc1
        have hrd2 := hLw2.reads hcap (k + 8) N (by omega) (cap - (k + 8)) (by omega)
        gi_wp2
        refine ⟨trivial, ?_⟩
        refine (callsIn_wide.2 (Try.sum_calls hrd2 (by rw [List.length_take]; omega))).mono ?_
        rintro e w3 ⟨rfl, hg3⟩
        have hJ3 : J pre w3 := hJ _ _ _ _ hJ2 hg3 (fun r e => by cases e)
        have hLw3 := hLw2.kept (KeepJ.grown hg3 hLw2.2.1 hLw2.2.2.1)
        clear hJ2 hLw2 hLc2 hrd1 hrd2
        obtain ⟨T, hT⟩ : ∃ T, T = fnv (jBody ((zs.drop (k + 8)).take N)) := ⟨_, rfl⟩
        rw [← hT] at hok ⊢
        have hTn := fnv_bound (jBody ((zs.drop (k + 8)).take N))
        rw [← hT] at hTn
        clear hT
        obtain ⟨S, hS⟩ : ∃ S, S = hdr zs (k + 4) := ⟨_, rfl⟩
        have hS0 : 0 ≤ S := by rw [hS]; exact hdr_nonneg hby _
        have hS' : num ((zs.drop (k + 4)).take 4) = S := hS.symm
        rw [hS']
        rw [← hS, u32_wrap] at hok
        clear hS hS' hN'
        by_cases hC : S % 4294967296 = T
        · have hcons := entP_cons (by rw [hok]; simpa using hC)
          rw [hN, Int.toNat_natCast] at hcons
          obtain ⟨fn, tmps, assign, body, hy, hR⟩ := hY pre ⟨(k + 8, N), by simp only []; omega⟩ w3 hJ3 (by omega)
          have hcast : ((k + 8 + N : Nat) : Int) = (k : Int) + (8 + (N : Int)) := by omega
          simp only [encJ, offJ, if_neg hE2, hcast] at hy
          clear hok hN
          gi_wp2
          refine hR.mono ?_
          rintro e W3 (⟨rfl, hJ4, hk4⟩ | ⟨rfl, hJx4⟩)
          · have hLw4 := hLw3.kept hk4
            clear hJ3 hLw3 hR
            gi_wp2
            go_roundw
            case rel => exact ⟨k + 8 + N, pre ++ [⟨(k + 8, N), by simp only []; omega⟩], by omega, by congr 1 <;> omega, by rw [hpre, hcons, List.map_append, List.append_assoc]; rfl, by simp; omega, hJ4, hLw4⟩
            case measure => simp [intOf]; omega
          · gi_wp2
            refine bodyPost_ret (results_none rfl _ _ _) rfl ?_
            first
              | exact ⟨⟨_, rfl⟩, .inr ⟨_, trivial, hJx4⟩⟩
              | exact ⟨⟨_, rfl⟩, .inr ⟨_, hJx4⟩⟩
        · have hnil := entP_nil (by rw [hok]; simpa using hC)
          clear hok hN
          gi_wp2
          refine bodyPost_ret (results_none rfl _ _ _) rfl ?_
          first
            | exact ⟨⟨_, rfl⟩, .inl hJ3⟩
            | exact ⟨⟨_, rfl⟩, .inl ⟨_, rfl, hJ3⟩⟩
            | exact ⟨⟨_, rfl⟩, .inl ⟨_, by rw [hpre, hnil, List.append_nil], hJ3⟩⟩
    · have hnil := entP_nil (okE_short h8)
      gi_wp2
      go_end0
      exact ⟨⟨_, rfl⟩, .inl ⟨_, by rw [hpre, hnil, List.append_nil], hJs⟩⟩

set_option maxRecDepth 100000 in
set_option maxHeartbeats 1000000 in

theorem Try.ent0_in (n : Nat) (l Bs : Nat) (a : Option Addr) (cap : Nat) {α : Type} (J : List α → World → Prop) (W : World) (hBs : W.cell? ⟨Bs, 0, none⟩ = some (.slice a 0 cap)) (h0 : J [] W) :
    CallsIn Fence.wide n Try.prog 28 #[.func (.yield l) #[] #[], .pointer (some ⟨Bs, 0, none⟩)] W fun e W' => (∃ v, e = .returned v) ∧ J [] W' := by
  refine callsIn_of_wp Try.func28 rfl trivial ?_ rfl
  simp only [Try.ntmps28, List.size_toArray, List.length_cons, List.length_nil, Nat.reduceAdd, Nat.reduceSub, Array.replicate_succ, Array.replicate_zero, List.push_toArray, List.append_toArray, List.nil_append, List.cons_append]
  gi_wp2
  gi_loopw [3] (fun i wr => i = .int .i64 0 ∧ J [] wr ∧ wr.cell? ⟨Bs, 0, none⟩ = some (.slice a 0 cap)) (fun _ _ => 0)
  case atStart => exact ⟨rfl, h0, hBs⟩
  case round =>
    obtain ⟨rfl, hJs, hc⟩ := hrel
    gi_wp2
    go_end0
    exact ⟨⟨_, rfl⟩, hJs⟩

theorem KeepJ.t {Bs b : Nat} {X Y Z : World} (h : KeepJ Bs b X Y) (k : KeepJ Bs b Y Z) : KeepJ Bs b X Z := ⟨Nat.le_trans h.1 k.1, k.2.1.trans h.2.1, k.2.2.trans h.2.2⟩

theorem KeepJ.of_below {Bs b n : Nat} {X Y : World} (h : Below n X Y) (h1 : Bs < n) (h2 : b < n) : KeepJ Bs b X Y := ⟨h.size, h.block Bs h1, h.block b h2⟩

theorem KeepJ.put {Bs b : Nat} {w : World} (h1 : Bs < w.heap.size) (h2 : b < w.heap.size) (W : World) (l : Nat) (o o' : Obj) (hl : w.heap.size ≤ l) (hlo : W.heap[l]? = some o) (_ : o.isCells = false) (_ : o.isWalk = false) : KeepJ Bs b W (W.putObj l o') := by
  have hg := grownBy_putObj' W l o'
  have hlt := (Array.getElem?_eq_some_iff.1 hlo).1
  exact ⟨hg.size, hg.block Bs (by omega) (by simp; omega), hg.block b (by omega) (by simp; omega)⟩

theorem Try.ent_stops (n : Nat) (hn : 1 ≤ n) (Bs b off cap : Nat) (zs : List Int) (hcap : zs.length ≤ cap) (hz : zs.length ≤ 10000000) (hby : Byt zs) (w : World) (hL : LogAt w Bs b off cap zs) :
    SeqStopsK Fence.wide n Try.prog 28 #[.pointer (some ⟨Bs, 0, none⟩)] (fun x : PosJ zs => encJ b off cap x.1) (KeepJ Bs b) (fun ys => ys.map (fun x => x.1) = entP zs 0) (fun _ => True) (zs.length + 1) w := fun l J Jx W hW hJ _ hY h0 =>
  Try.ent1_in n hn l Bs b off cap zs hcap hz hby J Jx hY W hJ (hL.kept (KeepJ.of_below hW hL.2.1 hL.2.2.1)) h0

end Go.Proofs

