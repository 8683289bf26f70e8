/-
  Decoding of rows, in the program and in the reference.
  No condition: contracts over any program that has this code.
-/
import Derived.Test.YtikifhfpiahnoaaWhEnc1
namespace Go.AW
attribute [local irreducible] ACalls

def or64 (a b : Int) : Int := IntKind.i64.wrap (BitVec.ofInt IntKind.i64.bits a ||| BitVec.ofInt IntKind.i64.bits b).toNat

theorem or64_add (m y : Int) (k : Nat) (hm : 0 ≤ m) (hy : 0 ≤ y) (hyk : y < 2 ^ k) (hb : m * 2 ^ k + y < 2 ^ 62) : or64 (m * 2 ^ k) y = m * 2 ^ k + y := by
  obtain ⟨m, rfl⟩ := Int.eq_ofNat_of_zero_le hm
  obtain ⟨y, rfl⟩ := Int.eq_ofNat_of_zero_le hy
  have hyk' : y < 2 ^ k := by exact_mod_cast hyk
  have hb' : m * 2 ^ k + y < 2 ^ 62 := by exact_mod_cast hb
  show IntKind.i64.wrap ((BitVec.ofInt 64 ((m : Int) * 2 ^ k) ||| BitVec.ofInt 64 (y : Int)).toNat : Int) = _
  have e1 : ((m : Int) * 2 ^ k) = ((m * 2 ^ k : Nat) : Int) := by simp
  rw [e1, BitVec.ofInt_natCast, BitVec.ofInt_natCast, BitVec.toNat_or, BitVec.toNat_ofNat, BitVec.toNat_ofNat, Nat.mod_eq_of_lt (by omega), Nat.mod_eq_of_lt (by omega)]
  have h := Nat.shiftLeft_add_eq_or_of_lt hyk' m
  rw [Nat.shiftLeft_eq] at h
  rw [← h, wrapI _ (by omega) (by omega)]
  simp

/-- Bytes. -/
def Byt (l : List Int) : Prop := ∀ x ∈ l, 0 ≤ x ∧ x ≤ 255

def num (l : List Int) : Int := l.foldl (fun n x => n * 256 + x) 0

theorem bC_at {l : List Int} {k : Nat} {x : Int} (h : l[k]? = some x) : (bC l)[k]? = some [.int .u8 x] := by
  rw [bC, List.getElem?_map, h]; rfl

set_option maxRecDepth 20000 in
theorem value_number_spec {P : Program} (F : F_value_number P) (ex : Bool) (l : List Int) (hl : l.length ≤ 6) (hby : Byt l) (H : List AObj) :
    ACalls P F.id [.list ex 1 (bC l)] H (fun r H' => r = .int .i64 (num l) ∧ H' = H) := by
  refine ACalls.pure rfl (acalls_of_body F.has ?_)
  conv => whnf
  refine ⟨fun n ρ H => ∃ (k : Nat) (acc : Int), k + n = l.length ∧ 0 ≤ acc ∧ acc < 256 ^ k ∧ (l.drop k).foldl (fun n x => n * 256 + x) acc = num l ∧ H = [] ∧
    Sv 19 [(3, .int .i64 acc), (6, .list ex 1 (bC l)), (7, .int .i64 l.length), (8, .int .i64 k)] ρ, l.length, [], ?_, ?_⟩
  · exact ⟨0, 0, by omega, by omega, by omega, rfl, rfl, Sv.intro rfl ⟨rfl, rfl, intEq (by rw [bC_length]), rfl, trivial⟩⟩
  rintro n ρ H ⟨k, acc, hk, h0, h1, hr, rfl, d, rfl⟩
  (conv => whnf); refine recA (fun hlt => ?_) (fun hlt => ?_)
  · simp at hlt
    obtain ⟨x, hx, hd, hmem⟩ := get_drop hlt
    have hxb := hby x hmem
    conv => whnf
    refine ⟨by omega, ?_⟩
    (conv => whnf); refine recO (bC_at hx) ?_
    (conv => whnf); refine ⟨by decide, ?_⟩
    conv => whnf
    have hp : (256 : Int) ^ k ≤ 256 ^ 5 := by
      have : (256 : Nat) ^ k ≤ 256 ^ 5 := Nat.pow_le_pow_right (by omega) (by omega)
      exact_mod_cast this
    have hp2 : (256 : Int) ^ (k + 1) = 256 ^ k * 256 := Int.pow_succ ..
    refine ⟨n - 1, by omega, Gp.keep rfl ?_ fun ρ1 h => ⟨k + 1, acc * 256 + x, by omega, by omega, by omega, ?_, rfl, h⟩⟩
    · refine ⟨intEq ?_, rfl, rfl, intEq (wrapI ((k : Int) + 1) (by omega) (by omega)), trivial⟩
      show or64 (IntKind.i64.wrap (acc * 2 ^ 8)) (IntKind.i64.wrap x) = _
      rw [wrapI _ (by omega) (by omega), wrapI x (by omega) (by omega), or64_add acc x 8 h0 hxb.1 (by omega) (by omega)]
      omega
    · rw [← hr, hd]; rfl
  · simp at hlt
    conv => whnf
    rw [List.drop_eq_nil_of_le hlt] at hr
    exact pubI hr

def strOf (l : List Int) : ByteArray := ⟨(l.map fun n => UInt8.ofNat n.toNat).toArray⟩

theorem bytesOf_bC : ∀ (l : List Int), bytesOf (bC l) = some (l.map fun n => UInt8.ofNat n.toNat)
  | [] => rfl
  | x :: l => by
    show (bytesOf (bC l)).map (UInt8.ofNat x.toNat :: ·) = _
    rw [bytesOf_bC l]; rfl

theorem bC_drop (l : List Int) (k : Nat) : (bC l).drop k = bC (l.drop k) := by simp [bC, List.map_drop]
theorem bC_take (l : List Int) (k : Nat) : (bC l).take k = bC (l.take k) := by simp [bC, List.map_take]

/-- What decode returns for bytes that begin with k and n: a value and the number of its bytes. -/
def decW (l : List Int) (k n : Int) : V × Int :=
  if l.length = 0 then (⟨0, 0, bs []⟩, 0)
  else if k = 0 then (⟨0, 0, bs []⟩, 1)
  else if k = 1 ∧ 2 ≤ l.length then (⟨1, n, bs []⟩, 2)
  else if k = 2 ∧ 5 ≤ l.length then (⟨2, num ((l.take 5).drop 1) - 1073741824, bs []⟩, 5)
  else if k = 4 ∧ 5 ≤ l.length then (⟨4, num ((l.take 5).drop 1), bs []⟩, 5)
  else if k = 3 ∧ 2 ≤ l.length ∧ 2 + n ≤ l.length then (⟨3, 0, strOf ((l.take (2 + n).toNat).drop 2)⟩, 2 + n)
  else (⟨0, 0, bs []⟩, 0)
def decV (l : List Int) : V × Int := decW l (l.getD 0 0) (l.getD 1 0)
theorem decW_0 {l : List Int} {n : Int} (h : 1 ≤ l.length) : decW l 0 n = (⟨0, 0, bs []⟩, 1) := by
  unfold decW; rw [if_neg (by omega), if_pos (Eq.refl (0 : Int))]
theorem decW_1 {l : List Int} {n : Int} (h : 2 ≤ l.length) : decW l 1 n = (⟨1, n, bs []⟩, 2) := by
  unfold decW; rw [if_neg (by omega), if_neg (by omega), if_pos ⟨Eq.refl (1 : Int), h⟩]
theorem decW_2 {l : List Int} {n : Int} (h : 5 ≤ l.length) : decW l 2 n = (⟨2, num ((l.take 5).drop 1) - 1073741824, bs []⟩, 5) := by
  unfold decW; rw [if_neg (by omega), if_neg (by omega), if_neg (by omega), if_pos ⟨Eq.refl (2 : Int), h⟩]
theorem decW_4 {l : List Int} {n : Int} (h : 5 ≤ l.length) : decW l 4 n = (⟨4, num ((l.take 5).drop 1), bs []⟩, 5) := by
  unfold decW; rw [if_neg (by omega), if_neg (by omega), if_neg (by omega), if_neg (by omega), if_pos ⟨Eq.refl (4 : Int), h⟩]
theorem decW_3 {l : List Int} {n : Int} (h : 2 ≤ l.length) (h2 : 2 + n ≤ l.length) : decW l 3 n = (⟨3, 0, strOf ((l.take (2 + n).toNat).drop 2)⟩, 2 + n) := by
  unfold decW; rw [if_neg (by omega), if_neg (by omega), if_neg (by omega), if_neg (by omega), if_neg (by omega), if_pos ⟨Eq.refl (3 : Int), h, h2⟩]
theorem decW_no {l : List Int} {k n : Int} (h0 : k ≠ 0) (h1 : ¬ (k = 1 ∧ 2 ≤ l.length)) (h2 : ¬ (k = 2 ∧ 5 ≤ l.length)) (h4 : ¬ (k = 4 ∧ 5 ≤ l.length)) (h3 : ¬ (k = 3 ∧ 2 ≤ l.length ∧ 2 + n ≤ l.length)) : decW l k n = (⟨0, 0, bs []⟩, 0) := by
  unfold decW
  by_cases h : l.length = 0
  · rw [if_pos h]
  · rw [if_neg h, if_neg h0, if_neg h1, if_neg h2, if_neg h4, if_neg h3]

theorem getD_of {l : List Int} {k : Nat} {x : Int} (h : l[k]? = some x) : l.getD k 0 = x := by rw [List.getD_eq_getElem?_getD, h]; rfl

theorem num_bound (l : List Int) (hby : Byt l) (hl : l.length ≤ 4) : 0 ≤ num l ∧ num l ≤ 4294967295 := by
  match l, hl, hby with
  | [], _, _ => decide
  | [a], _, h => have := h a (by simp); simp [num]; omega
  | [a, b], _, h => have := h a (by simp); have := h b (by simp); simp [num]; omega
  | [a, b, c], _, h => have := h a (by simp); have := h b (by simp); have := h c (by simp); simp [num]; omega
  | [a, b, c, d], _, h => have := h a (by simp); have := h b (by simp); have := h c (by simp); have := h d (by simp); simp [num]; omega

theorem Byt.sub {l m : List Int} (h : Byt l) (hm : ∀ x ∈ m, x ∈ l) : Byt m := fun x hx => h x (hm x hx)
theorem Byt.drop {l : List Int} (h : Byt l) (k : Nat) : Byt (l.drop k) := h.sub fun _ hx => List.mem_of_mem_drop hx
theorem Byt.take {l : List Int} (h : Byt l) (k : Nat) : Byt (l.take k) := h.sub fun _ hx => List.mem_of_mem_take hx

theorem pubDec {H1 : List AObj} {m : Nat} {ids : List Nat} {v : V} {n : Int} {l : List Int} {a b c : AVal} {e : AVal} (h : decV l = (v, n)) (ha : [a, b, c] = valC v) (he : e = .int .i64 n) :
    Pub H1 m ids (.tuple [.agg [a, b, c], e]) (.tuple [.agg (valC (decV l).1), .int .i64 (decV l).2]) := by
  rw [h, he, ha]
  exact pub2 (.closed _ rfl) (.closed _ rfl)

set_option maxRecDepth 20000 in
theorem value_decode_spec {P : Program} (F : F_value_decode P) (ex : Bool) (l : List Int) (hby : Byt l) (hl : l.length ≤ 1000000) (H : List AObj) :
    ACalls P F.id [.list ex 1 (bC l)] H (fun r H' => r = .tuple [.agg (valC (decV l).1), .int .i64 (decV l).2] ∧ H' = H) := by
  refine ACalls.pure rfl (acalls_of_body F.has ?_)
  (conv => whnf); refine recA (fun h0 => ?_) (fun h0 => ?_)
  · simp [bC_length] at h0
    subst h0
    conv => whnf
    exact pubDec (v := ⟨0, 0, bs []⟩) (n := 0) rfl rfl rfl
  simp [bC_length] at h0
  have hpos := List.length_pos_iff.2 h0
  obtain ⟨k, hk, -, hkm⟩ := get_drop hpos
  have hkb := hby k hkm
  have ek : IntKind.i64.wrap k = k := wrapI k (by omega) (by omega)
  have gk := getD_of hk
  have hne : ¬ l.length = 0 := by omega
  conv => whnf
  refine And.intro (by decide) ?_
  (conv => whnf); refine recO (bC_at hk) ?_
  (conv => whnf); refine recA (fun h1 => ?_) (fun h1 => ?_)
  · simp [ek] at h1
    subst h1
    conv => whnf
    exact pubDec (v := ⟨0, 0, bs []⟩) (n := 1) (by rw [decV, gk]; exact decW_0 (by omega)) rfl rfl
  simp [ek] at h1
  (conv => whnf); refine recA (fun h2 => ?_) (fun h2 => ?_)
  · simp [ek] at h2
    subst h2
    (conv => whnf); refine recA (fun h3 => ?_) (fun h3 => ?_)
    · simp [bC_length] at h3
      obtain ⟨n, hn, -, hnm⟩ := get_drop (show 1 < l.length by omega)
      have hnb := hby n hnm
      conv => whnf
      refine And.intro (by decide) ?_
      (conv => whnf); refine recO (bC_at hn) ?_
      conv => whnf
      exact pubDec (v := ⟨1, n, bs []⟩) (n := 2) (by rw [decV, gk, getD_of hn]; exact decW_1 (by omega)) (by rw [wrapI n (by omega) (by omega)]; rfl) rfl
    · simp [bC_length] at h3
      conv => whnf
      exact pubDec (v := ⟨0, 0, bs []⟩) (n := 0) (by rw [decV, gk]; exact decW_no (by omega) (by omega) (by omega) (by omega) (by omega)) rfl rfl
  simp [ek] at h2
  (conv => whnf); refine recA (fun h4 => ?_) (fun h4 => ?_)
  · simp [ek] at h4
    subst h4
    (conv => whnf); refine recA (fun h3 => ?_) (fun h3 => ?_)
    · simp [bC_length] at h3
      have hb := num_bound ((l.take 5).drop 1) ((hby.take 5).drop 1) (by simp; omega)
      conv => whnf
      refine And.intro ⟨by decide, by decide, by simp [bC_length]; omega⟩ ?_
      conv => whnf
      refine ACalls.use (show ACalls _ _ [.list (ex && false) 1 (((bC l).take 5).drop 1)] _ _ from by rw [bC_take, bC_drop]; exact value_number_spec F.value_number _ _ (by simp; omega) ((hby.take 5).drop 1) _) ?_
      conv => whnf
      exact pubDec (v := ⟨2, num ((l.take 5).drop 1) - 1073741824, bs []⟩) (n := 5) (by rw [decV, gk]; exact decW_2 (by omega)) (by rw [wrapI (num ((l.take 5).drop 1) - 1073741824) (by omega) (by omega)]; rfl) rfl
    · simp [bC_length] at h3
      conv => whnf
      exact pubDec (v := ⟨0, 0, bs []⟩) (n := 0) (by rw [decV, gk]; exact decW_no (by omega) (by omega) (by omega) (by omega) (by omega)) rfl rfl
  simp [ek] at h4
  (conv => whnf); refine recA (fun h5 => ?_) (fun h5 => ?_)
  · simp [ek] at h5
    subst h5
    (conv => whnf); refine recA (fun h3 => ?_) (fun h3 => ?_)
    · simp [bC_length] at h3
      have hb := num_bound ((l.take 5).drop 1) ((hby.take 5).drop 1) (by simp; omega)
      conv => whnf
      refine And.intro ⟨by decide, by decide, by simp [bC_length]; omega⟩ ?_
      conv => whnf
      refine ACalls.use (show ACalls _ _ [.list (ex && false) 1 (((bC l).take 5).drop 1)] _ _ from by rw [bC_take, bC_drop]; exact value_number_spec F.value_number _ _ (by simp; omega) ((hby.take 5).drop 1) _) ?_
      conv => whnf
      exact pubDec (v := ⟨4, num ((l.take 5).drop 1), bs []⟩) (n := 5) (by rw [decV, gk]; exact decW_4 (by omega)) rfl rfl
    · simp [bC_length] at h3
      conv => whnf
      exact pubDec (v := ⟨0, 0, bs []⟩) (n := 0) (by rw [decV, gk]; exact decW_no (by omega) (by omega) (by omega) (by omega) (by omega)) rfl rfl
  simp [ek] at h5
  (conv => whnf); refine recA (fun h6 => ?_) (fun h6 => ?_)
  · simp [ek] at h6
    subst h6
    (conv => whnf); refine recA (fun h3 => ?_) (fun h3 => ?_)
    · simp [bC_length] at h3
      obtain ⟨n, hn, -, hnm⟩ := get_drop (show 1 < l.length by omega)
      have hnb := hby n hnm
      have en : IntKind.i64.wrap n = n := wrapI n (by omega) (by omega)
      have en2 : IntKind.i64.wrap (2 + n) = 2 + n := wrapI (2 + n) (by omega) (by omega)
      conv => whnf
      refine And.intro (by decide) ?_
      (conv => whnf); refine recO (bC_at hn) ?_
      (conv => whnf); refine recA (fun h7 => ?_) (fun h7 => ?_)
      · simp [bC_length, en, en2] at h7
        conv => whnf
        refine And.intro (by decide) ?_
        (conv => whnf); refine recO (bC_at hn) ?_
        conv => whnf
        refine And.intro ⟨by decide, by rw [en, en2]; omega, by rw [en, en2, bC_length]; omega⟩ ?_
        conv => whnf
        refine ⟨_, show bytesOf (((bC l).take (IntKind.i64.wrap (2 + IntKind.i64.wrap n)).toNat).drop 2) = _ from by rw [bC_take, bC_drop]; exact bytesOf_bC _, ?_⟩
        conv => whnf
        refine And.intro (by decide) ?_
        (conv => whnf); refine recO (bC_at hn) ?_
        conv => whnf
        refine And.intro (by (conv => whnf)) ?_
        conv => whnf
        refine And.intro (by (conv => whnf); refine And.intro (by decide) ?_; (conv => whnf); refine recO (bC_at hn) ?_; rfl) ?_
        conv => whnf
        exact pubDec (v := ⟨3, 0, strOf ((l.take (2 + n).toNat).drop 2)⟩) (n := 2 + n) (by rw [decV, gk, getD_of hn]; exact decW_3 (by omega) (by omega)) (by rw [en, en2]; rfl) (intEq (by rw [en, en2]))
      · simp [bC_length, en, en2] at h7
        conv => whnf
        exact pubDec (v := ⟨0, 0, bs []⟩) (n := 0) (by rw [decV, gk, getD_of hn]; exact decW_no (by omega) (by omega) (by omega) (by omega) (by omega)) rfl rfl
    · simp [bC_length] at h3
      conv => whnf
      exact pubDec (v := ⟨0, 0, bs []⟩) (n := 0) (by rw [decV, gk]; exact decW_no (by omega) (by omega) (by omega) (by omega) (by omega)) rfl rfl
  simp [ek] at h6
  conv => whnf
  exact pubDec (v := ⟨0, 0, bs []⟩) (n := 0) (by rw [decV, gk]; exact decW_no (by omega) (by omega) (by omega) (by omega) (by omega)) rfl rfl
theorem ref1_number_spec {P : Program} (F : F_warehouseref1_number P) (ex : Bool) (l : List Int) (hl : 4 ≤ l.length) (hby : Byt l) (H : List AObj) :
    ACalls P F.id [.list ex 1 (bC l)] H (fun r H' => r = .int .i64 (num (l.take 4)) ∧ H' = H) := by
  refine ACalls.pure rfl (acalls_of_body F.has ?_)
  match l, hl, hby with
  | a :: b :: c :: d :: r, _, hby =>
    have ha := hby a (by simp)
    have hb := hby b (by simp)
    have hc := hby c (by simp)
    have hd := hby d (by simp)
    repeat' ((conv => whnf); refine And.intro (by decide) ?_)
    conv => whnf
    refine pubI ?_
    show or64 (or64 (or64 (IntKind.i64.wrap (IntKind.i64.wrap a * 2 ^ 24)) (IntKind.i64.wrap (IntKind.i64.wrap b * 2 ^ 16))) (IntKind.i64.wrap (IntKind.i64.wrap c * 2 ^ 8))) (IntKind.i64.wrap d) = num [a, b, c, d]
    rw [wrapI a (by omega) (by omega), wrapI b (by omega) (by omega), wrapI c (by omega) (by omega), wrapI d (by omega) (by omega), wrapI (a * 2 ^ 24) (by omega) (by omega), wrapI (b * 2 ^ 16) (by omega) (by omega), wrapI (c * 2 ^ 8) (by omega) (by omega)]
    rw [or64_add a (b * 2 ^ 16) 24 (by omega) (by omega) (by omega) (by omega)]
    rw [show a * 2 ^ 24 + b * 2 ^ 16 = (a * 256 + b) * 2 ^ 16 by omega, or64_add _ (c * 2 ^ 8) 16 (by omega) (by omega) (by omega) (by omega)]
    rw [show (a * 256 + b) * 2 ^ 16 + c * 2 ^ 8 = ((a * 256 + b) * 256 + c) * 2 ^ 8 by omega, or64_add _ d 8 (by omega) (by omega) (by omega) (by omega)]
    simp only [num, List.foldl_cons, List.foldl_nil]
    omega

set_option maxRecDepth 20000 in
theorem ref1_decode_spec {P : Program} (F : F_warehouseref1_decode P) (ex : Bool) (l : List Int) (hby : Byt l) (hl : l.length ≤ 1000000) (H : List AObj) :
    ACalls P F.id [.list ex 1 (bC l)] H (fun r H' => r = .tuple [.agg (valC (decV l).1), .int .i64 (decV l).2] ∧ H' = H) := by
  refine ACalls.pure rfl (acalls_of_body F.has ?_)
  (conv => whnf); refine recA (fun h0 => ?_) (fun h0 => ?_)
  · simp [bC_length] at h0
    subst h0
    conv => whnf
    exact pubDec (v := ⟨0, 0, bs []⟩) (n := 0) rfl rfl rfl
  simp [bC_length] at h0
  have hpos := List.length_pos_iff.2 h0
  obtain ⟨k, hk, -, hkm⟩ := get_drop hpos
  have hkb := hby k hkm
  have ek : IntKind.i64.wrap k = k := wrapI k (by omega) (by omega)
  have gk := getD_of hk
  have hne : ¬ l.length = 0 := by omega
  conv => whnf
  refine And.intro (by decide) ?_
  (conv => whnf); refine recO (bC_at hk) ?_
  (conv => whnf); refine recA (fun h1 => ?_) (fun h1 => ?_)
  · simp [ek] at h1
    subst h1
    conv => whnf
    exact pubDec (v := ⟨0, 0, bs []⟩) (n := 1) (by rw [decV, gk]; exact decW_0 (by omega)) rfl rfl
  simp [ek] at h1
  (conv => whnf); refine recA (fun h2 => ?_) (fun h2 => ?_)
  · simp [ek] at h2
    subst h2
    (conv => whnf); refine recA (fun h3 => ?_) (fun h3 => ?_)
    · simp [bC_length] at h3
      obtain ⟨n, hn, -, hnm⟩ := get_drop (show 1 < l.length by omega)
      have hnb := hby n hnm
      conv => whnf
      refine And.intro (by decide) ?_
      (conv => whnf); refine recO (bC_at hn) ?_
      conv => whnf
      exact pubDec (v := ⟨1, n, bs []⟩) (n := 2) (by rw [decV, gk, getD_of hn]; exact decW_1 (by omega)) (by rw [wrapI n (by omega) (by omega)]; rfl) rfl
    · simp [bC_length] at h3
      conv => whnf
      exact pubDec (v := ⟨0, 0, bs []⟩) (n := 0) (by rw [decV, gk]; exact decW_no (by omega) (by omega) (by omega) (by omega) (by omega)) rfl rfl
  simp [ek] at h2
  (conv => whnf); refine recA (fun h4 => ?_) (fun h4 => ?_)
  · simp [ek] at h4
    subst h4
    (conv => whnf); refine recA (fun h3 => ?_) (fun h3 => ?_)
    · simp [bC_length] at h3
      have hb := num_bound ((l.take 5).drop 1) ((hby.take 5).drop 1) (by simp; omega)
      conv => whnf
      refine And.intro ⟨by decide, by simp [bC_length]; omega⟩ ?_
      conv => whnf
      refine ACalls.use (show ACalls _ _ [.list (ex && true) 1 (((bC l).take (bC l).length).drop 1)] _ (fun r H' => r = .int .i64 (num ((l.take 5).drop 1)) ∧ H' = _) from by rw [List.take_length, bC_drop, List.drop_take]; exact ref1_number_spec F.warehouseref1_number _ _ (by simp; omega) (hby.drop 1) _) ?_
      conv => whnf
      exact pubDec (v := ⟨2, num ((l.take 5).drop 1) - 1073741824, bs []⟩) (n := 5) (by rw [decV, gk]; exact decW_2 (by omega)) (by rw [wrapI (num ((l.take 5).drop 1) - 1073741824) (by omega) (by omega)]; rfl) rfl
    · simp [bC_length] at h3
      conv => whnf
      exact pubDec (v := ⟨0, 0, bs []⟩) (n := 0) (by rw [decV, gk]; exact decW_no (by omega) (by omega) (by omega) (by omega) (by omega)) rfl rfl
  simp [ek] at h4
  (conv => whnf); refine recA (fun h6 => ?_) (fun h6 => ?_)
  · simp [ek] at h6
    subst h6
    (conv => whnf); refine recA (fun h3 => ?_) (fun h3 => ?_)
    · simp [bC_length] at h3
      obtain ⟨n, hn, -, hnm⟩ := get_drop (show 1 < l.length by omega)
      have hnb := hby n hnm
      have en : IntKind.i64.wrap n = n := wrapI n (by omega) (by omega)
      have en2 : IntKind.i64.wrap (2 + n) = 2 + n := wrapI (2 + n) (by omega) (by omega)
      conv => whnf
      refine And.intro (by decide) ?_
      (conv => whnf); refine recO (bC_at hn) ?_
      (conv => whnf); refine recA (fun h7 => ?_) (fun h7 => ?_)
      · simp [bC_length, en, en2] at h7
        conv => whnf
        refine And.intro (by decide) ?_
        (conv => whnf); refine recO (bC_at hn) ?_
        conv => whnf
        refine And.intro ⟨by decide, by rw [en, en2]; omega, by rw [en, en2, bC_length]; omega⟩ ?_
        conv => whnf
        refine ⟨_, show bytesOf (((bC l).take (IntKind.i64.wrap (2 + IntKind.i64.wrap n)).toNat).drop 2) = _ from by rw [bC_take, bC_drop]; exact bytesOf_bC _, ?_⟩
        conv => whnf
        refine And.intro (by decide) ?_
        (conv => whnf); refine recO (bC_at hn) ?_
        conv => whnf
        refine And.intro (by (conv => whnf)) ?_
        conv => whnf
        refine And.intro (by (conv => whnf); refine And.intro (by decide) ?_; (conv => whnf); refine recO (bC_at hn) ?_; rfl) ?_
        conv => whnf
        exact pubDec (v := ⟨3, 0, strOf ((l.take (2 + n).toNat).drop 2)⟩) (n := 2 + n) (by rw [decV, gk, getD_of hn]; exact decW_3 (by omega) (by omega)) (by rw [en, en2]; rfl) (intEq (by rw [en, en2]))
      · simp [bC_length, en, en2] at h7
        conv => whnf
        exact pubDec (v := ⟨0, 0, bs []⟩) (n := 0) (by rw [decV, gk, getD_of hn]; exact decW_no (by omega) (by omega) (by omega) (by omega) (by omega)) rfl rfl
    · simp [bC_length] at h3
      conv => whnf
      exact pubDec (v := ⟨0, 0, bs []⟩) (n := 0) (by rw [decV, gk]; exact decW_no (by omega) (by omega) (by omega) (by omega) (by omega)) rfl rfl
  simp [ek] at h6
  (conv => whnf); refine recA (fun h5 => ?_) (fun h5 => ?_)
  · simp [ek] at h5
    subst h5
    (conv => whnf); refine recA (fun h3 => ?_) (fun h3 => ?_)
    · simp [bC_length] at h3
      have hb := num_bound ((l.take 5).drop 1) ((hby.take 5).drop 1) (by simp; omega)
      conv => whnf
      refine And.intro ⟨by decide, by simp [bC_length]; omega⟩ ?_
      conv => whnf
      refine ACalls.use (show ACalls _ _ [.list (ex && true) 1 (((bC l).take (bC l).length).drop 1)] _ (fun r H' => r = .int .i64 (num ((l.take 5).drop 1)) ∧ H' = _) from by rw [List.take_length, bC_drop, List.drop_take]; exact ref1_number_spec F.warehouseref1_number _ _ (by simp; omega) (hby.drop 1) _) ?_
      conv => whnf
      exact pubDec (v := ⟨4, num ((l.take 5).drop 1), bs []⟩) (n := 5) (by rw [decV, gk]; exact decW_4 (by omega)) rfl rfl
    · simp [bC_length] at h3
      conv => whnf
      exact pubDec (v := ⟨0, 0, bs []⟩) (n := 0) (by rw [decV, gk]; exact decW_no (by omega) (by omega) (by omega) (by omega) (by omega)) rfl rfl
  simp [ek] at h5
  conv => whnf
  exact pubDec (v := ⟨0, 0, bs []⟩) (n := 0) (by rw [decV, gk]; exact decW_no (by omega) (by omega) (by omega) (by omega) (by omega)) rfl rfl

theorem decW_used (l : List Int) (k n : Int) (hn : 0 ≤ n) : 0 ≤ (decW l k n).2 ∧ (decW l k n).2 ≤ l.length := by
  unfold decW
  split
  · simp
  split
  · simp; omega
  split
  · simp; omega
  split
  · simp; omega
  split
  · simp; omega
  split
  · simp; omega
  · simp
theorem decV_used (l : List Int) (hby : Byt l) : 0 ≤ (decV l).2 ∧ (decV l).2 ≤ l.length := by
  refine decW_used l _ _ ?_
  rw [List.getD_eq_getElem?_getD]
  cases h : l[1]? with
  | none => simp
  | some x => exact (hby x (List.mem_of_getElem? h)).1

/-- n values, and what is left. -/
def decN : Nat → List Int → Option (List V × List Int)
  | 0, l => some ([], l)
  | n + 1, l => if (decV l).2 = 0 ∨ validB (decV l).1 = false then none else match decN n (l.drop (decV l).2.toNat) with
    | some (rs, r) => some ((decV l).1 :: rs, r)
    | none => none

theorem decN_succ (n : Nat) (l : List Int) : decN (n + 1) l = if (decV l).2 = 0 ∨ validB (decV l).1 = false then none else match decN n (l.drop (decV l).2.toNat) with
    | some (rs, r) => some ((decV l).1 :: rs, r)
    | none => none := rfl

def decErr : AVal := .tuple [.nil, .int .i64 11]
/-- What Decode returns. -/
def decR (l : List Int) : AVal :=
  if l.length = 0 ∨ 12 < l.getD 0 0 then decErr else match decN (l.getD 0 0).toNat (l.drop 1) with
    | some (rs, []) => .tuple [.list false 3 (vC rs), .int .i64 0]
    | _ => decErr

theorem pubErr {H1 : List AObj} {m : Nat} {ids : List Nat} {a : AVal} (h : a = decErr) : Pub H1 m ids (.tuple [.nil, .int .i64 11]) a := by
  subst h; exact pub2 (.closed _ rfl) (.closed _ rfl)

set_option maxRecDepth 20000 in
theorem value_Decode_spec {P : Program} (F : F_value_Decode P) (ex : Bool) (l : List Int) (hby : Byt l) (hl : l.length ≤ 1000000) (H : List AObj) :
    ACalls P F.id [.list ex 1 (bC l)] H (fun r H' => r = decR l ∧ H' = H) := by
  refine ACalls.pure rfl (acalls_of_body F.has ?_)
  (conv => whnf); refine recA (fun h0 => ?_) (fun h0 => ?_)
  · simp [bC_length] at h0
    conv => whnf
    exact pubErr (by rw [decR, if_pos (.inl (by simp [h0]))])
  simp [bC_length] at h0
  have hpos := List.length_pos_iff.2 h0
  obtain ⟨n, hn, hd0, hnm⟩ := get_drop hpos
  rw [List.drop_zero] at hd0
  have hnb := hby n hnm
  have gn := getD_of hn
  conv => whnf
  refine And.intro (by decide) ?_
  (conv => whnf); refine recO (bC_at hn) ?_
  (conv => whnf); refine recA (fun h1 => ?_) (fun h1 => ?_)
  · simp at h1
    conv => whnf
    exact pubErr (by rw [decR, gn, if_pos (.inr h1)])
  simp at h1
  conv => whnf
  refine And.intro (by decide) ?_
  (conv => whnf); refine recO (bC_at hn) ?_
  conv => whnf
  refine And.intro ⟨by decide, by rw [bC_length]; omega⟩ ?_
  conv => whnf
  have hR : decR l = match decN n.toNat (l.drop 1) with
      | some (rs, []) => .tuple [.list false 3 (vC rs), .int .i64 0]
      | _ => decErr := by rw [decR, gn, if_neg (by omega)]
  refine ⟨fun m ρ H => ∃ (k : Nat) (rs : List V) (r : List Int) (x : Bool), k + m = n.toNat ∧ rs.length = k ∧ Byt r ∧ r.length ≤ l.length ∧
    (decN n.toNat (l.drop 1) = match decN m r with | some (rs2, r2) => some (rs ++ rs2, r2) | none => none) ∧ H = [.arr 3 (vC rs)] ∧
    Sv 50 [(0, .list x 1 (bC r)), (5, .sl 0 k 0 k), (23, .int .i64 n), (24, .int .i64 k)] ρ, n.toNat, [(5, 3)], ?_, ?_⟩
  · refine ⟨0, [], l.drop 1, ex && true, by omega, rfl, hby.drop 1, by simp, ?_, by rfl, Sv.intro rfl ⟨?_, rfl, intEq (wrapI n (by omega) (by omega)), rfl, trivial⟩⟩
    · cases decN n.toNat (l.drop 1) with
      | none => rfl
      | some p => rfl
    · show AVal.list (ex && true) 1 (((bC l).take (bC l).length).drop (Int.toNat 1)) = _
      rw [List.take_length, show Int.toNat 1 = 1 from rfl, bC_drop]
  rintro m ρ H ⟨k, rs, r, x, hk, hrs, hrb, hrl, hdec, rfl, d, rfl⟩
  (conv => whnf); refine recA (fun hlt => ?_) (fun hlt => ?_)
  · simp at hlt
    obtain ⟨m, rfl⟩ : ∃ j, m = j + 1 := ⟨m - 1, by omega⟩
    conv => whnf
    refine ACalls.use (value_decode_spec F.value_decode x r hrb (by omega) _) ?_
    have hu := decV_used r hrb
    (conv => whnf); refine recA (fun h2 => ?_) (fun h2 => ?_)
    · simp at h2
      conv => whnf
      rw [decN_succ, if_pos (.inl h2)] at hdec
      exact pubErr (by rw [hR, hdec])
    simp at h2
    conv => whnf
    refine ACalls.use (value_Valid_spec F.value_Valid (decV r).1 _) ?_
    (conv => whnf); refine recA (fun h3 => ?_) (fun h3 => ?_)
    · simp at h3
      conv => whnf
      rw [decN_succ, if_pos (.inr h3)] at hdec
      exact pubErr (by rw [hR, hdec])
    simp at h3
    rw [decN_succ, if_neg (by simp [h2, h3])] at hdec
    (conv => whnf); refine recT (by simp [vC_length, hrs]) ?_
    conv => whnf
    refine And.intro ⟨roomMul (by simp; omega) (by omega), roomB_le (by simp; omega), rfl, by simp [vC_length, hrs]⟩ ?_
    conv => whnf
    refine And.intro ⟨hu.1, by rw [bC_length]; omega⟩ ?_
    conv => whnf
    refine And.intro (by (conv => whnf); refine And.intro ⟨hu.1, by rw [bC_length]; omega⟩ ?_; (conv => whnf)) ?_
    conv => whnf
    have hkey : vC (rs ++ [(decV r).1]) = vC rs ++ [valC (decV r).1] := by rw [vC_append]; rfl
    have hlen : (vC rs ++ [valC (decV r).1]).length = k + 1 := by simp [vC_length, hrs]
    refine ⟨m, by omega, Gp.one 0 3 (vC (rs ++ [(decV r).1])) ?_ (pureEs_vC _) rfl ?_ fun ρ1 h => ⟨k + 1, rs ++ [(decV r).1], r.drop (decV r).2.toNat, x && true, by omega, by simp [hrs], hrb.drop _, by simp; omega, ?_, rfl, h⟩⟩
    · rw [hkey]; rfl
    · refine ⟨pubEq ?_ rfl, pubSl (k := 0) rfl rfl hlen hlen, .closed _ rfl, pub_int (wrapI ((k : Int) + 1) (by omega) (by omega)), trivial⟩
      show AVal.list (x && true) 1 (((bC r).take (bC r).length).drop (decV r).2.toNat) = _
      rw [List.take_length, bC_drop]
    · rw [hdec]
      cases decN m (r.drop (decV r).2.toNat) with
      | none => rfl
      | some p => simp
  · simp at hlt
    have : m = 0 := by omega
    subst this
    (conv => whnf); refine recA (fun h2 => ?_) (fun h2 => ?_)
    · simp [bC_length] at h2
      conv => whnf
      refine pubErr ?_
      rw [hR, hdec]
      match r, h2 with
      | _ :: _, _ => rfl
    · simp [bC_length] at h2
      conv => whnf
      rw [hR, hdec]
      have : r = [] := h2
      subst this
      simp only [decN, List.append_nil]
      exact pub2 (pubF rfl (by rw [vC_length, hrs]) (by rw [vC_length, hrs]) (pureEs_vC _)) (.closed _ rfl)

set_option maxRecDepth 20000 in
theorem ref1_Decode_spec {P : Program} (F : F_warehouseref1_Decode P) (ex : Bool) (l : List Int) (hby : Byt l) (hl : l.length ≤ 1000000) (H : List AObj) :
    ACalls P F.id [.list ex 1 (bC l)] H (fun r H' => r = decR l ∧ H' = H) := by
  refine ACalls.pure rfl (acalls_of_body F.has ?_)
  (conv => whnf); refine recA (fun h0 => ?_) (fun h0 => ?_)
  · simp [bC_length] at h0
    conv => whnf
    exact pubErr (by rw [decR, if_pos (.inl (by simp [h0]))])
  simp [bC_length] at h0
  have hpos := List.length_pos_iff.2 h0
  obtain ⟨n, hn, hd0, hnm⟩ := get_drop hpos
  rw [List.drop_zero] at hd0
  have hnb := hby n hnm
  have en : IntKind.i64.wrap n = n := wrapI n (by omega) (by omega)
  have gn := getD_of hn
  conv => whnf
  refine And.intro (by decide) ?_
  (conv => whnf); refine recO (bC_at hn) ?_
  (conv => whnf); refine recA (fun h1 => ?_) (fun h1 => ?_)
  · simp [en] at h1
    conv => whnf
    exact pubErr (by rw [decR, gn, if_pos (.inr h1)])
  simp [en] at h1
  conv => whnf
  have hR : decR l = match decN n.toNat (l.drop 1) with
      | some (rs, []) => .tuple [.list false 3 (vC rs), .int .i64 0]
      | _ => decErr := by rw [decR, gn, if_neg (by omega)]
  refine ⟨fun m ρ H => ∃ (k : Nat) (rs : List V) (q : Nat), k + m = n.toNat ∧ rs.length = k ∧ q ≤ l.length ∧
    (decN n.toNat (l.drop 1) = match decN m (l.drop q) with | some (rs2, r2) => some (rs ++ rs2, r2) | none => none) ∧ H = [.arr 3 (vC rs)] ∧
    Sv 53 [(0, .list ex 1 (bC l)), (4, .sl 0 k 0 k), (5, .int .i64 q), (6, .int .i64 k)] ρ, n.toNat, [(4, 3)], ?_, ?_⟩
  · refine ⟨0, [], 1, by omega, rfl, by omega, ?_, by rfl, Sv.intro rfl ⟨rfl, rfl, rfl, rfl, trivial⟩⟩
    cases decN n.toNat (l.drop 1) with
    | none => rfl
    | some p => rfl
  rintro m ρ H ⟨k, rs, q, hk, hrs, hq, hdec, rfl, d, rfl⟩
  have hrb : Byt (l.drop q) := hby.drop q
  conv => whnf
  refine And.intro (by decide) ?_
  (conv => whnf); refine recO (bC_at hn) ?_
  (conv => whnf); refine recA (fun hlt => ?_) (fun hlt => ?_)
  · simp [en] at hlt
    obtain ⟨m, rfl⟩ : ∃ j, m = j + 1 := ⟨m - 1, by omega⟩
    conv => whnf
    refine And.intro ⟨by omega, by rw [bC_length]; omega⟩ ?_
    conv => whnf
    refine ACalls.use (show ACalls _ _ [.list (ex && true) 1 (((bC l).take (bC l).length).drop q)] _ (fun r H' => r = .tuple [.agg (valC (decV (l.drop q)).1), .int .i64 (decV (l.drop q)).2] ∧ H' = _) from by rw [List.take_length, bC_drop]; exact ref1_decode_spec F.warehouseref1_decode _ _ hrb (by simp; omega) _) ?_
    have hu := decV_used (l.drop q) hrb
    rw [List.length_drop] at hu
    (conv => whnf); refine recA (fun h2 => ?_) (fun h2 => ?_)
    · simp at h2
      conv => whnf
      rw [decN_succ, if_pos (.inl h2)] at hdec
      exact pubErr (by rw [hR, hdec])
    simp at h2
    conv => whnf
    refine ACalls.use (ref1_Valid_spec F.warehouseref1_Valid (decV (l.drop q)).1 _) ?_
    (conv => whnf); refine recA (fun h3 => ?_) (fun h3 => ?_)
    · simp at h3
      conv => whnf
      rw [decN_succ, if_pos (.inr h3)] at hdec
      exact pubErr (by rw [hR, hdec])
    simp at h3
    rw [decN_succ, if_neg (by simp [h2, h3]), List.drop_drop] at hdec
    (conv => whnf); refine recT (by simp [vC_length, hrs]) ?_
    conv => whnf
    refine And.intro ⟨roomMul (by simp; omega) (by omega), roomB_le (by simp; omega), rfl, by simp [vC_length, hrs]⟩ ?_
    conv => whnf
    have hkey : vC (rs ++ [(decV (l.drop q)).1]) = vC rs ++ [valC (decV (l.drop q)).1] := by rw [vC_append]; rfl
    have hlen : (vC rs ++ [valC (decV (l.drop q)).1]).length = k + 1 := by simp [vC_length, hrs]
    refine ⟨m, by omega, Gp.one 0 3 (vC (rs ++ [(decV (l.drop q)).1])) ?_ (pureEs_vC _) rfl ?_ fun ρ1 h => ⟨k + 1, rs ++ [(decV (l.drop q)).1], q + (decV (l.drop q)).2.toNat, by omega, by simp [hrs], by omega, ?_, rfl, h⟩⟩
    · rw [hkey]; rfl
    · exact ⟨.closed _ rfl, pubSl (k := 0) rfl rfl hlen hlen, pub_int (by rw [wrapI (q + (decV (l.drop q)).2) (by omega) (by omega)]; omega), pub_int (wrapI ((k : Int) + 1) (by omega) (by omega)), trivial⟩
    · rw [hdec]
      cases decN m (l.drop (q + (decV (l.drop q)).2.toNat)) with
      | none => rfl
      | some p => simp
  · simp [en] at hlt
    have : m = 0 := by omega
    subst this
    (conv => whnf); refine recA (fun h2 => ?_) (fun h2 => ?_)
    · simp [bC_length] at h2
      conv => whnf
      refine pubErr ?_
      rw [hR, hdec]
      have hlt2 : q < l.length := by omega
      rw [List.drop_eq_getElem_cons hlt2]
      rfl
    · simp [bC_length] at h2
      conv => whnf
      rw [hR, hdec]
      have : l.drop q = [] := List.drop_eq_nil_of_le (by omega)
      rw [this]
      simp only [decN, List.append_nil]
      exact pub2 (pubF rfl (by rw [vC_length, hrs]) (by rw [vC_length, hrs]) (pureEs_vC _)) (.closed _ rfl)
end Go.AW
