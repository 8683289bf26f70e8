/-
  An abstract machine over the model, the code of functions on it, and their contracts: what the claim needs.
  No condition: definitions, plain laws, contracts over any program that has this code.
-/
import Derived.Test.YtiigcfeklofcaaaZ4
set_option linter.all false
namespace Go.AW
attribute [local irreducible] ACalls
def or64 (a b : Int) : Int := IntKind.i64.wrap (BitVec.ofInt IntKind.i64.bits a ||| BitVec.ofInt IntKind.i64.bits b).toNat

theorem or64_add (m y : Int) (k : Nat) (hm : 0 ≤ m) (hy : 0 ≤ y) (hyk : y < 2 ^ k) (hb : m * 2 ^ k + y < 2 ^ 62) : or64 (m * 2 ^ k) y = m * 2 ^ k + y := by
  obtain ⟨m, rfl⟩ := Int.eq_ofNat_of_zero_le hm
  obtain ⟨y, rfl⟩ := Int.eq_ofNat_of_zero_le hy
  have hyk' : y < 2 ^ k := by exact_mod_cast hyk
  have hb' : m * 2 ^ k + y < 2 ^ 62 := by exact_mod_cast hb
  show IntKind.i64.wrap ((BitVec.ofInt 64 ((m : Int) * 2 ^ k) ||| BitVec.ofInt 64 (y : Int)).toNat : Int) = _
  have e1 : ((m : Int) * 2 ^ k) = ((m * 2 ^ k : Nat) : Int) := by simp
  rw [e1, BitVec.ofInt_natCast, BitVec.ofInt_natCast, BitVec.toNat_or, BitVec.toNat_ofNat, BitVec.toNat_ofNat, Nat.mod_eq_of_lt (by omega), Nat.mod_eq_of_lt (by omega)]
  have h := Nat.shiftLeft_add_eq_or_of_lt hyk' m
  rw [Nat.shiftLeft_eq] at h
  rw [← h, wrapI _ (by omega) (by omega)]
  simp

def Byt (l : List Int) : Prop := ∀ x ∈ l, 0 ≤ x ∧ x ≤ 255

def num (l : List Int) : Int := l.foldl (fun n x => n * 256 + x) 0

theorem bC_at {l : List Int} {k : Nat} {x : Int} (h : l[k]? = some x) : (bC l)[k]? = some [.int .u8 x] := by
  rw [bC, List.getElem?_map, h]; rfl

set_option maxRecDepth 20000 in
theorem value_number_spec {P : Program} (F : F_value_number P) (ex : Bool) (l : List Int) (hl : l.length ≤ 6) (hby : Byt l) (H : List AObj) :
    ACalls P F.id [.list ex 1 (bC l)] H (fun r H' => r = .int .i64 (num l) ∧ H' = H) := by
  refine ACalls.pure rfl (acalls_of_body F.has ?_)
  conv => whnf
  refine ⟨fun n ρ H => ∃ (k : Nat) (acc : Int), k + n = l.length ∧ 0 ≤ acc ∧ acc < 256 ^ k ∧ (l.drop k).foldl (fun n x => n * 256 + x) acc = num l ∧ H = [] ∧
    Sv 19 [(3, .int .i64 acc), (6, .list ex 1 (bC l)), (7, .int .i64 l.length), (8, .int .i64 k)] ρ, l.length, [], ?_, ?_⟩
  · exact ⟨0, 0, by omega, by omega, by omega, rfl, rfl, Sv.intro rfl ⟨rfl, rfl, intEq (by rw [bC_length]), rfl, trivial⟩⟩
  rintro n ρ H ⟨k, acc, hk, h0, h1, hr, rfl, d, rfl⟩
  (conv => whnf); refine recA (fun hlt => ?_) (fun hlt => ?_)
  · simp at hlt
    obtain ⟨x, hx, hd, hmem⟩ := get_drop hlt
    have hxb := hby x hmem
    conv => whnf
    refine ⟨by omega, ?_⟩
    (conv => whnf); refine recO (bC_at hx) ?_
    (conv => whnf); refine ⟨by decide, ?_⟩
    conv => whnf
    have hp : (256 : Int) ^ k ≤ 256 ^ 5 := by
      have : (256 : Nat) ^ k ≤ 256 ^ 5 := Nat.pow_le_pow_right (by omega) (by omega)
      exact_mod_cast this
    have hp2 : (256 : Int) ^ (k + 1) = 256 ^ k * 256 := Int.pow_succ ..
    refine ⟨n - 1, by omega, Gp.keep rfl ?_ fun ρ1 h => ⟨k + 1, acc * 256 + x, by omega, by omega, by omega, ?_, rfl, h⟩⟩
    · refine ⟨intEq ?_, rfl, rfl, intEq (wrapI ((k : Int) + 1) (by omega) (by omega)), trivial⟩
      show or64 (IntKind.i64.wrap (acc * 2 ^ 8)) (IntKind.i64.wrap x) = _
      rw [wrapI _ (by omega) (by omega), wrapI x (by omega) (by omega), or64_add acc x 8 h0 hxb.1 (by omega) (by omega)]
      omega
    · rw [← hr, hd]; rfl
  · simp at hlt
    conv => whnf
    rw [List.drop_eq_nil_of_le hlt] at hr
    exact pubI hr

def strOf (l : List Int) : ByteArray := ⟨(l.map fun n => UInt8.ofNat n.toNat).toArray⟩

theorem bytesOf_bC : ∀ (l : List Int), bytesOf (bC l) = some (l.map fun n => UInt8.ofNat n.toNat)
  | [] => rfl
  | x :: l => by
    show (bytesOf (bC l)).map (UInt8.ofNat x.toNat :: ·) = _
    rw [bytesOf_bC l]; rfl

theorem bC_drop (l : List Int) (k : Nat) : (bC l).drop k = bC (l.drop k) := by simp [bC, List.map_drop]

theorem bC_take (l : List Int) (k : Nat) : (bC l).take k = bC (l.take k) := by simp [bC, List.map_take]

def decW (l : List Int) (k n : Int) : V × Int :=
  if l.length = 0 then (⟨0, 0, bs []⟩, 0)
  else if k = 0 then (⟨0, 0, bs []⟩, 1)
  else if k = 1 ∧ 2 ≤ l.length then (⟨1, n, bs []⟩, 2)
  else if k = 2 ∧ 5 ≤ l.length then (⟨2, num ((l.take 5).drop 1) - 1073741824, bs []⟩, 5)
  else if k = 4 ∧ 5 ≤ l.length then (⟨4, num ((l.take 5).drop 1), bs []⟩, 5)
  else if k = 3 ∧ 2 ≤ l.length ∧ 2 + n ≤ l.length then (⟨3, 0, strOf ((l.take (2 + n).toNat).drop 2)⟩, 2 + n)
  else (⟨0, 0, bs []⟩, 0)

def decV (l : List Int) : V × Int := decW l (l.getD 0 0) (l.getD 1 0)

theorem decW_0 {l : List Int} {n : Int} (h : 1 ≤ l.length) : decW l 0 n = (⟨0, 0, bs []⟩, 1) := by
  unfold decW; rw [if_neg (by omega), if_pos (Eq.refl (0 : Int))]

theorem decW_1 {l : List Int} {n : Int} (h : 2 ≤ l.length) : decW l 1 n = (⟨1, n, bs []⟩, 2) := by
  unfold decW; rw [if_neg (by omega), if_neg (by omega), if_pos ⟨Eq.refl (1 : Int), h⟩]

theorem decW_2 {l : List Int} {n : Int} (h : 5 ≤ l.length) : decW l 2 n = (⟨2, num ((l.take 5).drop 1) - 1073741824, bs []⟩, 5) := by
  unfold decW; rw [if_neg (by omega), if_neg (by omega), if_neg (by omega), if_pos ⟨Eq.refl (2 : Int), h⟩]

theorem decW_4 {l : List Int} {n : Int} (h : 5 ≤ l.length) : decW l 4 n = (⟨4, num ((l.take 5).drop 1), bs []⟩, 5) := by
  unfold decW; rw [if_neg (by omega), if_neg (by omega), if_neg (by omega), if_neg (by omega), if_pos ⟨Eq.refl (4 : Int), h⟩]

theorem decW_3 {l : List Int} {n : Int} (h : 2 ≤ l.length) (h2 : 2 + n ≤ l.length) : decW l 3 n = (⟨3, 0, strOf ((l.take (2 + n).toNat).drop 2)⟩, 2 + n) := by
  unfold decW; rw [if_neg (by omega), if_neg (by omega), if_neg (by omega), if_neg (by omega), if_neg (by omega), if_pos ⟨Eq.refl (3 : Int), h, h2⟩]

theorem decW_no {l : List Int} {k n : Int} (h0 : k ≠ 0) (h1 : ¬ (k = 1 ∧ 2 ≤ l.length)) (h2 : ¬ (k = 2 ∧ 5 ≤ l.length)) (h4 : ¬ (k = 4 ∧ 5 ≤ l.length)) (h3 : ¬ (k = 3 ∧ 2 ≤ l.length ∧ 2 + n ≤ l.length)) : decW l k n = (⟨0, 0, bs []⟩, 0) := by
  unfold decW
  by_cases h : l.length = 0
  · rw [if_pos h]
  · rw [if_neg h, if_neg h0, if_neg h1, if_neg h2, if_neg h4, if_neg h3]

theorem getD_of {l : List Int} {k : Nat} {x : Int} (h : l[k]? = some x) : l.getD k 0 = x := by rw [List.getD_eq_getElem?_getD, h]; rfl

theorem num_bound (l : List Int) (hby : Byt l) (hl : l.length ≤ 4) : 0 ≤ num l ∧ num l ≤ 4294967295 := by
  match l, hl, hby with
  | [], _, _ => decide
  | [a], _, h => have := h a (by simp); simp [num]; omega
  | [a, b], _, h => have := h a (by simp); have := h b (by simp); simp [num]; omega
  | [a, b, c], _, h => have := h a (by simp); have := h b (by simp); have := h c (by simp); simp [num]; omega
  | [a, b, c, d], _, h => have := h a (by simp); have := h b (by simp); have := h c (by simp); have := h d (by simp); simp [num]; omega

theorem Byt.sub {l m : List Int} (h : Byt l) (hm : ∀ x ∈ m, x ∈ l) : Byt m := fun x hx => h x (hm x hx)

theorem Byt.drop {l : List Int} (h : Byt l) (k : Nat) : Byt (l.drop k) := h.sub fun _ hx => List.mem_of_mem_drop hx

theorem Byt.take {l : List Int} (h : Byt l) (k : Nat) : Byt (l.take k) := h.sub fun _ hx => List.mem_of_mem_take hx

theorem pubDec {H1 : List AObj} {m : Nat} {ids : List Nat} {v : V} {n : Int} {l : List Int} {a b c : AVal} {e : AVal} (h : decV l = (v, n)) (ha : [a, b, c] = valC v) (he : e = .int .i64 n) :
    Pub H1 m ids (.tuple [.agg [a, b, c], e]) (.tuple [.agg (valC (decV l).1), .int .i64 (decV l).2]) := by
  rw [h, he, ha]
  exact pub2 (.closed _ rfl) (.closed _ rfl)

set_option maxRecDepth 20000 in
theorem value_decode_spec {P : Program} (F : F_value_decode P) (ex : Bool) (l : List Int) (hby : Byt l) (hl : l.length ≤ 1000000) (H : List AObj) :
    ACalls P F.id [.list ex 1 (bC l)] H (fun r H' => r = .tuple [.agg (valC (decV l).1), .int .i64 (decV l).2] ∧ H' = H) := by
  refine ACalls.pure rfl (acalls_of_body F.has ?_)
  (conv => whnf); refine recA (fun h0 => ?_) (fun h0 => ?_)
  · simp [bC_length] at h0
    subst h0
    conv => whnf
    exact pubDec (v := ⟨0, 0, bs []⟩) (n := 0) rfl rfl rfl
  simp [bC_length] at h0
  have hpos := List.length_pos_iff.2 h0
  obtain ⟨k, hk, -, hkm⟩ := get_drop hpos
  have hkb := hby k hkm
  have ek : IntKind.i64.wrap k = k := wrapI k (by omega) (by omega)
  have gk := getD_of hk
  have hne : ¬ l.length = 0 := by omega
  conv => whnf
  refine And.intro (by decide) ?_
  (conv => whnf); refine recO (bC_at hk) ?_
  (conv => whnf); refine recA (fun h1 => ?_) (fun h1 => ?_)
  · simp [ek] at h1
    subst h1
    conv => whnf
    exact pubDec (v := ⟨0, 0, bs []⟩) (n := 1) (by rw [decV, gk]; exact decW_0 (by omega)) rfl rfl
  simp [ek] at h1
  (conv => whnf); refine recA (fun h2 => ?_) (fun h2 => ?_)
  · simp [ek] at h2
    subst h2
    (conv => whnf); refine recA (fun h3 => ?_) (fun h3 => ?_)
    · simp [bC_length] at h3
      obtain ⟨n, hn, -, hnm⟩ := get_drop (show 1 < l.length by omega)
      have hnb := hby n hnm
      conv => whnf
      refine And.intro (by decide) ?_
      (conv => whnf); refine recO (bC_at hn) ?_
      conv => whnf
      exact pubDec (v := ⟨1, n, bs []⟩) (n := 2) (by rw [decV, gk, getD_of hn]; exact decW_1 (by omega)) (by rw [wrapI n (by omega) (by omega)]; rfl) rfl
    · simp [bC_length] at h3
      conv => whnf
      exact pubDec (v := ⟨0, 0, bs []⟩) (n := 0) (by rw [decV, gk]; exact decW_no (by omega) (by omega) (by omega) (by omega) (by omega)) rfl rfl
  simp [ek] at h2
  (conv => whnf); refine recA (fun h4 => ?_) (fun h4 => ?_)
  · simp [ek] at h4
    subst h4
    (conv => whnf); refine recA (fun h3 => ?_) (fun h3 => ?_)
    · simp [bC_length] at h3
      have hb := num_bound ((l.take 5).drop 1) ((hby.take 5).drop 1) (by simp; omega)
      conv => whnf
      refine And.intro ⟨by decide, by decide, by simp [bC_length]; omega⟩ ?_
      conv => whnf
      refine ACalls.use (show ACalls _ _ [.list (ex && false) 1 (((bC l).take 5).drop 1)] _ _ from by rw [bC_take, bC_drop]; exact value_number_spec F.value_number _ _ (by simp; omega) ((hby.take 5).drop 1) _) ?_
      conv => whnf
      exact pubDec (v := ⟨2, num ((l.take 5).drop 1) - 1073741824, bs []⟩) (n := 5) (by rw [decV, gk]; exact decW_2 (by omega)) (by rw [wrapI (num ((l.take 5).drop 1) - 1073741824) (by omega) (by omega)]; rfl) rfl
    · simp [bC_length] at h3
      conv => whnf
      exact pubDec (v := ⟨0, 0, bs []⟩) (n := 0) (by rw [decV, gk]; exact decW_no (by omega) (by omega) (by omega) (by omega) (by omega)) rfl rfl
  simp [ek] at h4
  (conv => whnf); refine recA (fun h5 => ?_) (fun h5 => ?_)
  · simp [ek] at h5
    subst h5
    (conv => whnf); refine recA (fun h3 => ?_) (fun h3 => ?_)
    · simp [bC_length] at h3
      have hb := num_bound ((l.take 5).drop 1) ((hby.take 5).drop 1) (by simp; omega)
      conv => whnf
      refine And.intro ⟨by decide, by decide, by simp [bC_length]; omega⟩ ?_
      conv => whnf
      refine ACalls.use (show ACalls _ _ [.list (ex && false) 1 (((bC l).take 5).drop 1)] _ _ from by rw [bC_take, bC_drop]; exact value_number_spec F.value_number _ _ (by simp; omega) ((hby.take 5).drop 1) _) ?_
      conv => whnf
      exact pubDec (v := ⟨4, num ((l.take 5).drop 1), bs []⟩) (n := 5) (by rw [decV, gk]; exact decW_4 (by omega)) rfl rfl
    · simp [bC_length] at h3
      conv => whnf
      exact pubDec (v := ⟨0, 0, bs []⟩) (n := 0) (by rw [decV, gk]; exact decW_no (by omega) (by omega) (by omega) (by omega) (by omega)) rfl rfl
  simp [ek] at h5
  (conv => whnf); refine recA (fun h6 => ?_) (fun h6 => ?_)
  · simp [ek] at h6
    subst h6
    (conv => whnf); refine recA (fun h3 => ?_) (fun h3 => ?_)
    · simp [bC_length] at h3
      obtain ⟨n, hn, -, hnm⟩ := get_drop (show 1 < l.length by omega)
      have hnb := hby n hnm
      have en : IntKind.i64.wrap n = n := wrapI n (by omega) (by omega)
      have en2 : IntKind.i64.wrap (2 + n) = 2 + n := wrapI (2 + n) (by omega) (by omega)
      conv => whnf
      refine And.intro (by decide) ?_
      (conv => whnf); refine recO (bC_at hn) ?_
      (conv => whnf); refine recA (fun h7 => ?_) (fun h7 => ?_)
      · simp [bC_length, en, en2] at h7
        conv => whnf
        refine And.intro (by decide) ?_
        (conv => whnf); refine recO (bC_at hn) ?_
        conv => whnf
        refine And.intro ⟨by decide, by rw [en, en2]; omega, by rw [en, en2, bC_length]; omega⟩ ?_
        conv => whnf
        refine ⟨_, show bytesOf (((bC l).take (IntKind.i64.wrap (2 + IntKind.i64.wrap n)).toNat).drop 2) = _ from by rw [bC_take, bC_drop]; exact bytesOf_bC _, ?_⟩
        conv => whnf
        refine And.intro (by decide) ?_
        (conv => whnf); refine recO (bC_at hn) ?_
        conv => whnf
        refine And.intro (by (conv => whnf)) ?_
        conv => whnf
        refine And.intro (by (conv => whnf); refine And.intro (by decide) ?_; (conv => whnf); refine recO (bC_at hn) ?_; rfl) ?_
        conv => whnf
        exact pubDec (v := ⟨3, 0, strOf ((l.take (2 + n).toNat).drop 2)⟩) (n := 2 + n) (by rw [decV, gk, getD_of hn]; exact decW_3 (by omega) (by omega)) (by rw [en, en2]; rfl) (intEq (by rw [en, en2]))
      · simp [bC_length, en, en2] at h7
        conv => whnf
        exact pubDec (v := ⟨0, 0, bs []⟩) (n := 0) (by rw [decV, gk, getD_of hn]; exact decW_no (by omega) (by omega) (by omega) (by omega) (by omega)) rfl rfl
    · simp [bC_length] at h3
      conv => whnf
      exact pubDec (v := ⟨0, 0, bs []⟩) (n := 0) (by rw [decV, gk]; exact decW_no (by omega) (by omega) (by omega) (by omega) (by omega)) rfl rfl
  simp [ek] at h6
  conv => whnf
  exact pubDec (v := ⟨0, 0, bs []⟩) (n := 0) (by rw [decV, gk]; exact decW_no (by omega) (by omega) (by omega) (by omega) (by omega)) rfl rfl

theorem ref1_number_spec {P : Program} (F : F_warehouseref1_number P) (ex : Bool) (l : List Int) (hl : 4 ≤ l.length) (hby : Byt l) (H : List AObj) :
    ACalls P F.id [.list ex 1 (bC l)] H (fun r H' => r = .int .i64 (num (l.take 4)) ∧ H' = H) := by
  refine ACalls.pure rfl (acalls_of_body F.has ?_)
  match l, hl, hby with
  | a :: b :: c :: d :: r, _, hby =>
    have ha := hby a (by simp)
    have hb := hby b (by simp)
    have hc := hby c (by simp)
    have hd := hby d (by simp)
    repeat' ((conv => whnf); refine And.intro (by decide) ?_)
    conv => whnf
    refine pubI ?_
    show or64 (or64 (or64 (IntKind.i64.wrap (IntKind.i64.wrap a * 2 ^ 24)) (IntKind.i64.wrap (IntKind.i64.wrap b * 2 ^ 16))) (IntKind.i64.wrap (IntKind.i64.wrap c * 2 ^ 8))) (IntKind.i64.wrap d) = num [a, b, c, d]
    rw [wrapI a (by omega) (by omega), wrapI b (by omega) (by omega), wrapI c (by omega) (by omega), wrapI d (by omega) (by omega), wrapI (a * 2 ^ 24) (by omega) (by omega), wrapI (b * 2 ^ 16) (by omega) (by omega), wrapI (c * 2 ^ 8) (by omega) (by omega)]
    rw [or64_add a (b * 2 ^ 16) 24 (by omega) (by omega) (by omega) (by omega)]
    rw [show a * 2 ^ 24 + b * 2 ^ 16 = (a * 256 + b) * 2 ^ 16 by omega, or64_add _ (c * 2 ^ 8) 16 (by omega) (by omega) (by omega) (by omega)]
    rw [show (a * 256 + b) * 2 ^ 16 + c * 2 ^ 8 = ((a * 256 + b) * 256 + c) * 2 ^ 8 by omega, or64_add _ d 8 (by omega) (by omega) (by omega) (by omega)]
    simp only [num, List.foldl_cons, List.foldl_nil]
    omega

set_option maxRecDepth 20000 in
theorem ref1_decode_spec {P : Program} (F : F_warehouseref1_decode P) (ex : Bool) (l : List Int) (hby : Byt l) (hl : l.length ≤ 1000000) (H : List AObj) :
    ACalls P F.id [.list ex 1 (bC l)] H (fun r H' => r = .tuple [.agg (valC (decV l).1), .int .i64 (decV l).2] ∧ H' = H) := by
  refine ACalls.pure rfl (acalls_of_body F.has ?_)
  (conv => whnf); refine recA (fun h0 => ?_) (fun h0 => ?_)
  · simp [bC_length] at h0
    subst h0
    conv => whnf
    exact pubDec (v := ⟨0, 0, bs []⟩) (n := 0) rfl rfl rfl
  simp [bC_length] at h0
  have hpos := List.length_pos_iff.2 h0
  obtain ⟨k, hk, -, hkm⟩ := get_drop hpos
  have hkb := hby k hkm
  have ek : IntKind.i64.wrap k = k := wrapI k (by omega) (by omega)
  have gk := getD_of hk
  have hne : ¬ l.length = 0 := by omega
  conv => whnf
  refine And.intro (by decide) ?_
  (conv => whnf); refine recO (bC_at hk) ?_
  (conv => whnf); refine recA (fun h1 => ?_) (fun h1 => ?_)
  · simp [ek] at h1
    subst h1
    conv => whnf
    exact pubDec (v := ⟨0, 0, bs []⟩) (n := 1) (by rw [decV, gk]; exact decW_0 (by omega)) rfl rfl
  simp [ek] at h1
  (conv => whnf); refine recA (fun h2 => ?_) (fun h2 => ?_)
  · simp [ek] at h2
    subst h2
    (conv => whnf); refine recA (fun h3 => ?_) (fun h3 => ?_)
    · simp [bC_length] at h3
      obtain ⟨n, hn, -, hnm⟩ := get_drop (show 1 < l.length by omega)
      have hnb := hby n hnm
      conv => whnf
      refine And.intro (by decide) ?_
      (conv => whnf); refine recO (bC_at hn) ?_
      conv => whnf
      exact pubDec (v := ⟨1, n, bs []⟩) (n := 2) (by rw [decV, gk, getD_of hn]; exact decW_1 (by omega)) (by rw [wrapI n (by omega) (by omega)]; rfl) rfl
    · simp [bC_length] at h3
      conv => whnf
      exact pubDec (v := ⟨0, 0, bs []⟩) (n := 0) (by rw [decV, gk]; exact decW_no (by omega) (by omega) (by omega) (by omega) (by omega)) rfl rfl
  simp [ek] at h2
  (conv => whnf); refine recA (fun h4 => ?_) (fun h4 => ?_)
  · simp [ek] at h4
    subst h4
    (conv => whnf); refine recA (fun h3 => ?_) (fun h3 => ?_)
    · simp [bC_length] at h3
      have hb := num_bound ((l.take 5).drop 1) ((hby.take 5).drop 1) (by simp; omega)
      conv => whnf
      refine And.intro ⟨by decide, by simp [bC_length]; omega⟩ ?_
      conv => whnf
      refine ACalls.use (show ACalls _ _ [.list (ex && true) 1 (((bC l).take (bC l).length).drop 1)] _ (fun r H' => r = .int .i64 (num ((l.take 5).drop 1)) ∧ H' = _) from by rw [List.take_length, bC_drop, List.drop_take]; exact ref1_number_spec F.warehouseref1_number _ _ (by simp; omega) (hby.drop 1) _) ?_
      conv => whnf
      exact pubDec (v := ⟨2, num ((l.take 5).drop 1) - 1073741824, bs []⟩) (n := 5) (by rw [decV, gk]; exact decW_2 (by omega)) (by rw [wrapI (num ((l.take 5).drop 1) - 1073741824) (by omega) (by omega)]; rfl) rfl
    · simp [bC_length] at h3
      conv => whnf
      exact pubDec (v := ⟨0, 0, bs []⟩) (n := 0) (by rw [decV, gk]; exact decW_no (by omega) (by omega) (by omega) (by omega) (by omega)) rfl rfl
  simp [ek] at h4
  (conv => whnf); refine recA (fun h6 => ?_) (fun h6 => ?_)
  · simp [ek] at h6
    subst h6
    (conv => whnf); refine recA (fun h3 => ?_) (fun h3 => ?_)
    · simp [bC_length] at h3
      obtain ⟨n, hn, -, hnm⟩ := get_drop (show 1 < l.length by omega)
      have hnb := hby n hnm
      have en : IntKind.i64.wrap n = n := wrapI n (by omega) (by omega)
      have en2 : IntKind.i64.wrap (2 + n) = 2 + n := wrapI (2 + n) (by omega) (by omega)
      conv => whnf
      refine And.intro (by decide) ?_
      (conv => whnf); refine recO (bC_at hn) ?_
      (conv => whnf); refine recA (fun h7 => ?_) (fun h7 => ?_)
      · simp [bC_length, en, en2] at h7
        conv => whnf
        refine And.intro (by decide) ?_
        (conv => whnf); refine recO (bC_at hn) ?_
        conv => whnf
        refine And.intro ⟨by decide, by rw [en, en2]; omega, by rw [en, en2, bC_length]; omega⟩ ?_
        conv => whnf
        refine ⟨_, show bytesOf (((bC l).take (IntKind.i64.wrap (2 + IntKind.i64.wrap n)).toNat).drop 2) = _ from by rw [bC_take, bC_drop]; exact bytesOf_bC _, ?_⟩
        conv => whnf
        refine And.intro (by decide) ?_
        (conv => whnf); refine recO (bC_at hn) ?_
        conv => whnf
        refine And.intro (by (conv => whnf)) ?_
        conv => whnf
        refine And.intro (by (conv => whnf); refine And.intro (by decide) ?_; (conv => whnf); refine recO (bC_at hn) ?_; rfl) ?_
        conv => whnf
        exact pubDec (v := ⟨3, 0, strOf ((l.take (2 + n).toNat).drop 2)⟩) (n := 2 + n) (by rw [decV, gk, getD_of hn]; exact decW_3 (by omega) (by omega)) (by rw [en, en2]; rfl) (intEq (by rw [en, en2]))
      · simp [bC_length, en, en2] at h7
        conv => whnf
        exact pubDec (v := ⟨0, 0, bs []⟩) (n := 0) (by rw [decV, gk, getD_of hn]; exact decW_no (by omega) (by omega) (by omega) (by omega) (by omega)) rfl rfl
    · simp [bC_length] at h3
      conv => whnf
      exact pubDec (v := ⟨0, 0, bs []⟩) (n := 0) (by rw [decV, gk]; exact decW_no (by omega) (by omega) (by omega) (by omega) (by omega)) rfl rfl
  simp [ek] at h6
  (conv => whnf); refine recA (fun h5 => ?_) (fun h5 => ?_)
  · simp [ek] at h5
    subst h5
    (conv => whnf); refine recA (fun h3 => ?_) (fun h3 => ?_)
    · simp [bC_length] at h3
      have hb := num_bound ((l.take 5).drop 1) ((hby.take 5).drop 1) (by simp; omega)
      conv => whnf
      refine And.intro ⟨by decide, by simp [bC_length]; omega⟩ ?_
      conv => whnf
      refine ACalls.use (show ACalls _ _ [.list (ex && true) 1 (((bC l).take (bC l).length).drop 1)] _ (fun r H' => r = .int .i64 (num ((l.take 5).drop 1)) ∧ H' = _) from by rw [List.take_length, bC_drop, List.drop_take]; exact ref1_number_spec F.warehouseref1_number _ _ (by simp; omega) (hby.drop 1) _) ?_
      conv => whnf
      exact pubDec (v := ⟨4, num ((l.take 5).drop 1), bs []⟩) (n := 5) (by rw [decV, gk]; exact decW_4 (by omega)) rfl rfl
    · simp [bC_length] at h3
      conv => whnf
      exact pubDec (v := ⟨0, 0, bs []⟩) (n := 0) (by rw [decV, gk]; exact decW_no (by omega) (by omega) (by omega) (by omega) (by omega)) rfl rfl
  simp [ek] at h5
  conv => whnf
  exact pubDec (v := ⟨0, 0, bs []⟩) (n := 0) (by rw [decV, gk]; exact decW_no (by omega) (by omega) (by omega) (by omega) (by omega)) rfl rfl

theorem decW_used (l : List Int) (k n : Int) (hn : 0 ≤ n) : 0 ≤ (decW l k n).2 ∧ (decW l k n).2 ≤ l.length := by
  unfold decW
  split
  · simp
  split
  · simp; omega
  split
  · simp; omega
  split
  · simp; omega
  split
  · simp; omega
  split
  · simp; omega
  · simp

theorem decV_used (l : List Int) (hby : Byt l) : 0 ≤ (decV l).2 ∧ (decV l).2 ≤ l.length := by
  refine decW_used l _ _ ?_
  rw [List.getD_eq_getElem?_getD]
  cases h : l[1]? with
  | none => simp
  | some x => exact (hby x (List.mem_of_getElem? h)).1

def decN : Nat → List Int → Option (List V × List Int)
  | 0, l => some ([], l)
  | n + 1, l => if (decV l).2 = 0 ∨ validB (decV l).1 = false then none else match decN n (l.drop (decV l).2.toNat) with
    | some (rs, r) => some ((decV l).1 :: rs, r)
    | none => none

theorem decN_succ (n : Nat) (l : List Int) : decN (n + 1) l = if (decV l).2 = 0 ∨ validB (decV l).1 = false then none else match decN n (l.drop (decV l).2.toNat) with
    | some (rs, r) => some ((decV l).1 :: rs, r)
    | none => none := rfl

def decErr : AVal := .tuple [.nil, .int .i64 11]

def decR (l : List Int) : AVal :=
  if l.length = 0 ∨ 12 < l.getD 0 0 then decErr else match decN (l.getD 0 0).toNat (l.drop 1) with
    | some (rs, []) => .tuple [.list false 3 (vC rs), .int .i64 0]
    | _ => decErr

theorem pubErr {H1 : List AObj} {m : Nat} {ids : List Nat} {a : AVal} (h : a = decErr) : Pub H1 m ids (.tuple [.nil, .int .i64 11]) a := by
  subst h; exact pub2 (.closed _ rfl) (.closed _ rfl)

set_option maxRecDepth 20000 in
theorem value_Decode_spec {P : Program} (F : F_value_Decode P) (ex : Bool) (l : List Int) (hby : Byt l) (hl : l.length ≤ 1000000) (H : List AObj) :
    ACalls P F.id [.list ex 1 (bC l)] H (fun r H' => r = decR l ∧ H' = H) := by
  refine ACalls.pure rfl (acalls_of_body F.has ?_)
  (conv => whnf); refine recA (fun h0 => ?_) (fun h0 => ?_)
  · simp [bC_length] at h0
    conv => whnf
    exact pubErr (by rw [decR, if_pos (.inl (by simp [h0]))])
  simp [bC_length] at h0
  have hpos := List.length_pos_iff.2 h0
  obtain ⟨n, hn, hd0, hnm⟩ := get_drop hpos
  rw [List.drop_zero] at hd0
  have hnb := hby n hnm
  have gn := getD_of hn
  conv => whnf
  refine And.intro (by decide) ?_
  (conv => whnf); refine recO (bC_at hn) ?_
  (conv => whnf); refine recA (fun h1 => ?_) (fun h1 => ?_)
  · simp at h1
    conv => whnf
    exact pubErr (by rw [decR, gn, if_pos (.inr h1)])
  simp at h1
  conv => whnf
  refine And.intro (by decide) ?_
  (conv => whnf); refine recO (bC_at hn) ?_
  conv => whnf
  refine And.intro ⟨by decide, by rw [bC_length]; omega⟩ ?_
  conv => whnf
  have hR : decR l = match decN n.toNat (l.drop 1) with
      | some (rs, []) => .tuple [.list false 3 (vC rs), .int .i64 0]
      | _ => decErr := by rw [decR, gn, if_neg (by omega)]
  refine ⟨fun m ρ H => ∃ (k : Nat) (rs : List V) (r : List Int) (x : Bool), k + m = n.toNat ∧ rs.length = k ∧ Byt r ∧ r.length ≤ l.length ∧
    (decN n.toNat (l.drop 1) = match decN m r with | some (rs2, r2) => some (rs ++ rs2, r2) | none => none) ∧ H = [.arr 3 (vC rs)] ∧
    Sv 50 [(0, .list x 1 (bC r)), (5, .sl 0 k 0 k), (23, .int .i64 n), (24, .int .i64 k)] ρ, n.toNat, [(5, 3)], ?_, ?_⟩
  · refine ⟨0, [], l.drop 1, ex && true, by omega, rfl, hby.drop 1, by simp, ?_, by rfl, Sv.intro rfl ⟨?_, rfl, intEq (wrapI n (by omega) (by omega)), rfl, trivial⟩⟩
    · cases decN n.toNat (l.drop 1) with
      | none => rfl
      | some p => rfl
    · show AVal.list (ex && true) 1 (((bC l).take (bC l).length).drop (Int.toNat 1)) = _
      rw [List.take_length, show Int.toNat 1 = 1 from rfl, bC_drop]
  rintro m ρ H ⟨k, rs, r, x, hk, hrs, hrb, hrl, hdec, rfl, d, rfl⟩
  (conv => whnf); refine recA (fun hlt => ?_) (fun hlt => ?_)
  · simp at hlt
    obtain ⟨m, rfl⟩ : ∃ j, m = j + 1 := ⟨m - 1, by omega⟩
    conv => whnf
    refine ACalls.use (value_decode_spec F.value_decode x r hrb (by omega) _) ?_
    have hu := decV_used r hrb
    (conv => whnf); refine recA (fun h2 => ?_) (fun h2 => ?_)
    · simp at h2
      conv => whnf
      rw [decN_succ, if_pos (.inl h2)] at hdec
      exact pubErr (by rw [hR, hdec])
    simp at h2
    conv => whnf
    refine ACalls.use (value_Valid_spec F.value_Valid (decV r).1 _) ?_
    (conv => whnf); refine recA (fun h3 => ?_) (fun h3 => ?_)
    · simp at h3
      conv => whnf
      rw [decN_succ, if_pos (.inr h3)] at hdec
      exact pubErr (by rw [hR, hdec])
    simp at h3
    rw [decN_succ, if_neg (by simp [h2, h3])] at hdec
    (conv => whnf); refine recT (by simp [vC_length, hrs]) ?_
    conv => whnf
    refine And.intro ⟨roomMul (by simp; omega) (by omega), roomB_le (by simp; omega), rfl, by simp [vC_length, hrs]⟩ ?_
    conv => whnf
    refine And.intro ⟨hu.1, by rw [bC_length]; omega⟩ ?_
    conv => whnf
    refine And.intro (by (conv => whnf); refine And.intro ⟨hu.1, by rw [bC_length]; omega⟩ ?_; (conv => whnf)) ?_
    conv => whnf
    have hkey : vC (rs ++ [(decV r).1]) = vC rs ++ [valC (decV r).1] := by rw [vC_append]; rfl
    have hlen : (vC rs ++ [valC (decV r).1]).length = k + 1 := by simp [vC_length, hrs]
    refine ⟨m, by omega, Gp.one 0 3 (vC (rs ++ [(decV r).1])) ?_ (pureEs_vC _) rfl ?_ fun ρ1 h => ⟨k + 1, rs ++ [(decV r).1], r.drop (decV r).2.toNat, x && true, by omega, by simp [hrs], hrb.drop _, by simp; omega, ?_, rfl, h⟩⟩
    · rw [hkey]; rfl
    · refine ⟨pubEq ?_ rfl, pubSl (k := 0) rfl rfl hlen hlen, .closed _ rfl, pub_int (wrapI ((k : Int) + 1) (by omega) (by omega)), trivial⟩
      show AVal.list (x && true) 1 (((bC r).take (bC r).length).drop (decV r).2.toNat) = _
      rw [List.take_length, bC_drop]
    · rw [hdec]
      cases decN m (r.drop (decV r).2.toNat) with
      | none => rfl
      | some p => simp
  · simp at hlt
    have : m = 0 := by omega
    subst this
    (conv => whnf); refine recA (fun h2 => ?_) (fun h2 => ?_)
    · simp [bC_length] at h2
      conv => whnf
      refine pubErr ?_
      rw [hR, hdec]
      match r, h2 with
      | _ :: _, _ => rfl
    · simp [bC_length] at h2
      conv => whnf
      rw [hR, hdec]
      have : r = [] := h2
      subst this
      simp only [decN, List.append_nil]
      exact pub2 (pubF rfl (by rw [vC_length, hrs]) (by rw [vC_length, hrs]) (pureEs_vC _)) (.closed _ rfl)

set_option maxRecDepth 20000 in
theorem ref1_Decode_spec {P : Program} (F : F_warehouseref1_Decode P) (ex : Bool) (l : List Int) (hby : Byt l) (hl : l.length ≤ 1000000) (H : List AObj) :
    ACalls P F.id [.list ex 1 (bC l)] H (fun r H' => r = decR l ∧ H' = H) := by
  refine ACalls.pure rfl (acalls_of_body F.has ?_)
  (conv => whnf); refine recA (fun h0 => ?_) (fun h0 => ?_)
  · simp [bC_length] at h0
    conv => whnf
    exact pubErr (by rw [decR, if_pos (.inl (by simp [h0]))])
  simp [bC_length] at h0
  have hpos := List.length_pos_iff.2 h0
  obtain ⟨n, hn, hd0, hnm⟩ := get_drop hpos
  rw [List.drop_zero] at hd0
  have hnb := hby n hnm
  have en : IntKind.i64.wrap n = n := wrapI n (by omega) (by omega)
  have gn := getD_of hn
  conv => whnf
  refine And.intro (by decide) ?_
  (conv => whnf); refine recO (bC_at hn) ?_
  (conv => whnf); refine recA (fun h1 => ?_) (fun h1 => ?_)
  · simp [en] at h1
    conv => whnf
    exact pubErr (by rw [decR, gn, if_pos (.inr h1)])
  simp [en] at h1
  conv => whnf
  have hR : decR l = match decN n.toNat (l.drop 1) with
      | some (rs, []) => .tuple [.list false 3 (vC rs), .int .i64 0]
      | _ => decErr := by rw [decR, gn, if_neg (by omega)]
  refine ⟨fun m ρ H => ∃ (k : Nat) (rs : List V) (q : Nat), k + m = n.toNat ∧ rs.length = k ∧ q ≤ l.length ∧
    (decN n.toNat (l.drop 1) = match decN m (l.drop q) with | some (rs2, r2) => some (rs ++ rs2, r2) | none => none) ∧ H = [.arr 3 (vC rs)] ∧
    Sv 53 [(0, .list ex 1 (bC l)), (4, .sl 0 k 0 k), (5, .int .i64 q), (6, .int .i64 k)] ρ, n.toNat, [(4, 3)], ?_, ?_⟩
  · refine ⟨0, [], 1, by omega, rfl, by omega, ?_, by rfl, Sv.intro rfl ⟨rfl, rfl, rfl, rfl, trivial⟩⟩
    cases decN n.toNat (l.drop 1) with
    | none => rfl
    | some p => rfl
  rintro m ρ H ⟨k, rs, q, hk, hrs, hq, hdec, rfl, d, rfl⟩
  have hrb : Byt (l.drop q) := hby.drop q
  conv => whnf
  refine And.intro (by decide) ?_
  (conv => whnf); refine recO (bC_at hn) ?_
  (conv => whnf); refine recA (fun hlt => ?_) (fun hlt => ?_)
  · simp [en] at hlt
    obtain ⟨m, rfl⟩ : ∃ j, m = j + 1 := ⟨m - 1, by omega⟩
    conv => whnf
    refine And.intro ⟨by omega, by rw [bC_length]; omega⟩ ?_
    conv => whnf
    refine ACalls.use (show ACalls _ _ [.list (ex && true) 1 (((bC l).take (bC l).length).drop q)] _ (fun r H' => r = .tuple [.agg (valC (decV (l.drop q)).1), .int .i64 (decV (l.drop q)).2] ∧ H' = _) from by rw [List.take_length, bC_drop]; exact ref1_decode_spec F.warehouseref1_decode _ _ hrb (by simp; omega) _) ?_
    have hu := decV_used (l.drop q) hrb
    rw [List.length_drop] at hu
    (conv => whnf); refine recA (fun h2 => ?_) (fun h2 => ?_)
    · simp at h2
      conv => whnf
      rw [decN_succ, if_pos (.inl h2)] at hdec
      exact pubErr (by rw [hR, hdec])
    simp at h2
    conv => whnf
    refine ACalls.use (ref1_Valid_spec F.warehouseref1_Valid (decV (l.drop q)).1 _) ?_
    (conv => whnf); refine recA (fun h3 => ?_) (fun h3 => ?_)
    · simp at h3
      conv => whnf
      rw [decN_succ, if_pos (.inr h3)] at hdec
      exact pubErr (by rw [hR, hdec])
    simp at h3
    rw [decN_succ, if_neg (by simp [h2, h3]), List.drop_drop] at hdec
    (conv => whnf); refine recT (by simp [vC_length, hrs]) ?_
    conv => whnf
    refine And.intro ⟨roomMul (by simp; omega) (by omega), roomB_le (by simp; omega), rfl, by simp [vC_length, hrs]⟩ ?_
    conv => whnf
    have hkey : vC (rs ++ [(decV (l.drop q)).1]) = vC rs ++ [valC (decV (l.drop q)).1] := by rw [vC_append]; rfl
    have hlen : (vC rs ++ [valC (decV (l.drop q)).1]).length = k + 1 := by simp [vC_length, hrs]
    refine ⟨m, by omega, Gp.one 0 3 (vC (rs ++ [(decV (l.drop q)).1])) ?_ (pureEs_vC _) rfl ?_ fun ρ1 h => ⟨k + 1, rs ++ [(decV (l.drop q)).1], q + (decV (l.drop q)).2.toNat, by omega, by simp [hrs], by omega, ?_, rfl, h⟩⟩
    · rw [hkey]; rfl
    · exact ⟨.closed _ rfl, pubSl (k := 0) rfl rfl hlen hlen, pub_int (by rw [wrapI (q + (decV (l.drop q)).2) (by omega) (by omega)]; omega), pub_int (wrapI ((k : Int) + 1) (by omega) (by omega)), trivial⟩
    · rw [hdec]
      cases decN m (l.drop (q + (decV (l.drop q)).2.toNat)) with
      | none => rfl
      | some p => simp
  · simp [en] at hlt
    have : m = 0 := by omega
    subst this
    (conv => whnf); refine recA (fun h2 => ?_) (fun h2 => ?_)
    · simp [bC_length] at h2
      conv => whnf
      refine pubErr ?_
      rw [hR, hdec]
      have hlt2 : q < l.length := by omega
      rw [List.drop_eq_getElem_cons hlt2]
      rfl
    · simp [bC_length] at h2
      conv => whnf
      rw [hR, hdec]
      have : l.drop q = [] := List.drop_eq_nil_of_le (by omega)
      rw [this]
      simp only [decN, List.append_nil]
      exact pub2 (pubF rfl (by rw [vC_length, hrs]) (by rw [vC_length, hrs]) (pureEs_vC _)) (.closed _ rfl)

end Go.AW

namespace Go.AW
attribute [local irreducible] ACalls
theorem bl_irrefl : ∀ (a : List UInt8), Op.bytesLess a a = false
  | [] => rfl
  | x :: a => by simp [Op.bytesLess, bl_irrefl a]

theorem bl_tri : ∀ (a b : List UInt8), Op.bytesLess a b = true ∨ a = b ∨ Op.bytesLess b a = true
  | [], [] => .inr (.inl rfl)
  | [], _ :: _ => .inl rfl
  | _ :: _, [] => .inr (.inr rfl)
  | x :: a, y :: b => by
    simp only [Op.bytesLess, Bool.or_eq_true, decide_eq_true_eq, Bool.and_eq_true, beq_iff_eq, List.cons.injEq]
    rcases (show x < y ∨ x = y ∨ y < x from by rcases Nat.lt_trichotomy x.toNat y.toNat with h | h | h; exact .inl h; exact .inr (.inl (UInt8.toNat_inj.1 h)); exact .inr (.inr h)) with h | h | h
    · exact .inl (.inl h)
    · subst h
      rcases bl_tri a b with h | h | h
      · exact .inl (.inr ⟨rfl, h⟩)
      · exact .inr (.inl ⟨rfl, h⟩)
      · exact .inr (.inr (.inr ⟨rfl, h⟩))
    · exact .inr (.inr (.inl h))

theorem bl_trans : ∀ (a b c : List UInt8), Op.bytesLess a b = true → Op.bytesLess b c = true → Op.bytesLess a c = true
  | _, [], _, h, _ => by cases ‹List UInt8› <;> simp [Op.bytesLess] at h
  | _, _ :: _, [], _, h => by simp [Op.bytesLess] at h
  | [], _ :: _, _ :: _, _, _ => rfl
  | x :: a, y :: b, z :: c, h1, h2 => by
    simp only [Op.bytesLess, Bool.or_eq_true, decide_eq_true_eq, Bool.and_eq_true, beq_iff_eq] at *
    rcases h1 with h1 | ⟨rfl, h1⟩
    · rcases h2 with h2 | ⟨rfl, h2⟩
      · exact .inl (UInt8.lt_trans h1 h2)
      · exact .inl h1
    · rcases h2 with h2 | ⟨rfl, h2⟩
      · exact .inl h2
      · exact .inr ⟨rfl, bl_trans a b c h1 h2⟩

structure IsCmp {α : Type} (c : α → α → Int) : Prop where
  vals : ∀ a b, c a b = -1 ∨ c a b = 0 ∨ c a b = 1
  anti : ∀ a b, c b a = - c a b
  zero : ∀ a b, c a b = 0 ↔ a = b
  trans : ∀ a b d, c a b < 0 → c b d < 0 → c a d < 0

theorem IsCmp.ltle {α : Type} {c : α → α → Int} (h : IsCmp c) {a b d : α} (h1 : c a b < 0) (h2 : c b d ≤ 0) : c a d < 0 := by
  by_cases e : c b d = 0
  · rw [← (h.zero b d).1 e]; exact h1
  · exact h.trans a b d h1 (by omega)

theorem IsCmp.le {α : Type} {c : α → α → Int} (h : IsCmp c) {a b d : α} (h1 : c a b ≤ 0) (h2 : c b d ≤ 0) : c a d ≤ 0 := by
  by_cases e : c a b = 0
  · rw [(h.zero a b).1 e]; exact h2
  · have := h.ltle (a := a) (by omega) h2; omega

theorem isCmp_int : IsCmp cmpI := by
  refine ⟨fun a b => ?_, fun a b => ?_, fun a b => ?_, fun a b d => ?_⟩ <;> unfold cmpI <;> (repeat' split) <;> omega

theorem isCmp_str : IsCmp cmpS := by
  have asym : ∀ a b, Op.bytesLess a b = true → Op.bytesLess b a = true → False := fun a b h1 h2 => by
    have := bl_trans a b a h1 h2
    rw [bl_irrefl] at this; cases this
  refine ⟨fun a b => ?_, fun a b => ?_, fun a b => ?_, fun a b d => ?_⟩
  · unfold cmpS; split
    · simp
    · split <;> simp
  · unfold cmpS
    rcases bl_tri a b with h | h | h
    · have hb : Op.bytesLess b a = false := by cases hb : Op.bytesLess b a with | false => rfl | true => exact (asym a b h hb).elim
      have hne : ¬ b = a := by rintro rfl; rw [bl_irrefl] at h; cases h
      simp [h, hb, hne]
    · subst h; simp [bl_irrefl]
    · have hb : Op.bytesLess a b = false := by cases hb : Op.bytesLess a b with | false => rfl | true => exact (asym a b hb h).elim
      have hne : ¬ a = b := by rintro rfl; rw [bl_irrefl] at h; cases h
      simp [h, hb, hne]
  · unfold cmpS
    split
    · rename_i h
      refine ⟨fun h => by omega, ?_⟩
      rintro rfl
      rw [bl_irrefl] at h; cases h
    · split <;> simp [*]
  · unfold cmpS
    intro h1 h2
    have e1 : Op.bytesLess a b = true := by
      revert h1
      split
      · intro _; assumption
      · split <;> intro h <;> omega
    have e2 : Op.bytesLess b d = true := by
      revert h2
      split
      · intro _; assumption
      · split <;> intro h <;> omega
    rw [if_pos (bl_trans a b d e1 e2)]; omega

theorem isCmp_val : IsCmp valCmp := by
  have I := isCmp_int
  have S := isCmp_str
  refine ⟨fun a b => ?_, fun a b => ?_, fun a b => ?_, fun a b d => ?_⟩
  · have := I.vals a.kind b.kind; have := I.vals a.num b.num; have := S.vals a.str.data.toList b.str.data.toList
    simp only [valCmp, orI]; (repeat' split) <;> omega
  · have := I.anti a.kind b.kind; have := I.anti a.num b.num; have := S.anti a.str.data.toList b.str.data.toList
    simp only [valCmp, orI]; (repeat' split) <;> omega
  · have h1 := I.zero a.kind b.kind; have h2 := I.zero a.num b.num; have h3 := S.zero a.str.data.toList b.str.data.toList
    constructor
    · intro h
      simp only [valCmp, orI] at h
      have e1 : cmpI a.kind b.kind = 0 := by revert h; (repeat' split) <;> omega
      have e2 : cmpI a.num b.num = 0 := by revert h; (repeat' split) <;> omega
      have e3 : cmpS a.str.data.toList b.str.data.toList = 0 := by revert h; (repeat' split) <;> omega
      obtain ⟨ak, an, ⟨⟨as⟩⟩⟩ := a
      obtain ⟨bk, bn, ⟨⟨bl⟩⟩⟩ := b
      have q1 := h1.1 e1; have q2 := h2.1 e2; have q3 := h3.1 e3
      simp only at q1 q2 q3
      subst q1 q2 q3; rfl
    · rintro rfl
      simp only [valCmp, orI]
      rw [if_pos (h1.2 rfl), if_pos (h2.2 rfl), if_pos (h3.2 rfl)]
  · intro h1 h2
    have a1 := I.trans a.kind b.kind d.kind; have a2 := I.trans a.num b.num d.num; have a3 := S.trans a.str.data.toList b.str.data.toList d.str.data.toList
    have v1 := I.vals a.kind b.kind; have v2 := I.vals b.kind d.kind; have v3 := I.vals a.num b.num; have v4 := I.vals b.num d.num
    have z1 := I.zero a.kind b.kind; have z2 := I.zero b.kind d.kind; have z3 := I.zero a.num b.num; have z4 := I.zero b.num d.num
    have z5 := I.zero a.kind d.kind; have z6 := I.zero a.num d.num
    simp only [valCmp, orI] at *
    by_cases k1 : a.kind = b.kind <;> by_cases k2 : b.kind = d.kind <;> by_cases n1 : a.num = b.num <;> by_cases n2 : b.num = d.num <;> simp_all <;> (repeat' split) <;> omega

end Go.AW

namespace Go.AW
attribute [local irreducible] ACalls
def letterB (b : UInt8) : Bool := decide (97 ≤ b.toNat ∧ b.toNat ≤ 122)

def restB (b : UInt8) : Bool := decide (97 ≤ b.toNat ∧ b.toNat ≤ 122 ∨ 48 ≤ b.toNat ∧ b.toNat ≤ 57 ∨ b.toNat = 95)

def nameL : List UInt8 → Bool
  | [] => false
  | b :: r => letterB b && r.all restB

def nameB (s : ByteArray) : Bool := decide (s.size ≤ 24) && nameL s.data.toList

theorem get!_of {s : ByteArray} {p : Nat} {b : UInt8} (h : s.data.toList[p]? = some b) : s.get! p = b := by
  obtain ⟨⟨l⟩⟩ := s
  simp at h
  simp [ByteArray.get!, h]

theorem decode_ascii {s : ByteArray} {p : Nat} {b : UInt8} (h : s.data.toList[p]? = some b) (hb : b.toNat < 128) : Utf8.decode s p = (b.toNat, 1) := by
  unfold Utf8.decode
  simp only [Nat.add_zero, get!_of h]
  rw [if_pos hb]

theorem decode_big {s : ByteArray} {p : Nat} {b : UInt8} (h : s.data.toList[p]? = some b) (hb : ¬ b.toNat < 128) : 128 ≤ (Utf8.decode s p).1 := by
  unfold Utf8.decode
  simp only [Nat.add_zero, get!_of h]
  rw [if_neg hb]
  (repeat' split) <;> simp only [Utf8.runeError, Bool.and_eq_true, decide_eq_true_eq] at * <;> omega

theorem str_get {s : ByteArray} {p : Nat} (h : p < s.size) : ∃ b, s.data.toList[p]? = some b ∧ s.data.toList.drop p = b :: s.data.toList.drop (p + 1) := by
  have hl : p < s.data.toList.length := by simpa using h
  exact ⟨_, List.getElem?_eq_getElem hl, List.drop_eq_getElem_cons hl⟩

set_option maxRecDepth 20000 in
theorem schema_IsName_spec {P : Program} (F : F_schema_IsName P) (s : ByteArray) (H : List AObj) :
    ACalls P F.id [.str s] H (fun r H' => r = .bool (nameB s) ∧ H' = H) := by
  refine ACalls.pure rfl (acalls_of_body F.has ?_)
  (conv => whnf); refine recA (fun h0 => ?_) (fun h0 => ?_)
  · simp at h0
    conv => whnf
    exact pubB (by simp [nameB]; omega)
  simp at h0
  conv => whnf
  refine ⟨fun m ρ H => ∃ p : Nat, p + m = s.size ∧ (0 < p → nameB s = (s.data.toList.drop p).all restB) ∧ H = [.iter s p] ∧ Sv 41 [(0, .str s), (10, .it 0)] ρ, s.size, [], ?_, ?_⟩
  · exact ⟨0, by omega, by omega, rfl, Sv.intro rfl ⟨rfl, rfl, trivial⟩⟩
  rintro m ρ H ⟨p, hp, hr, rfl, d, rfl⟩
  (conv => whnf); refine recA (fun hlt => ?_) (fun hlt => ?_)
  · simp at hlt
    obtain ⟨b, hb, hd⟩ := str_get hlt
    
    have h0n : p = 0 → nameB s = (letterB b && (s.data.toList.drop (p + 1)).all restB) := by
      rintro rfl
      rw [List.drop_zero] at hd
      have : nameL s.data.toList = (letterB b && (s.data.toList.drop (0 + 1)).all restB) := by
        conv => lhs; rw [hd]
        rfl
      rw [nameB, this, decide_eq_true (by omega), Bool.true_and]
    have hno : (if p = 0 then letterB b else restB b) = false → nameB s = false := by
      intro h
      by_cases h1 : p = 0
      · rw [if_pos h1] at h
        rw [h0n h1, h]; rfl
      · rw [if_neg h1] at h
        rw [hr (by omega), hd, List.all_cons, h]; rfl
    have hyes : (if p = 0 then letterB b else restB b) = true → nameB s = (s.data.toList.drop (p + 1)).all restB := by
      intro h
      by_cases h1 : p = 0
      · rw [if_pos h1] at h
        rw [h0n h1, h]; rfl
      · rw [if_neg h1] at h
        rw [hr (by omega), hd, List.all_cons, h]; rfl
    by_cases hb1 : b.toNat < 128
    · have hdec := decode_ascii hb hb1
      have e1 : ((Utf8.decode s p).1 : Int) = b.toNat := by rw [hdec]
      have e2 : p + (Utf8.decode s p).2 = p + 1 := by rw [hdec]
      repeat' ((conv => whnf); refine recA (fun h => ?_) (fun h => ?_))
      all_goals conv => whnf
      all_goals first
        | refine ⟨m - 1, by omega, Gp.keep rfl ?_ fun ρ1 h => ⟨p + 1, by omega, fun _ => hyes ?_, by rw [e2], h⟩⟩
        | refine pubB (hno ?_).symm
      all_goals first
        | exact ⟨rfl, rfl, trivial⟩
        | skip
      all_goals
        (simp only [e1] at *)
        clear hno hyes h0n hr hd
        by_cases hp0 : p = 0 <;> simp [letterB, restB, hp0] at * <;> omega
    · have hdec := decode_big hb hb1
      have hn1 : letterB b = false := by simp [letterB]; omega
      have hn2 : restB b = false := by simp [restB]; omega
      have hz : nameB s = false := hno (by split; exact hn1; exact hn2)
      repeat' ((conv => whnf); refine recA (fun h => ?_) (fun h => ?_))
      all_goals conv => whnf
      all_goals first
        | exact pubB hz.symm
        | (exfalso; simp at *; omega)
  · have hlt2 : ¬ p < s.size := of_decide_eq_false hlt
    have hl0 : s.data.toList.length = s.size := by simp
    conv => whnf
    refine pubB ?_
    show (!(s.data.toList == [])) = _
    by_cases h1 : p = 0
    · have : s.data.toList = [] := List.eq_nil_of_length_eq_zero (by omega)
      simp [nameB, this, nameL]
    · rw [hr (by omega), List.drop_eq_nil_of_le (by omega)]
      cases hs : s.data.toList with
      | nil => rw [hs] at hl0; simp at hl0; omega
      | cons b r => rfl

theorem str_at {s : ByteArray} {p : Nat} {b : UInt8} {q : Nat} (h : s.data.toList[p]? = some b) (hq : q = p) : s.data.toList[q]? = some b := by subst hq; exact h

set_option maxRecDepth 20000 in
theorem ref5_IsName_spec {P : Program} (F : F_warehouseref5_IsName P) (s : ByteArray) (H : List AObj) :
    ACalls P F.id [.str s] H (fun r H' => r = .bool (nameB s) ∧ H' = H) := by
  refine ACalls.pure rfl (acalls_of_body F.has ?_)
  have hl0 : s.data.toList.length = s.size := by simp
  (conv => whnf); refine recA (fun h0 => ?_) (fun h0 => ?_)
  · have h0 := of_decide_eq_true h0
    conv => whnf
    have : s.data.toList = [] := List.eq_nil_of_length_eq_zero (by omega)
    exact pubB (by simp [nameB, this, nameL])
  have h0 := of_decide_eq_false h0
  (conv => whnf); refine recA (fun h1 => ?_) (fun h1 => ?_)
  · have h1 := of_decide_eq_true h1
    conv => whnf
    exact pubB (by rw [nameB, decide_eq_false (by omega)]; rfl)
  have h1 := of_decide_eq_false h1
  obtain ⟨a, ha, hd0⟩ := str_get (show 0 < s.size by omega)
  have hn : nameB s = (letterB a && (s.data.toList.drop 1).all restB) := by
    rw [List.drop_zero] at hd0
    have : nameL s.data.toList = (letterB a && (s.data.toList.drop (0 + 1)).all restB) := by
      conv => lhs; rw [hd0]
      rfl
    rw [nameB, this, decide_eq_true (by omega), Bool.true_and]
  conv => whnf
  refine And.intro (by decide) ?_
  (conv => whnf); refine recO ha ?_
  (conv => whnf); refine recA (fun h2 => ?_) (fun h2 => ?_)
  · have h2 := of_decide_eq_true h2
    conv => whnf
    exact pubB (by rw [hn]; simp [letterB]; omega)
  have h2 := of_decide_eq_false h2
  conv => whnf
  refine And.intro (by decide) ?_
  (conv => whnf); refine recO ha ?_
  (conv => whnf); refine recA (fun h3 => ?_) (fun h3 => ?_)
  · have h3 := of_decide_eq_true h3
    conv => whnf
    exact pubB (by rw [hn]; simp [letterB]; omega)
  have h3 := of_decide_eq_false h3
  have hla : letterB a = true := by simp [letterB]; omega
  have hra : restB a = true := by simp [restB]; omega
  have hn2 : nameB s = s.data.toList.all restB := by
    rw [hn, hla, Bool.true_and]
    rw [List.drop_zero] at hd0
    conv => rhs; rw [hd0, List.all_cons, hra, Bool.true_and]
  conv => whnf
  refine ⟨fun m ρ H => ∃ k : Nat, k + m = s.size ∧ nameB s = (s.data.toList.drop k).all restB ∧ H = [] ∧ Sv 58 [(0, .str s), (3, .int .i64 k)] ρ, s.size, [], ?_, ?_⟩
  · exact ⟨0, by omega, hn2, rfl, Sv.intro rfl ⟨rfl, rfl, trivial⟩⟩
  rintro m ρ H ⟨k, hk, hr, rfl, d, rfl⟩
  (conv => whnf); refine recA (fun hlt => ?_) (fun hlt => ?_)
  · simp at hlt
    obtain ⟨b, hb, hd⟩ := str_get hlt
    rw [hd, List.all_cons] at hr
    repeat' ((conv => whnf); first | refine And.intro (by omega) ?_ | refine recO (str_at hb (by rfl)) ?_ | refine recA (fun h => ?_) (fun h => ?_))
    all_goals conv => whnf
    all_goals first
      | refine ⟨m - 1, by omega, Gp.keep rfl ?_ fun ρ1 h => ⟨k + 1, by omega, ?_, rfl, h⟩⟩
      | refine pubB ?_
    all_goals first
      | exact ⟨rfl, intEq (wrapI ((k : Int) + 1) (by omega) (by omega)), trivial⟩
      | skip
    all_goals
      rw [hr]
      have hx : restB b = true ∨ restB b = false := by cases restB b <;> simp
      rcases hx with hx | hx <;> rw [hx] <;> (first | rfl | (exfalso; simp [restB] at *; omega))
  · have hlt2 : ¬ (k : Int) < s.size := of_decide_eq_false hlt
    conv => whnf
    rw [List.drop_eq_nil_of_le (by omega)] at hr
    exact pubB hr.symm

end Go.AW

namespace Go.AW
attribute [local irreducible] ACalls
open Go.Lib (indexByte)
theorem ib_at : ∀ {l : List UInt8} {c : UInt8} {i : Nat}, l[i]? = some c → (∀ j, j < i → l[j]? ≠ some c) → indexByte l c = i
  | [], _, _, h, _ => by simp at h
  | b :: l, c, 0, h, _ => by simp at h; subst h; simp [indexByte]
  | b :: l, c, i + 1, h, hb => by
    have h0 := hb 0 (by omega)
    simp at h0
    have := ib_at (l := l) (i := i) (by simpa using h) fun j hj => by have := hb (j + 1) (by omega); simpa using this
    simp only [indexByte, this, beq_iff_eq, h0, if_false]
    rw [if_neg (by omega)]
    rfl

theorem ib_none : ∀ {l : List UInt8} {c : UInt8}, (∀ j : Nat, l[j]? ≠ some c) → indexByte l c = -1
  | [], _, _ => rfl
  | b :: l, c, h => by
    have h0 := h 0
    simp at h0
    have := ib_none (l := l) fun j => by have := h (j + 1); simpa using this
    simp [indexByte, this, h0]

theorem ib_cases : ∀ (l : List UInt8) (c : UInt8), indexByte l c = -1 ∨ ∃ i : Nat, indexByte l c = i ∧ i < l.length
  | [], _ => .inl rfl
  | b :: l, c => by
    simp only [indexByte]
    split
    · exact .inr ⟨0, rfl, by simp⟩
    · rcases ib_cases l c with h | ⟨i, h, hl⟩
      · rw [if_pos (by simp [h])]; exact .inl rfl
      · rw [if_neg (by simp [h]), h]; exact .inr ⟨i + 1, by omega, by simpa using hl⟩

def dotAt (s : ByteArray) : Int := indexByte s.data.toList 46

def qualB (s : ByteArray) : Bool :=
  if 0 ≤ dotAt s then nameB (s.extract 0 (dotAt s).toNat) && nameB (s.extract (dotAt s + 1).toNat s.size) else nameB s

set_option maxRecDepth 20000 in
theorem ref5_IsQualified_spec {P : Program} (F : F_warehouseref5_IsQualified P) (s : ByteArray) (hs : s.size ≤ 1000000) (H : List AObj) :
    ACalls P F.id [.str s] H (fun r H' => r = .bool (qualB s) ∧ H' = H) := by
  refine ACalls.pure rfl (acalls_of_body F.has ?_)
  conv => whnf
  refine ⟨fun m ρ H => ∃ k : Nat, k + m = s.size ∧ (∀ j, j < k → s.data.toList[j]? ≠ some 46) ∧ H = [] ∧ Sv 27 [(0, .str s), (3, .int .i64 k)] ρ, s.size, [], ?_, ?_⟩
  · exact ⟨0, by omega, by omega, rfl, Sv.intro rfl ⟨rfl, rfl, trivial⟩⟩
  rintro m ρ H ⟨k, hk, hr, rfl, d, rfl⟩
  (conv => whnf); refine recA (fun hlt => ?_) (fun hlt => ?_)
  · simp at hlt
    obtain ⟨b, hb, hd⟩ := str_get hlt
    conv => whnf
    refine And.intro (by omega) ?_
    (conv => whnf); refine recO (str_at hb (by rfl)) ?_
    (conv => whnf); refine recA (fun h => ?_) (fun hne => ?_)
    · have hbe : b = 46 := by
        have h : (b.toNat : Int) = 46 := by simpa using h
        apply UInt8.toNat_inj.1
        show b.toNat = 46
        omega
      subst hbe
      have hdot : dotAt s = k := ib_at hb hr
      have e1 : IntKind.i64.wrap ((k : Int) + 1) = k + 1 := wrapI _ (by omega) (by omega)
      conv => whnf
      refine And.intro (by omega) ?_
      (conv => whnf); refine ACalls.use (ref5_IsName_spec F.warehouseref5_IsName _ _) ?_
      (conv => whnf); refine recA (fun h1 => ?_) (fun h1 => ?_)
      · conv => whnf
        refine And.intro (by rw [e1]; omega) ?_
        (conv => whnf); refine ACalls.use (ref5_IsName_spec F.warehouseref5_IsName _ _) ?_
        conv => whnf
        refine pubB ?_
        replace h1 : nameB (s.extract 0 (k : Int).toNat) = true := h1
        rw [qualB, hdot, if_pos (by omega), h1, Bool.true_and]
        show nameB (s.extract (IntKind.i64.wrap ((k : Int) + 1)).toNat s.size) = _
        rw [e1]
      · conv => whnf
        refine pubB ?_
        replace h1 : nameB (s.extract 0 (k : Int).toNat) = false := h1
        rw [qualB, hdot, if_pos (by omega), h1]; rfl
    · conv => whnf
      refine ⟨m - 1, by omega, Gp.keep rfl ?_ fun ρ1 h => ⟨k + 1, by omega, fun j hj => ?_, rfl, h⟩⟩
      · exact ⟨rfl, intEq (wrapI ((k : Int) + 1) (by omega) (by omega)), trivial⟩
      · rcases Nat.lt_succ_iff_lt_or_eq.1 hj with h1 | rfl
        · exact hr j h1
        · rw [hb]
          intro h2
          cases h2
          exact absurd hne (by decide)
  · have hlt2 : ¬ (k : Int) < s.size := of_decide_eq_false hlt
    conv => whnf
    refine ACalls.use (ref5_IsName_spec F.warehouseref5_IsName _ _) ?_
    conv => whnf
    refine pubB ?_
    have : dotAt s = -1 := ib_none fun j => by
      by_cases hj : j < k
      · exact hr j hj
      · rw [List.getElem?_eq_none (by simp; omega)]; simp
    rw [qualB, this, if_neg (by omega)]

theorem sliteIndexByte_spec {P : Program} (F : F_stringslite_IndexByte P) (s : ByteArray) (c : Int) (H : List AObj) :
    ACalls P F.id [.str s, .int .u8 c] H (fun r H' => r = .int .i64 (indexByte s.data.toList c.toNat.toUInt8) ∧ H' = H) := by
  refine ACalls.pure rfl (acalls_of_body F.has ?_)
  conv => whnf
  refine ACalls.use (indexByteString_spec F.bytealg_IndexByteString.has s c _) ?_
  conv => whnf
  exact .closed _ rfl

set_option maxRecDepth 20000 in
theorem sliteIndex_spec {P : Program} (F : F_stringslite_Index P) (s : ByteArray) (H : List AObj) :
    ACalls P F.id [.str s, .str (bs [46])] H (fun r H' => r = .int .i64 (dotAt s) ∧ H' = H) := by
  refine ACalls.pure rfl (acalls_of_body F.has ?_)
  (conv => whnf); refine recA (fun h => ?_) (fun h => ?_)
  · conv => whnf
    refine pubI ?_
    have h : (bs [46]).data.toList = s.data.toList := by simpa using h
    rw [dotAt, ← h]; rfl
  · conv => whnf
    refine And.intro (by decide) ?_
    conv => whnf
    refine ACalls.use (sliteIndexByte_spec F.stringslite_IndexByte s _ _) ?_
    conv => whnf
    exact pubI rfl

def cutR (s : ByteArray) : AVal :=
  if 0 ≤ dotAt s then .tuple [.str (s.extract 0 (dotAt s).toNat), .str (s.extract (dotAt s + 1).toNat s.size), .bool true] else .tuple [.str s, .str (bs []), .bool false]

theorem pub3 {H1 : List AObj} {n : Nat} {ids : List Nat} {a b c r s t : AVal} (h1 : Pub H1 n ids a r) (h2 : Pub H1 n ids b s) (h3 : Pub H1 n ids c t) : Pub H1 n ids (.tuple [a, b, c]) (.tuple [r, s, t]) := by
  refine .tuple _ _ rfl fun i v u h4 h5 => ?_
  rcases i with _ | _ | _ | i
  · cases h4; cases h5; exact h1
  · cases h4; cases h5; exact h2
  · cases h4; cases h5; exact h3
  · simp at h4

set_option maxRecDepth 20000 in
theorem sliteCut_spec {P : Program} (F : F_stringslite_Cut P) (s : ByteArray) (hs : s.size ≤ 1000000) (H : List AObj) :
    ACalls P F.id [.str s, .str (bs [46])] H (fun r H' => r = cutR s ∧ H' = H) := by
  refine ACalls.pure rfl (acalls_of_body F.has ?_)
  conv => whnf
  refine ACalls.use (sliteIndex_spec F.stringslite_Index s _) ?_
  have hl0 : s.data.toList.length = s.size := by simp
  have hc := ib_cases s.data.toList 46
  (conv => whnf); refine recA (fun h => ?_) (fun h => ?_)
  · have h : 0 ≤ dotAt s := of_decide_eq_true h
    have hlt : dotAt s < s.size := by
      rcases hc with h1 | ⟨i, h1, h2⟩
      · have : dotAt s = -1 := h1
        omega
      · have : dotAt s = i := h1
        omega
    have e1 : IntKind.i64.wrap (dotAt s + ((bs [46]).size : Nat)) = dotAt s + 1 := wrapI _ (by show -9223372036854775808 ≤ dotAt s + 1; omega) (by show dotAt s + 1 ≤ _; omega)
    conv => whnf
    refine And.intro (by omega) ?_
    conv => whnf
    refine And.intro (by rw [e1]; omega) ?_
    conv => whnf
    rw [cutR, if_pos h]
    refine pub3 (.closed _ rfl) (pubEq ?_ rfl) (.closed _ rfl)
    rw [e1]
  · have h : ¬ 0 ≤ dotAt s := of_decide_eq_false h
    conv => whnf
    rw [cutR, if_neg h]
    exact pub3 (.closed _ rfl) (.closed _ rfl) (.closed _ rfl)

set_option maxRecDepth 20000 in
theorem stringsCut_spec {P : Program} (F : F_strings_Cut P) (s : ByteArray) (hs : s.size ≤ 1000000) (H : List AObj) :
    ACalls P F.id [.str s, .str (bs [46])] H (fun r H' => r = cutR s ∧ H' = H) := by
  refine ACalls.pure rfl (acalls_of_body F.has ?_)
  conv => whnf
  refine ACalls.use (sliteCut_spec F.stringslite_Cut s hs _) ?_
  unfold cutR
  split
  all_goals
    conv => whnf
    exact pub3 (.closed _ rfl) (.closed _ rfl) (.closed _ rfl)

set_option maxRecDepth 20000 in
theorem schema_IsQualified_spec {P : Program} (F : F_schema_IsQualified P) (s : ByteArray) (hs : s.size ≤ 1000000) (H : List AObj) :
    ACalls P F.id [.str s] H (fun r H' => r = .bool (qualB s) ∧ H' = H) := by
  refine ACalls.pure rfl (acalls_of_body F.has ?_)
  conv => whnf
  refine ACalls.use (stringsCut_spec F.strings_Cut s hs _) ?_
  unfold cutR
  split
  · rename_i h
    conv => whnf
    refine ACalls.use (schema_IsName_spec F.schema_IsName _ _) ?_
    (conv => whnf); refine recA (fun h1 => ?_) (fun h1 => ?_)
    · conv => whnf
      refine ACalls.use (schema_IsName_spec F.schema_IsName _ _) ?_
      conv => whnf
      exact pubB (by rw [qualB, if_pos h, h1, Bool.true_and])
    · conv => whnf
      exact pubB (by rw [qualB, if_pos h, h1]; rfl)
  · rename_i h
    conv => whnf
    refine ACalls.use (schema_IsName_spec F.schema_IsName _ _) ?_
    (conv => whnf); refine recA (fun h1 => ?_) (fun h1 => ?_)
    · conv => whnf
      exact pubB (by rw [qualB, if_neg h, h1])
    · conv => whnf
      exact pubB (by rw [qualB, if_neg h, h1])

end Go.AW

namespace Go.AW
attribute [local irreducible] ACalls
structure Col where
  name : ByteArray
  kind : Int
  nul : Bool

def colC (c : Col) : List AVal := [.str c.name, .int .i64 c.kind, .bool c.nul]

def cC (cs : List Col) : List (List AVal) := cs.map colC

theorem cC_length (l : List Col) : (cC l).length = l.length := List.length_map ..

theorem pureEs_cC (l : List Col) : pureEs (cC l) = true := by simp [pureEs, cC, colC, AVal.isPure]

theorem cC_at {l : List Col} {k : Nat} {x : Col} (h : l[k]? = some x) : (cC l)[k]? = some (colC x) := by
  rw [cC, List.getElem?_map, h]; rfl

end Go.AW

namespace Go.AW
attribute [local irreducible] ACalls
theorem ACalls.frz1 {P : Program} {f : FuncId} {args : List AVal} {n sz : Nat} {es : List (List AVal)} {H : List AObj} (ha : args.all AVal.closed = true) (h : ACalls P f args [] (fun r H1 => r = .sl 0 n 0 n ∧ H1 = [.arr sz es]))
    (hn : n = es.length) (hp : pureEs es = true) : ACalls P f args H (fun r H' => r = .list false sz es ∧ H' = H) := by
  refine ACalls.pure ha (h.mono ?_)
  rintro r H1 ⟨rfl, rfl⟩
  exact pubF rfl hn hn hp

def zV : V := ⟨0, 0, bs []⟩

theorem setEs_vC (l : List V) (k : Nat) (v : V) : setEs (vC l) k (valC v) = vC (l.set k v) := by rw [setEs_eq]; simp [vC]

end Go.AW

namespace Go.AW
attribute [local irreducible] ACalls
theorem u8_eq (n : Int) : u8 n = n % 256 := by
  show IntKind.u8.wrap n = _
  simp [IntKind.wrap, IntKind.signed, IntKind.bits]

theorem num_w4 (x : Int) (h0 : 0 ≤ x) (h1 : x < 4294967296) : num (w4 x) = x := by
  simp only [num, w4, List.foldl_cons, List.foldl_nil, u8_eq]
  rw [Int.fdiv_eq_ediv_of_nonneg _ (by omega), Int.fdiv_eq_ediv_of_nonneg _ (by omega), Int.fdiv_eq_ediv_of_nonneg _ (by omega)]
  omega

theorem strOf_bytesI (s : ByteArray) : strOf (bytesI s) = s := by
  obtain ⟨⟨l⟩⟩ := s
  simp only [strOf, bytesI, List.map_map]
  congr
  rw [List.map_congr_left (g := id)]
  · simp
  · intro b _
    simp

theorem V.ext' {a b : V} (h1 : a.kind = b.kind) (h2 : a.num = b.num) (h3 : a.str = b.str) : a = b := by
  cases a; cases b; simp_all

theorem str_nil {s : ByteArray} (h : s.data.toList = []) : s = bs [] := by
  obtain ⟨⟨l⟩⟩ := s
  simp at h
  subst h; rfl

theorem decV_enc (v : V) (hv : validB v = true) (t : List Int) : decV (encV v ++ t) = (v, ((encV v).length : Int)) := by
  unfold validB at hv
  split at hv
  · rename_i hk
    simp at hv
    have hs := str_nil (show v.str.data.toList = [] by simp [hv.2])
    have e : encV v = [0] := by simp [encV, hk, u8_eq]
    rw [e]
    show decW ([0] ++ t) 0 _ = _
    rw [decW_0 (by simp)]
    rw [show v = ⟨0, 0, bs []⟩ from V.ext' hk hv.1 hs]; rfl
  split at hv
  · rename_i hk
    simp at hv
    have hs := str_nil (show v.str.data.toList = [] by simp [hv.2])
    have e : encV v = [1, v.num] := by
      have : u8 v.num = v.num := by rw [u8_eq]; omega
      simp [encV, hk, this, u8_eq]
    rw [e]
    show decW ([1, v.num] ++ t) 1 v.num = _
    rw [decW_1 (by simp)]
    rw [show v = ⟨1, v.num, bs []⟩ from V.ext' hk rfl hs]; rfl
  split at hv
  · rename_i hk
    simp at hv
    have hs := str_nil (show v.str.data.toList = [] by simp [hv.2])
    have e : encV v = 2 :: w4 (v.num + 1073741824) := by
      simp only [encV, hk]
      rw [if_neg (by decide), if_pos trivial, wrapI (v.num + 1073741824) (by omega) (by omega)]
      simp [u8_eq]
    rw [e]
    show decW ((2 :: w4 (v.num + 1073741824)) ++ t) 2 _ = _
    rw [decW_2 (by simp [w4])]
    have : (((2 :: w4 (v.num + 1073741824)) ++ t).take 5).drop 1 = w4 (v.num + 1073741824) := by simp [w4]
    rw [this, num_w4 _ (by omega) (by omega)]
    rw [show v = ⟨2, v.num, bs []⟩ from V.ext' hk rfl hs]
    simp [w4]
  split at hv
  · rename_i hk
    simp at hv
    have e : encV v = 3 :: (v.str.size : Int) :: bytesI v.str := by
      have : u8 (v.str.size : Int) = v.str.size := by rw [u8_eq]; omega
      simp only [encV, hk]
      rw [if_neg (by decide), if_neg (by decide), if_neg (by decide), if_pos trivial, this]
      simp [u8_eq]
    have hlen : (bytesI v.str).length = v.str.size := by simp [bytesI]
    rw [e]
    show decW ((3 :: (v.str.size : Int) :: bytesI v.str) ++ t) 3 (v.str.size : Int) = _
    rw [decW_3 (by simp) (by simp [hlen]; omega)]
    have : (((3 :: (v.str.size : Int) :: bytesI v.str) ++ t).take (2 + (v.str.size : Int)).toNat).drop 2 = bytesI v.str := by
      rw [show (2 + (v.str.size : Int)).toNat = v.str.size + 1 + 1 by omega]
      simp [← hlen]
    rw [this, strOf_bytesI]
    rw [show (⟨3, 0, v.str⟩ : V) = v from V.ext' hk.symm hv.1.symm rfl]
    simp [hlen]; omega
  split at hv
  · rename_i hk
    simp at hv
    have hs := str_nil (show v.str.data.toList = [] by simp [hv.2])
    have e : encV v = 4 :: w4 v.num := by
      simp only [encV, hk]
      rw [if_neg (by decide), if_neg (by decide), if_pos trivial]
      simp [u8_eq]
    rw [e]
    show decW ((4 :: w4 v.num) ++ t) 4 _ = _
    rw [decW_4 (by simp [w4])]
    have : (((4 :: w4 v.num) ++ t).take 5).drop 1 = w4 v.num := by simp [w4]
    rw [this, num_w4 _ (by omega) (by omega)]
    rw [show v = ⟨4, v.num, bs []⟩ from V.ext' hk rfl hs]
    simp [w4]
  · cases hv

theorem encV_pos (v : V) : 0 < (encV v).length := by simp [encV]

theorem decN_enc : ∀ (rs : List V) (t : List Int), (∀ v ∈ rs, validB v = true) → decN rs.length (rs.flatMap encV ++ t) = some (rs, t)
  | [], t, _ => rfl
  | v :: rs, t, h => by
    have hv := h v (by simp)
    have e : (v :: rs).flatMap encV ++ t = encV v ++ (rs.flatMap encV ++ t) := by simp
    rw [e, List.length_cons, decN_succ, decV_enc v hv]
    have := encV_pos v
    rw [if_neg (by rw [hv]; simp only [Bool.true_eq_false, or_false]; omega)]
    simp only [Int.toNat_natCast, List.drop_left]
    rw [decN_enc rs t fun w hw => h w (by simp [hw])]

theorem decR_enc (rs : List V) (hl : rs.length ≤ 12) (h : ∀ v ∈ rs, validB v = true) : decR (encB rs) = .tuple [.list false 3 (vC rs), .int .i64 0] := by
  have hu : u8 (rs.length : Int) = rs.length := by rw [u8_eq]; omega
  have e : encB rs = (rs.length : Int) :: rs.flatMap encV := by rw [encB, hu]
  rw [e]
  unfold decR
  rw [if_neg (by simp; omega)]
  have := decN_enc rs [] h
  rw [List.append_nil] at this
  simp [this]

theorem rowsCmp_zero : ∀ (a b : List V), rowsCmp a b = 0 ↔ a = b
  | [], [] => by simp [rowsCmp]
  | [], _ :: _ => by simp [rowsCmp]
  | _ :: _, [] => by simp [rowsCmp]
  | x :: a, y :: b => by
    have hz := isCmp_val.zero x y
    rw [rowsCmp]
    by_cases h : valCmp x y = 0
    · rw [if_pos h, rowsCmp_zero a b, hz.1 h]; simp
    · rw [if_neg h]
      constructor
      · intro h2; exact absurd h2 h
      · intro h2; simp at h2; exact absurd (hz.2 h2.1) h

end Go.AW

namespace Go.AW
attribute [local irreducible] ACalls
theorem iC_at {l : List Int} {k : Nat} {x : Int} (h : l[k]? = some x) : (iC l)[k]? = some [.int .i64 x] := by simp [iC, h]

end Go.AW

namespace Go.AW
attribute [local irreducible] ACalls
theorem pureEs_iC (l : List Int) : pureEs (iC l) = true := by simp [pureEs, iC, AVal.isPure]

theorem Ghost.one {n : Nat} {live : List (Nat × AVal)} {ρ : List AVal} {H : List AObj} {I : List AVal → List AObj → Prop} (id : Nat) (sz : Nat) (es : List (List AVal)) (ho : H[id]? = .some (.arr sz es)) (hp : pureEs es = true) (hl : ρ.length = n) (h : SvPub H [id] ρ live) (hI : ∀ ρ1, Sv n live ρ1 → I ρ1 [.arr sz es]) : Ghost [] ρ H I :=
  ⟨Gp.one id sz es ho hp hl h hI⟩

end Go.AW

namespace Go.AW
attribute [local irreducible] ACalls
def sC (l : List ByteArray) : List (List AVal) := l.map fun s => [.str s]

theorem sC_length (l : List ByteArray) : (sC l).length = l.length := List.length_map ..

theorem sC_at {l : List ByteArray} {k : Nat} {x : ByteArray} (h : l[k]? = some x) : (sC l)[k]? = some [.str x] := by simp [sC, h]

def eqS (s t : ByteArray) : Bool := s.data.toList == t.data.toList

end Go.AW

namespace Go.AW
attribute [local irreducible] ACalls
structure Ent where
  row : List V
  cnt : Int

def fitB (e : Ent) : Int := if 12 < e.row.length ∨ e.cnt < -65536 ∨ 65536 < e.cnt then 2 else if e.row.all validB then 0 else 8

def notB : Option (List V) → List V → Bool
  | some q, r => decide (rowsCmp q r ≥ 0)
  | none, _ => false

def bvGo : List Ent → Option (List V) → Int
  | [], _ => 0
  | e :: es, p => if fitB e ≠ 0 then fitB e else if e.cnt = 0 then 8 else if notB p e.row = true then 14 else bvGo es (some e.row)

def bagB (b : List Ent) : Int := if 4096 < b.length then 2 else bvGo b none

end Go.AW

namespace Go.AW
theorem ACalls.weakR {P : Program} {f : FuncId} {args : List AVal} {H : List AObj} {Q Q' : AVal → List AObj → Prop} (h : ACalls P f args H Q) (hq : ∀ r H', Q r H' → ∃ r', Wk r r' ∧ Q' r' H') : ACalls P f args H Q' := by
  intro C τ w vs hw hl hr
  have h := h C τ w vs hw hl hr
  unfold CallsX at h ⊢
  split at h
  · exact Calls.mono h fun e w' ⟨v, r, C', τ', H', h1, h2, h3, h4⟩ => by
      obtain ⟨r', hk, hq'⟩ := hq _ _ h2
      exact ⟨v, r', C', τ', H', h1, hq', h3.weak hk, h4⟩
  · obtain ⟨v, r, C', τ', H', h1, h2, h3, h4⟩ := h
    obtain ⟨r', hk, hq'⟩ := hq _ _ h2
    exact ⟨v, r', C', τ', H', h1, hq', h3.weak hk, h4⟩
  · exact h

end Go.AW

namespace Go.AW
attribute [local irreducible] ACalls
def smallB (n : Int) : Bool := decide (-65536 ≤ n) && decide (n ≤ 65536)

def mrg : List Ent → List Ent → List Ent
  | [], b => b
  | x :: a, [] => x :: a
  | x :: a, y :: b => if rowsCmp x.row y.row < 0 then x :: mrg a (y :: b) else if 0 < rowsCmp x.row y.row then y :: mrg (x :: a) b else ⟨x.row, x.cnt + y.cnt⟩ :: mrg a b
termination_by a b => a.length + b.length

theorem mrg_nil (b : List Ent) : mrg [] b = b := by rw [mrg]

theorem mrg_nil2 (a : List Ent) : mrg a [] = a := by
  cases a with
  | nil => rw [mrg]
  | cons x a => rw [mrg]

theorem mrg_cons (x y : Ent) (a b : List Ent) : mrg (x :: a) (y :: b) = if rowsCmp x.row y.row < 0 then x :: mrg a (y :: b) else if 0 < rowsCmp x.row y.row then y :: mrg (x :: a) b else ⟨x.row, x.cnt + y.cnt⟩ :: mrg a b := by rw [mrg]

def nzB (e : Ent) : Bool := !(e.cnt == 0)

end Go.AW

namespace Go.AW
attribute [local irreducible] ACalls
theorem mrg_length : ∀ (a b : List Ent), (mrg a b).length ≤ a.length + b.length
  | [], b => by rw [mrg_nil]; omega
  | x :: a, [] => by rw [mrg_nil2]; omega
  | x :: a, y :: b => by
    rw [mrg_cons]
    have h1 := mrg_length a (y :: b)
    have h2 := mrg_length (x :: a) b
    have h3 := mrg_length a b
    split
    · simp at h1 ⊢; omega
    split
    · simp at h2 ⊢; omega
    · simp; omega
termination_by a b => a.length + b.length

end Go.AW

namespace Go.AW
attribute [local irreducible] ACalls
structure Grp where
  n : Int
  vals : List Ent

def oneB (e : Ent) : Bool := match e.row with
  | [v] => !(v.kind == 0)
  | _ => false

def rowsB (n : Int) : Bool := decide (-268435456 ≤ n) && decide (n ≤ 268435456)

def grpB (g : Grp) : Int := if rowsB g.n = false then 1 else if bagB g.vals ≠ 0 then bagB g.vals else if g.vals.all oneB then 0 else 8

end Go.AW

namespace Go.AW
section
variable {P : Program} {C : Nat → Nat} {τ : Nat → Option Loc} {H : List AObj} {w : World}
inductive WkD : AVal → AVal → Prop where
  | refl (a : AVal) : WkD a a
  | nil (x : Bool) (sz : Nat) : WkD .nil (.list x sz [])
  | list (x y : Bool) (sz : Nat) (es fs : List (List AVal)) (h : y = true → x = true) (hl : es.length = fs.length)
      (hl2 : ∀ (i : Nat) (e f : List AVal), es[i]? = some e → fs[i]? = some f → e.length = f.length)
      (hcell : ∀ (i j : Nat) (f : List AVal) (c : AVal), fs[i]? = some f → f[j]? = some c → c.isCell = true)
      (hc : ∀ (i j : Nat) (e f : List AVal) (d c : AVal), es[i]? = some e → fs[i]? = some f → e[j]? = some d → f[j]? = some c → WkD d c) : WkD (.list x sz es) (.list y sz fs)
  | agg (as bs : List AVal) (hl : as.length = bs.length) (h : ∀ (i : Nat) (a b : AVal), as[i]? = some a → bs[i]? = some b → WkD a b) : WkD (.agg as) (.agg bs)
  | tuple (as bs : List AVal) (hl : as.length = bs.length) (h : ∀ (i : Nat) (a b : AVal), as[i]? = some a → bs[i]? = some b → WkD a b) : WkD (.tuple as) (.tuple bs)

theorem Rd.weakD {a b : AVal} {v : Value} (h : Rd C w a v) (hw : WkD a b) : Rd C w b v := by
  induction hw generalizing v with
  | refl => exact h
  | nil x sz => cases h; exact .list0 x sz none 0 (fun _ => rfl)
  | list x y sz es fs hxy hl hl2 hcell hc ih =>
    have hsome : ∀ {i : Nat} {f : List AVal}, fs[i]? = some f → ∃ e, es[i]? = some e ∧ e.length = f.length := fun {i f} hf => by
      have hi : i < es.length := by have := (List.getElem?_eq_some_iff.1 hf).1; omega
      exact ⟨es[i], List.getElem?_eq_getElem hi, hl2 i _ _ (List.getElem?_eq_getElem hi) hf⟩
    cases h with
    | list0 _ _ a cap hx =>
      cases fs with
      | nil => exact .list0 y sz a cap fun hy => hx (hxy hy)
      | cons f fs => simp at hl
    | list _ _ _ b off cap vs hx hcap hsz hC hcl hp hrd =>
      rw [hl]
      refine .list y sz fs b off cap vs (fun hy => by rw [← hl]; exact hx (hxy hy)) (by omega) (fun f hf => ?_) (by rw [← hl]; exact hC) (fun i j hi hj => hcl i j (by omega) hj) hcell (fun i j f c hf hcc => ?_)
      · obtain ⟨i, hi, rfl⟩ := List.getElem_of_mem hf
        obtain ⟨e, he, hle⟩ := hsome (List.getElem?_eq_getElem hi)
        rw [← hle]; exact hsz e (List.mem_of_getElem? he)
      · obtain ⟨e, he, hle⟩ := hsome hf
        have hj : j < e.length := by have := (List.getElem?_eq_some_iff.1 hcc).1; omega
        exact ih i j e f e[j] c he hf (List.getElem?_eq_getElem hj) hcc (hrd i j e e[j] he (List.getElem?_eq_getElem hj))
  | agg => cases h
  | tuple => cases h

theorem Rel.weakD {a b : AVal} {v : Value} (h : Rel C w τ H a v) (hw : WkD a b) : Rel C w τ H b v := by
  induction hw generalizing v with
  | refl => exact h
  | nil x sz =>
    cases h with
    | rd h => exact .rd (h.weakD (.nil x sz))
  | list x y sz es fs hxy hl hl2 hcell hc ih =>
    cases h with
    | rd h => exact .rd (h.weakD (.list x y sz es fs hxy hl hl2 hcell hc))
  | agg as bs hl h2 ih =>
    cases h with
    | rd h => cases h
    | agg _ vs hlv hv =>
      refine .agg bs vs (by omega) fun i c u hc hu => ?_
      have hi : i < as.length := by have := (List.getElem?_eq_some_iff.1 hc).1; omega
      exact ih i as[i] c (List.getElem?_eq_getElem hi) hc (hv i as[i] u (List.getElem?_eq_getElem hi) hu)
  | tuple as bs hl h2 ih =>
    cases h with
    | rd h => cases h
    | tuple _ vs hlv hv =>
      refine .tuple bs vs (by omega) fun i c u hc hu => ?_
      have hi : i < as.length := by have := (List.getElem?_eq_some_iff.1 hc).1; omega
      exact ih i as[i] c (List.getElem?_eq_getElem hi) hc (hv i as[i] u (List.getElem?_eq_getElem hi) hu)

def WksD (as bs : List AVal) : Prop := as.length = bs.length ∧ ∀ (i : Nat) (a b : AVal), as[i]? = some a → bs[i]? = some b → WkD a b

theorem WksD.nil : WksD [] [] := ⟨rfl, fun i a b h => by simp at h⟩

theorem WksD.cons {a b : AVal} {as bs : List AVal} (h : WkD a b) (hs : WksD as bs) : WksD (a :: as) (b :: bs) := by
  refine ⟨by simp [hs.1], fun i x y hx hy => ?_⟩
  cases i with
  | zero => simp at hx hy; subst hx hy; exact h
  | succ i => exact hs.2 i x y (by simpa using hx) (by simpa using hy)

theorem WkD.aggs {as bs : List AVal} (h : WksD as bs) : WkD (.agg as) (.agg bs) := .agg as bs h.1 h.2

theorem WkD.tuples {as bs : List AVal} (h : WksD as bs) : WkD (.tuple as) (.tuple bs) := .tuple as bs h.1 h.2

theorem ACalls.weakD {f : FuncId} {args bs : List AVal} {Q : AVal → List AObj → Prop} (h : ACalls P f bs H Q) (hw : WksD args bs) : ACalls P f args H Q := by
  intro C τ w vs hwf hl hr
  refine h C τ w vs hwf (by rw [← hw.1]; exact hl) fun i b v hb hv => ?_
  have hi : i < args.length := by have := (List.getElem?_eq_some_iff.1 hb).1; have := hw.1; omega
  exact (hr i args[i] v (List.getElem?_eq_getElem hi) hv).weakD (hw.2 i args[i] b (List.getElem?_eq_getElem hi) hb)

theorem ACalls.weakRD {f : FuncId} {args : List AVal} {Q Q' : AVal → List AObj → Prop} (h : ACalls P f args H Q) (hq : ∀ r H', Q r H' → ∃ r', WkD r r' ∧ Q' r' H') : ACalls P f args H Q' := by
  intro C τ w vs hw hl hr
  have h := h C τ w vs hw hl hr
  unfold CallsX at h ⊢
  split at h
  · exact Calls.mono h fun e w' ⟨v, r, C', τ', H', h1, h2, h3, h4⟩ => by
      obtain ⟨r', hk, hq'⟩ := hq _ _ h2
      exact ⟨v, r', C', τ', H', h1, hq', h3.weakD hk, h4⟩
  · obtain ⟨v, r, C', τ', H', h1, h2, h3, h4⟩ := h
    obtain ⟨r', hk, hq'⟩ := hq _ _ h2
    exact ⟨v, r', C', τ', H', h1, hq', h3.weakD hk, h4⟩
  · exact h

end
end Go.AW

namespace Go.AW
attribute [local irreducible] ACalls
def sumE (a b : List Ent) : Int :=
  if bagB a ≠ 0 then bagB a else if bagB b ≠ 0 then bagB b else if ((mrg a b).all fun e => smallB e.cnt) = true ∧ ((mrg a b).filter nzB).length ≤ 4096 then 0 else 2

def sumL (a b : List Ent) : List Ent := (mrg a b).filter nzB

def mrgE (a b : Grp) : Int := if rowsB (a.n + b.n) = false then 2 else sumE a.vals b.vals

def mrgG (a b : Grp) : Grp := if mrgE a b = 0 then ⟨a.n + b.n, sumL a.vals b.vals⟩ else ⟨0, []⟩

def GrpOk (g : Grp) : Prop := -1000000000 ≤ g.n ∧ g.n ≤ 1000000000

end Go.AW

namespace Go.AW
attribute [local irreducible] ACalls
def oneG (v : V) (c : Int) : Grp := ⟨c, if v.kind ≠ 0 ∧ c ≠ 0 then [⟨[v], c⟩] else []⟩

def preE (g : Grp) (v : V) (c : Int) : Int := if grpB g ≠ 0 then grpB g else if validB v = false then 8 else if smallB c = false then 1 else 0

def addGE (g : Grp) (v : V) (c : Int) : Int := if preE g v c ≠ 0 then preE g v c else mrgE g (oneG v c)

def addGG (g : Grp) (v : V) (c : Int) : Grp := if preE g v c ≠ 0 then ⟨0, []⟩ else mrgG g (oneG v c)

theorem grpB_ok {g : Grp} (h : grpB g = 0) : GrpOk g ∧ rowsB g.n = true ∧ bagB g.vals = 0 ∧ g.vals.all oneB = true := by
  unfold grpB at h
  split at h
  · cases h
  rename_i h1
  split at h
  · rename_i h2; exact absurd h h2
  rename_i h2
  split at h
  · rename_i h3
    simp [rowsB] at h1
    exact ⟨⟨by omega, by omega⟩, by simp [rowsB, h1], by simpa using h2, h3⟩
  · cases h

end Go.AW

namespace Go.AW
attribute [local irreducible] ACalls
def numV (n : Int) : V := if n < -1073741824 ∨ 1073741824 < n then zV else ⟨2, n, bs []⟩

def num0 (e : Ent) : Int := (e.row.getD 0 zV).num

def totGo : List Ent → Int → Int → Int × Int
  | [], s, c => (s, c)
  | e :: es, s, c => totGo es (w64 (s + w64 (num0 e * e.cnt))) (w64 (c + e.cnt))

end Go.AW

namespace Go.AW
attribute [local irreducible] ACalls
def posB (e : Ent) : Bool := decide (e.cnt > 0)

def notInt (e : Ent) : Bool := !((e.row.getD 0 zV).kind == 2)

end Go.AW

namespace Go.AW
attribute [local irreducible] ACalls
def row0 (e : Ent) : V := e.row.getD 0 zV

def presV (l : List Ent) : List V := (l.filter posB).map row0

def floorV (s c : Int) : Int := if s.tmod c < 0 then w64 (w64 (s.tdiv c) - 1) else w64 (s.tdiv c)

def resE (f : Int) (g : Grp) : Int := if f < 1 ∨ 7 < f then 1 else if grpB g ≠ 0 then grpB g else if (f = 3 ∨ f = 7) ∧ g.vals.any notInt = true then 7 else 0

def resV0 (f : Int) (g : Grp) : V :=
  if f = 1 then numV g.n else if f = 2 then numV (totGo g.vals 0 0).2 else if f = 6 then numV (presV g.vals).length
  else if f = 4 then (presV g.vals).head?.getD zV else if f = 5 then (presV g.vals).getLast?.getD zV
  else if f = 3 then (if g.vals = [] then zV else numV (totGo g.vals 0 0).1)
  else if 0 < (totGo g.vals 0 0).2 then numV (floorV (totGo g.vals 0 0).1 (totGo g.vals 0 0).2) else zV

def resV (f : Int) (g : Grp) : V := if resE f g ≠ 0 then zV else resV0 f g

end Go.AW

namespace Go.AW
theorem rowsCmp_vals : ∀ (a b : List V), rowsCmp a b = -1 ∨ rowsCmp a b = 0 ∨ rowsCmp a b = 1
  | [], [] => .inr (.inl rfl)
  | [], _ :: _ => .inl rfl
  | _ :: _, [] => .inr (.inr rfl)
  | x :: xs, y :: ys => by
    rw [rowsCmp]
    split
    · exact rowsCmp_vals xs ys
    · exact isCmp_val.vals x y

theorem rowsCmp_anti : ∀ (a b : List V), rowsCmp b a = - rowsCmp a b
  | [], [] => rfl
  | [], _ :: _ => rfl
  | _ :: _, [] => rfl
  | x :: xs, y :: ys => by
    rw [rowsCmp, rowsCmp, isCmp_val.anti x y]
    by_cases h : valCmp x y = 0
    · rw [if_pos h, if_pos (by omega), rowsCmp_anti xs ys]
    · rw [if_neg h, if_neg (by omega)]

theorem rowsCmp_trans : ∀ (a b d : List V), rowsCmp a b < 0 → rowsCmp b d < 0 → rowsCmp a d < 0
  | [], _, [], _, h2 => by
    rename_i b _
    cases b with
    | nil => exact h2
    | cons y ys => rw [rowsCmp] at h2; omega
  | [], _, _ :: _, _, _ => by rw [rowsCmp]; omega
  | x :: xs, [], _, h1, _ => by rw [rowsCmp] at h1; omega
  | x :: xs, y :: ys, [], _, h2 => by rw [rowsCmp] at h2; omega
  | x :: xs, y :: ys, z :: zs, h1, h2 => by
    rw [rowsCmp] at h1 h2 ⊢
    by_cases e1 : valCmp x y = 0
    · rw [if_pos e1] at h1
      have hxy := (isCmp_val.zero x y).1 e1
      subst hxy
      by_cases e2 : valCmp x z = 0
      · rw [if_pos e2] at h2 ⊢; exact rowsCmp_trans xs ys zs h1 h2
      · rw [if_neg e2] at h2 ⊢; exact h2
    · rw [if_neg e1] at h1
      by_cases e2 : valCmp y z = 0
      · have hyz := (isCmp_val.zero y z).1 e2
        subst hyz
        rw [if_neg e1]; exact h1
      · rw [if_neg e2] at h2
        have := isCmp_val.trans x y z h1 h2
        rw [if_neg (by omega)]; exact this

def cntL : List Ent → List V → Int
  | [], _ => 0
  | e :: l, r => (if rowsCmp e.row r = 0 then e.cnt else 0) + cntL l r

def Srt (l : List Ent) : Prop := l.Pairwise fun x y => rowsCmp x.row y.row < 0

theorem cntL_zero : ∀ (l : List Ent) (r : List V), (∀ e ∈ l, rowsCmp e.row r ≠ 0) → cntL l r = 0
  | [], _, _ => rfl
  | e :: l, r, h => by rw [cntL, if_neg (h e (List.mem_cons_self ..)), cntL_zero l r fun e he => h e (List.mem_cons_of_mem _ he)]; rfl

theorem cntL_above {l : List Ent} {r : List V} (h : ∀ e ∈ l, rowsCmp r e.row < 0) : cntL l r = 0 :=
  cntL_zero l r fun e he hz => by have := h e he; rw [rowsCmp_anti] at this; omega

theorem cntL_head {x : Ent} {l : List Ent} (h : Srt (x :: l)) : cntL (x :: l) x.row = x.cnt := by
  rw [cntL, if_pos ((rowsCmp_zero _ _).2 rfl), cntL_above (List.pairwise_cons.1 h).1]; omega

theorem cntL_mem : ∀ {l : List Ent} {e : Ent}, Srt l → e ∈ l → cntL l e.row = e.cnt
  | x :: l, e, hs, he => by
    rcases List.mem_cons.1 he with rfl | he
    · exact cntL_head hs
    · have h1 := (List.pairwise_cons.1 hs).1 e he
      rw [cntL, if_neg (by omega), cntL_mem (List.pairwise_cons.1 hs).2 he]; omega

theorem mem_mrg : ∀ (a b : List Ent) (e : Ent), e ∈ mrg a b → (∃ x ∈ a, x.row = e.row) ∨ ∃ y ∈ b, y.row = e.row
  | [], b, e, h => by rw [mrg_nil] at h; exact .inr ⟨e, h, rfl⟩
  | x :: a, [], e, h => by rw [mrg_nil2] at h; exact .inl ⟨e, h, rfl⟩
  | x :: a, y :: b, e, h => by
    rw [mrg_cons] at h
    have la : ∀ {e : Ent}, (∃ x ∈ a, x.row = e.row) → ∃ z ∈ x :: a, z.row = e.row := fun ⟨z, h1, h2⟩ => ⟨z, List.mem_cons_of_mem _ h1, h2⟩
    have lb : ∀ {e : Ent}, (∃ x ∈ b, x.row = e.row) → ∃ z ∈ y :: b, z.row = e.row := fun ⟨z, h1, h2⟩ => ⟨z, List.mem_cons_of_mem _ h1, h2⟩
    split at h
    · rcases List.mem_cons.1 h with rfl | h
      · exact .inl ⟨e, List.mem_cons_self .., rfl⟩
      · exact (mem_mrg a (y :: b) e h).imp la id
    split at h
    · rcases List.mem_cons.1 h with rfl | h
      · exact .inr ⟨e, List.mem_cons_self .., rfl⟩
      · exact (mem_mrg (x :: a) b e h).imp id lb
    · rcases List.mem_cons.1 h with rfl | h
      · exact .inl ⟨x, List.mem_cons_self .., rfl⟩
      · exact (mem_mrg a b e h).imp la lb
termination_by a b => a.length + b.length

theorem srt_mrg : ∀ (a b : List Ent), Srt a → Srt b → Srt (mrg a b)
  | [], b, _, hb => by rw [mrg_nil]; exact hb
  | x :: a, [], ha, _ => by rw [mrg_nil2]; exact ha
  | x :: a, y :: b, ha, hb => by
    have ax := (List.pairwise_cons.1 ha).1
    have bx := (List.pairwise_cons.1 hb).1
    have ha' := (List.pairwise_cons.1 ha).2
    have hb' := (List.pairwise_cons.1 hb).2
    rw [mrg_cons]
    split
    · rename_i hc
      refine List.pairwise_cons.2 ⟨fun e he => ?_, srt_mrg a (y :: b) ha' hb⟩
      rcases mem_mrg a (y :: b) e he with ⟨z, hz, hzr⟩ | ⟨z, hz, hzr⟩
      · rw [← hzr]; exact ax z hz
      · rw [← hzr]
        rcases List.mem_cons.1 hz with rfl | hz
        · exact hc
        · exact rowsCmp_trans _ _ _ hc (bx z hz)
    split
    · rename_i hc0 hc
      have hc' : rowsCmp y.row x.row < 0 := by rw [rowsCmp_anti]; omega
      refine List.pairwise_cons.2 ⟨fun e he => ?_, srt_mrg (x :: a) b ha hb'⟩
      rcases mem_mrg (x :: a) b e he with ⟨z, hz, hzr⟩ | ⟨z, hz, hzr⟩
      · rw [← hzr]
        rcases List.mem_cons.1 hz with rfl | hz
        · exact hc'
        · exact rowsCmp_trans _ _ _ hc' (ax z hz)
      · rw [← hzr]; exact bx z hz
    · have hr : x.row = y.row := (rowsCmp_zero _ _).1 (by have := rowsCmp_vals x.row y.row; omega)
      refine List.pairwise_cons.2 ⟨fun e he => ?_, srt_mrg a b ha' hb'⟩
      rcases mem_mrg a b e he with ⟨z, hz, hzr⟩ | ⟨z, hz, hzr⟩
      · rw [← hzr]; exact ax z hz
      · rw [← hzr]; show rowsCmp x.row z.row < 0; rw [hr]; exact bx z hz
termination_by a b => a.length + b.length

theorem srt_filter {l : List Ent} (p : Ent → Bool) (h : Srt l) : Srt (l.filter p) := List.Pairwise.filter p h

theorem fitB_iff (e : Ent) : fitB e = 0 ↔ e.row.length ≤ 12 ∧ smallB e.cnt = true ∧ e.row.all validB = true := by
  simp only [smallB, Bool.and_eq_true, decide_eq_true_eq]
  unfold fitB
  constructor
  · intro h
    split at h
    · cases h
    · split at h
      · rename_i h1 h2; exact ⟨by omega, ⟨by omega, by omega⟩, h2⟩
      · cases h
  · rintro ⟨h1, ⟨h2, h3⟩, h4⟩
    rw [if_neg (by omega), if_pos h4]

theorem bvGo_iff : ∀ (l : List Ent) (p : Option (List V)), bvGo l p = 0 ↔ (∀ e ∈ l, fitB e = 0 ∧ e.cnt ≠ 0) ∧ Srt l ∧ ∀ q, p = some q → ∀ e ∈ l, rowsCmp q e.row < 0
  | [], p => ⟨fun _ => ⟨fun e h => (by simp at h), List.Pairwise.nil, fun q _ e h => by simp at h⟩, fun _ => rfl⟩
  | x :: l, p => by
    rw [bvGo]
    have nb : notB p x.row = true ↔ ∃ q, p = some q ∧ ¬ rowsCmp q x.row < 0 := by
      cases p with
      | none => simp [notB]
      | some q => simp [notB]
    constructor
    · intro h
      by_cases h1 : fitB x = 0
      · rw [if_neg (by simp [h1])] at h
        by_cases h2 : x.cnt = 0
        · rw [if_pos h2] at h; cases h
        · rw [if_neg h2] at h
          by_cases h3 : notB p x.row = true
          · rw [if_pos h3] at h; cases h
          · rw [if_neg h3] at h
            obtain ⟨g1, g2, g3⟩ := (bvGo_iff l (some x.row)).1 h
            have hp : ∀ q, p = some q → rowsCmp q x.row < 0 := fun q hq => Classical.byContradiction fun hn => h3 (nb.2 ⟨q, hq, hn⟩)
            refine ⟨fun e he => ?_, List.pairwise_cons.2 ⟨g3 _ rfl, g2⟩, fun q hq e he => ?_⟩
            · rcases List.mem_cons.1 he with rfl | he
              · exact ⟨h1, h2⟩
              · exact g1 e he
            · rcases List.mem_cons.1 he with rfl | he
              · exact hp q hq
              · exact rowsCmp_trans _ _ _ (hp q hq) (g3 _ rfl e he)
      · rw [if_pos h1] at h; exact absurd h h1
    · rintro ⟨h1, h2, h3⟩
      have hx := h1 x (List.mem_cons_self ..)
      rw [if_neg (by simp [hx.1]), if_neg hx.2, if_neg (fun h => by
        obtain ⟨q, hq, hn⟩ := nb.1 h
        exact hn (h3 q hq x (List.mem_cons_self ..)))]
      exact (bvGo_iff l (some x.row)).2 ⟨fun e he => h1 e (List.mem_cons_of_mem _ he), (List.pairwise_cons.1 h2).2, fun q hq e he => by cases hq; exact (List.pairwise_cons.1 h2).1 e he⟩

theorem bagB_iff (l : List Ent) : bagB l = 0 ↔ l.length ≤ 4096 ∧ (∀ e ∈ l, fitB e = 0 ∧ e.cnt ≠ 0) ∧ Srt l := by
  rw [bagB]
  constructor
  · intro h
    split at h
    · cases h
    · have := (bvGo_iff l none).1 h
      exact ⟨by omega, this.1, this.2.1⟩
  · rintro ⟨h1, h2, h3⟩
    rw [if_neg (by omega)]
    exact (bvGo_iff l none).2 ⟨h2, h3, fun q hq => by cases hq⟩

theorem resOk {l : List Ent} (hs : Srt l) (hl : (l.filter nzB).length ≤ 4096) (hf : ∀ e ∈ l, e.row.length ≤ 12 ∧ e.row.all validB = true) (hc : ∀ r, smallB (cntL l r) = true) :
    ((l.all fun e => smallB e.cnt) = true ∧ (l.filter nzB).length ≤ 4096) ∧ bagB (l.filter nzB) = 0 := by
  have hsm : ∀ e ∈ l, smallB e.cnt = true := fun e he => by rw [← cntL_mem hs he]; exact hc _
  refine ⟨⟨List.all_eq_true.2 hsm, hl⟩, (bagB_iff _).2 ⟨hl, fun e he => ?_, srt_filter _ hs⟩⟩
  obtain ⟨h1, h2⟩ := List.mem_filter.1 he
  exact ⟨(fitB_iff e).2 ⟨(hf e h1).1, hsm e h1, (hf e h1).2⟩, by simpa [nzB] using h2⟩

theorem fit_row {l : List Ent} (h : bagB l = 0) : ∀ e ∈ l, e.row.length ≤ 12 ∧ e.row.all validB = true := fun e he => by
  have := (fitB_iff e).1 (((bagB_iff l).1 h).2.1 e he).1
  exact ⟨this.1, this.2.2⟩

end Go.AW

namespace Go.AW
attribute [local irreducible] ACalls
def g0 : Grp := ⟨0, []⟩

def n5 : V := ⟨2, 5, bs []⟩

theorem n5_valid : validB n5 = true := by kernel_rfl

theorem mrg_one (v : V) (a b : Int) : mrg [⟨[v], a⟩] [⟨[v], b⟩] = [⟨[v], a + b⟩] := by
  have h : rowsCmp [v] [v] = 0 := (rowsCmp_zero _ _).2 rfl
  rw [mrg_cons, if_neg (by show ¬ rowsCmp [v] [v] < 0; omega), if_neg (by show ¬ 0 < rowsCmp [v] [v]; omega), mrg_nil]

theorem srt_one (e : Ent) : Srt [e] := List.pairwise_singleton ..

theorem bagB_one (v : V) (c : Int) (hv : validB v = true) (hc : c ≠ 0) (hs : smallB c = true) : bagB [⟨[v], c⟩] = 0 :=
  (bagB_iff _).2 ⟨by simp, fun e he => by
    rw [List.mem_singleton] at he; subst he
    exact ⟨(fitB_iff _).2 ⟨by simp, hs, by simp [hv]⟩, hc⟩, srt_one _⟩

theorem bagB_nil : bagB [] = 0 := rfl

theorem grpB_intro {g : Grp} (h1 : rowsB g.n = true) (h2 : bagB g.vals = 0) (h3 : g.vals.all oneB = true) : grpB g = 0 := by
  rw [grpB, if_neg (by simp [h1]), if_neg (by simp [h2]), if_pos h3]

theorem k1 : addGE g0 n5 2 = 0 ∧ addGG g0 n5 2 = ⟨2, [⟨[n5], 2⟩]⟩ := by
  have hp : preE g0 n5 2 = 0 := by rw [preE, if_neg (by simp [grpB_intro (g := g0) rfl rfl rfl]), if_neg (by simp [n5_valid]), if_neg (by decide)]
  have ho : oneG n5 2 = ⟨2, [⟨[n5], 2⟩]⟩ := by rw [oneG, if_pos ⟨by decide, by decide⟩]
  have hm : mrgE g0 ⟨2, [⟨[n5], 2⟩]⟩ = 0 := by
    rw [mrgE, if_neg (by decide), sumE, if_neg (by simp [g0, bagB_nil]), if_neg (by simp [bagB_one n5 2 n5_valid (by decide) (by decide)]), if_pos ⟨by simp [g0, mrg_nil, smallB], by simp [g0, mrg_nil, nzB]⟩]
  have e1 : addGE g0 n5 2 = 0 := by rw [addGE, if_neg (by simp [hp]), ho, hm]
  refine ⟨e1, ?_⟩
  rw [addGG, if_neg (by simp [hp]), ho, mrgG, if_pos hm]
  simp [g0, sumL, mrg_nil, nzB]

theorem k2 : addGE ⟨2, [⟨[n5], 2⟩]⟩ n5 (-1) = 0 ∧ addGG ⟨2, [⟨[n5], 2⟩]⟩ n5 (-1) = ⟨1, [⟨[n5], 1⟩]⟩ := by
  have hb := bagB_one n5 2 n5_valid (by decide) (by decide)
  have hp : preE ⟨2, [⟨[n5], 2⟩]⟩ n5 (-1) = 0 := by rw [preE, if_neg (by simp [grpB_intro (g := ⟨2, [⟨[n5], 2⟩]⟩) rfl hb rfl]), if_neg (by simp [n5_valid]), if_neg (by decide)]
  have ho : oneG n5 (-1) = ⟨-1, [⟨[n5], -1⟩]⟩ := by rw [oneG, if_pos ⟨by decide, by decide⟩]
  have hm : mrgE ⟨2, [⟨[n5], 2⟩]⟩ ⟨-1, [⟨[n5], -1⟩]⟩ = 0 := by
    rw [mrgE, if_neg (by decide), sumE, if_neg (by simp [hb]), if_neg (by simp [bagB_one n5 (-1) n5_valid (by decide) (by decide)]), if_pos ⟨by simp [mrg_one, smallB], by simp [mrg_one, nzB]⟩]
  have e1 : addGE ⟨2, [⟨[n5], 2⟩]⟩ n5 (-1) = 0 := by rw [addGE, if_neg (by simp [hp]), ho, hm]
  refine ⟨e1, ?_⟩
  rw [addGG, if_neg (by simp [hp]), ho, mrgG, if_pos hm]
  simp [sumL, mrg_one, nzB]

def gk : Grp := ⟨1, [⟨[n5], 1⟩]⟩

theorem gk_ok : grpB gk = 0 := grpB_intro rfl (bagB_one n5 1 n5_valid (by decide) (by decide)) rfl

theorem k3 : resE 3 gk = 0 ∧ resV 3 gk = n5 ∧ resE 1 gk = 0 ∧ resV 1 gk = ⟨2, 1, bs []⟩ := by
  have h3 : resE 3 gk = 0 := by rw [resE, if_neg (by decide), if_neg (by simp [gk_ok])]; rfl
  have h1 : resE 1 gk = 0 := by rw [resE, if_neg (by decide), if_neg (by simp [gk_ok])]; rfl
  refine ⟨h3, ?_, h1, ?_⟩
  · rw [resV, if_neg (by simp [h3])]; kernel_rfl
  · rw [resV, if_neg (by simp [h1])]; kernel_rfl

structure It where
  v : V
  c : Int

end Go.AW

namespace Go.AW
attribute [local irreducible] ACalls
def wsum (φ : List V → Int) : List Ent → Int
  | [] => 0
  | e :: l => e.cnt * φ e.row + wsum φ l

def ind (r : List V) (s : List V) : Int := if rowsCmp s r = 0 then 1 else 0

theorem cntL_wsum : ∀ (l : List Ent) (r : List V), cntL l r = wsum (ind r) l
  | [], _ => rfl
  | e :: l, r => by
    rw [cntL, wsum, cntL_wsum l r, ind]
    split <;> simp

theorem wsum_mrg (φ : List V → Int) : ∀ (a b : List Ent), wsum φ (mrg a b) = wsum φ a + wsum φ b
  | [], b => by rw [mrg_nil, wsum]; omega
  | x :: a, [] => by rw [mrg_nil2]; simp [wsum]
  | x :: a, y :: b => by
    rw [mrg_cons]
    have ex : wsum φ (x :: a) = x.cnt * φ x.row + wsum φ a := rfl
    have ey : wsum φ (y :: b) = y.cnt * φ y.row + wsum φ b := rfl
    split
    · rw [wsum, wsum_mrg φ a (y :: b), ex]; omega
    split
    · rw [wsum, wsum_mrg φ (x :: a) b, ey]; omega
    · have hr : x.row = y.row := (rowsCmp_zero _ _).1 (by have := rowsCmp_vals x.row y.row; omega)
      rw [wsum, wsum_mrg φ a b, ex, ey]
      simp only [hr, Int.add_mul]; omega
termination_by a b => a.length + b.length

theorem wsum_nz (φ : List V → Int) : ∀ (l : List Ent), wsum φ (l.filter nzB) = wsum φ l
  | [] => rfl
  | e :: l => by
    rw [List.filter_cons]
    split
    · rw [wsum, wsum, wsum_nz φ l]
    · rename_i h
      have : e.cnt = 0 := by simpa [nzB] using h
      rw [wsum, wsum_nz φ l, this]; simp

def wt (φ : List V → Int) (x : It) : Int := if x.v.kind ≠ 0 then x.c * φ [x.v] else 0

def tot (f : It → Int) : List It → Int
  | [] => 0
  | x :: l => f x + tot f l

theorem tot_append (f : It → Int) : ∀ (a b : List It), tot f (a ++ b) = tot f a + tot f b
  | [], b => by simp [tot]
  | x :: a, b => by rw [List.cons_append, tot, tot, tot_append f a b]; omega

theorem tot_bound (f : It → Int) (B : Int) (hB : 0 ≤ B) : ∀ (l : List It), (∀ x ∈ l, -B ≤ f x ∧ f x ≤ B) → -(B * l.length) ≤ tot f l ∧ tot f l ≤ B * l.length
  | [], _ => by simp [tot]
  | x :: l, h => by
    have h1 := tot_bound f B hB l fun x hx => h x (List.mem_cons_of_mem _ hx)
    have h2 := h x (List.mem_cons_self ..)
    rw [tot, List.length_cons, Int.natCast_add, Int.mul_add]
    simp only [Int.natCast_one, Int.mul_one]
    omega

structure Rep (G : Grp) (l : List It) : Prop where
  ok : grpB G = 0
  n : G.n = tot It.c l
  cnt : ∀ φ, wsum φ G.vals = tot (wt φ) l
  len : G.vals.length ≤ l.length

def ItOk (x : It) : Prop := validB x.v = true ∧ -5 ≤ x.c ∧ x.c ≤ 5

theorem wt_bound (x : It) (h : ItOk x) (r : List V) : -5 ≤ wt (ind r) x ∧ wt (ind r) x ≤ 5 := by
  obtain ⟨_, h1, h2⟩ := h
  unfold wt ind
  split
  · split <;> omega
  · omega

theorem oneB_row {a b : Ent} (h : a.row = b.row) : oneB a = oneB b := by unfold oneB; rw [h]

theorem Rep.merge {G G' : Grp} {p q : List It} (h : Rep G p) (h' : Rep G' q) (hp : ∀ x ∈ p, ItOk x) (hq : ∀ x ∈ q, ItOk x) (hl : p.length + q.length ≤ 4096) :
    mrgE G G' = 0 ∧ Rep (mrgG G G') (p ++ q) := by
  obtain ⟨_, g1, g2, g3⟩ := grpB_ok h.ok
  obtain ⟨_, k1, k2, k3⟩ := grpB_ok h'.ok
  have hpq : ∀ x ∈ p ++ q, ItOk x := fun x hx => (List.mem_append.1 hx).elim (hp x) (hq x)
  have hn := tot_bound It.c 5 (by omega) (p ++ q) fun x hx => (hpq x hx).2
  rw [tot_append, List.length_append] at hn
  have hc : ∀ r, cntL (mrg G.vals G'.vals) r = tot (wt (ind r)) (p ++ q) := fun r => by rw [cntL_wsum, wsum_mrg, h.cnt, h'.cnt, tot_append]
  have hcs : ∀ r, smallB (cntL (mrg G.vals G'.vals) r) = true := fun r => by
    have := tot_bound (wt (ind r)) 5 (by omega) (p ++ q) fun x hx => wt_bound x (hpq x hx) r
    rw [List.length_append] at this
    rw [hc, smallB]; simp; omega
  have hml := mrg_length G.vals G'.vals
  have hl1 := h.len
  have hl2 := h'.len
  have hfl := List.length_filter_le nzB (mrg G.vals G'.vals)
  have hs := srt_mrg _ _ ((bagB_iff _).1 g2).2.2 ((bagB_iff _).1 k2).2.2
  have hrow : ∀ e ∈ mrg G.vals G'.vals, (e.row.length ≤ 12 ∧ e.row.all validB = true) ∧ oneB e = true := fun e he => by
    rcases mem_mrg _ _ e he with ⟨x, hx, hxr⟩ | ⟨x, hx, hxr⟩
    · exact ⟨hxr ▸ fit_row g2 x hx, oneB_row hxr ▸ List.all_eq_true.1 g3 x hx⟩
    · exact ⟨hxr ▸ fit_row k2 x hx, oneB_row hxr ▸ List.all_eq_true.1 k3 x hx⟩
  obtain ⟨r1, r2⟩ := resOk hs (by omega) (fun e he => (hrow e he).1) hcs
  have hrows : rowsB (G.n + G'.n) = true := by rw [h.n, h'.n, rowsB]; simp; omega
  have hE : mrgE G G' = 0 := by
    rw [mrgE, if_neg (by simp [hrows]), sumE, if_neg (by simp [g2]), if_neg (by simp [k2]), if_pos r1]
  have hG : mrgG G G' = ⟨G.n + G'.n, sumL G.vals G'.vals⟩ := by rw [mrgG, if_pos hE]
  refine ⟨hE, ?_⟩
  rw [hG]
  refine ⟨grpB_intro hrows r2 (List.all_eq_true.2 fun e he => (hrow e (List.mem_filter.1 he).1).2), ?_, fun φ => ?_, ?_⟩
  · rw [tot_append, ← h.n, ← h'.n]
  · show wsum φ ((mrg G.vals G'.vals).filter nzB) = _
    rw [wsum_nz, wsum_mrg, h.cnt, h'.cnt, tot_append]
  · rw [List.length_append]
    show ((mrg G.vals G'.vals).filter nzB).length ≤ _
    omega

theorem Rep.nil : Rep g0 [] := ⟨grpB_intro rfl rfl rfl, rfl, fun _ => rfl, Nat.le_refl _⟩

theorem Rep.one (x : It) (h : ItOk x) : Rep (oneG x.v x.c) [x] := by
  obtain ⟨hv, h1, h2⟩ := h
  have hsm : smallB x.c = true := by simp [smallB]; omega
  have hr : rowsB x.c = true := by simp [rowsB]; omega
  by_cases hx : x.v.kind ≠ 0 ∧ x.c ≠ 0
  · have ho : oneG x.v x.c = ⟨x.c, [⟨[x.v], x.c⟩]⟩ := by rw [oneG, if_pos hx]
    rw [ho]
    refine ⟨grpB_intro hr (bagB_one _ _ hv hx.2 hsm) (by simp [oneB, hx.1]), by simp [tot], fun φ => ?_, by simp⟩
    simp only [tot, wsum, wt]; rw [if_pos hx.1]
  · have ho : oneG x.v x.c = ⟨x.c, []⟩ := by rw [oneG, if_neg hx]
    rw [ho]
    refine ⟨grpB_intro hr rfl rfl, by simp [tot], fun φ => ?_, by simp⟩
    simp only [tot, wsum, wt]
    split
    · rename_i hk
      have : x.c = 0 := Classical.byContradiction fun hn => hx ⟨hk, hn⟩
      rw [this]; simp
    · rfl

theorem Rep.add {G : Grp} {p : List It} {x : It} (h : Rep G p) (hp : ∀ x ∈ p, ItOk x) (hx : ItOk x) (hl : p.length + 1 ≤ 4096) :
    addGE G x.v x.c = 0 ∧ Rep (addGG G x.v x.c) (p ++ [x]) := by
  have hsm : smallB x.c = true := by have := hx.2; simp [smallB]; omega
  have hpre : preE G x.v x.c = 0 := by rw [preE, if_neg (by simp [h.ok]), if_neg (by simp [hx.1]), if_neg (by simp [hsm])]
  have hm := h.merge (Rep.one x hx) hp (fun y hy => by rw [List.mem_singleton] at hy; subst hy; exact hx) (by simpa using hl)
  rw [addGE, addGG, if_neg (by simp [hpre]), if_neg (by simp [hpre])]
  exact hm

end Go.AW

namespace Go.AW
attribute [local irreducible] ACalls
def pureO : AObj → Bool
  | .arr _ es => pureEs es
  | .iter _ _ => true

theorem gpO_of {H : List AObj} {ids : List Nat} : ∀ (is : List Nat) (r : List AObj), is.length = r.length → (∀ (k id : Nat) (o : AObj), is[k]? = some id → r[k]? = some o → H[id]? = some o ∧ pureO o = true) → gpO H ids is r
  | [], [], _, _ => trivial
  | [], _ :: _, h, _ => by simp at h
  | _ :: _, [], h, _ => by simp at h
  | id :: is, o :: r, hl, h => by
    obtain ⟨h1, h2⟩ := h 0 id o rfl rfl
    refine ⟨⟨o, h1, ?_⟩, gpO_of is r (by simpa using hl) fun k id o h1 h2 => h (k + 1) id o (by simpa using h1) (by simpa using h2)⟩
    cases o with
    | arr s es => exact .same s es h2
    | iter s p => exact .iter s p

theorem Gp.first {n : Nat} {live : List (Nat × AVal)} {ρ : List AVal} {H : List AObj} {I : List AVal → List AObj → Prop} (k : Nat) (H1 : List AObj) (hk : H.take k = H1) (hn : H1.length = k) (hp : H1.all pureO = true)
    (hl : ρ.length = n) (h : SvPub H (List.range k) ρ live) (hI : ∀ ρ1, Sv n live ρ1 → I ρ1 H1) : Gp [] ρ H I := by
  refine Gp.some (H1 := H1) (List.range k) List.nodup_range (gpO_of _ _ (by simp [hn]) fun j id o h1 h2 => ?_) hl h hI
  have hj := (List.getElem?_eq_some_iff.1 h2).1
  rw [List.getElem?_range (by omega)] at h1
  cases h1
  refine ⟨?_, List.all_eq_true.1 hp o (List.mem_of_getElem? h2)⟩
  rw [← hk, List.getElem?_take] at h2
  rwa [if_pos (by omega)] at h2

end Go.AW

namespace Go.AW
def BItem (x : It) : Prop := validB x.v = true ∧ 0 ≤ x.c ∧ x.c ≤ 5 ∧ (x.v.kind ≠ 0 → x.v.kind = 2 ∧ -1073741824 ≤ x.v.num ∧ x.v.num ≤ 1073741824)

theorem BItem.ok {x : It} (h : BItem x) : ItOk x := ⟨h.1, by have := h.2.1; omega, h.2.2.1⟩

end Go.AW

namespace Go.AW
attribute [local irreducible] ACalls
def beN : Nat → Int → List Int
  | 0, _ => []
  | k + 1, n => beN k (n / 256) ++ [n % 256]

theorem beN_length : ∀ (k : Nat) (n : Int), (beN k n).length = k
  | 0, _ => rfl
  | k + 1, n => by rw [beN, List.length_append, beN_length k]; rfl

theorem beN_byt : ∀ (k : Nat) (n : Int), Byt (beN k n)
  | 0, _ => fun x h => by simp [beN] at h
  | k + 1, n => fun x h => by
    rw [beN] at h
    rcases List.mem_append.1 h with h | h
    · exact beN_byt k _ x h
    · rw [List.mem_singleton] at h; subst h; omega

theorem beN_head : ∀ (k : Nat) (n : Int), beN (k + 1) n = (n / 256 ^ k) % 256 :: beN k n
  | 0, n => by simp [beN]
  | k + 1, n => by
    rw [beN, beN_head k (n / 256), beN, List.cons_append]
    congr 2
    rw [Int.ediv_ediv_of_nonneg (by omega), Int.pow_succ, Int.mul_comm]

def w2 (n : Int) : List Int := [u8 (n.fdiv (2 ^ 8)), u8 n]

theorem w2_eq (n : Int) : w2 n = beN 2 n := by
  simp only [w2, beN, u8_eq, List.nil_append, List.singleton_append]
  rw [Int.fdiv_eq_ediv_of_nonneg _ (by omega)]; rfl

theorem w4_eq (n : Int) : w4 n = beN 4 n := by
  simp only [w4, beN, u8_eq, List.nil_append, List.singleton_append, List.cons_append]
  rw [Int.fdiv_eq_ediv_of_nonneg _ (by omega), Int.fdiv_eq_ediv_of_nonneg _ (by omega), Int.fdiv_eq_ediv_of_nonneg _ (by omega)]
  congr 1
  · omega
  congr 1
  · omega

def p4 (n : Int) : List Int := w2 (IntKind.i64.wrap (n.fdiv (2 ^ 16))) ++ [u8 (n.fdiv (2 ^ 8)), u8 n]

theorem p4_eq (n : Int) (h0 : 0 ≤ n) (h1 : n < 4294967296) : p4 n = beN 4 n := by
  have e : n.fdiv (2 ^ 16) = n / 65536 := Int.fdiv_eq_ediv_of_nonneg _ (by omega)
  rw [p4, e, wrapI _ (by omega) (by omega), w2_eq]
  simp only [beN, u8_eq, List.nil_append, List.singleton_append, List.cons_append]
  rw [Int.fdiv_eq_ediv_of_nonneg _ (by omega)]
  congr 1
  · omega
  congr 1
  · omega

set_option maxRecDepth 20000 in
theorem put2_spec {P : Program} (F : F_batch_put2 P) (H : List AObj) (id : Nat) (es : List (List AVal)) (n : Int) (ho : H[id]? = some (.arr 1 es)) (hl : es.length ≤ 1000000) :
    ACalls P F.id [.sl id es.length 0 es.length, .int .i64 n] H (fun r H' => r = .sl id (es ++ bC (w2 n)).length 0 (es ++ bC (w2 n)).length ∧ H' = H.set id (.arr 1 (es ++ bC (w2 n)))) := by
  refine acalls_of_body F.has ?_
  repeat' ((conv => whnf); first | refine And.intro (by decide) ?_ | refine recO ho ?_ | refine recT (Nat.beq_refl _) ?_)
  conv => whnf
  refine And.intro ⟨?_, ?_, rfl, rfl⟩ ?_
  · exact roomB_le1 (by simp; omega)
  · exact roomB_le (by simp; omega)
  rw [setO_eq]
  conv => whnf
  exact ⟨rfl, rfl⟩

set_option maxRecDepth 20000 in
theorem put2_nil {P : Program} (F : F_batch_put2 P) (n : Int) :
    ACalls P F.id [.nil, .int .i64 n] [] (fun r H' => r = .sl 0 2 0 2 ∧ H' = [.arr 1 (bC (w2 n))]) := by
  refine acalls_of_body F.has ?_
  (conv => whnf); refine And.intro (by decide) ?_
  (conv => whnf); refine And.intro (⟨roomB_le1 (by simp), roomB_le (by simp)⟩) ?_
  conv => whnf
  exact ⟨rfl, rfl⟩

set_option maxRecDepth 20000 in
theorem put4_spec {P : Program} (F : F_batch_put4 P) (H : List AObj) (id : Nat) (es : List (List AVal)) (n : Int) (ho : H[id]? = some (.arr 1 es)) (hl : es.length ≤ 990000) :
    ACalls P F.id [.sl id es.length 0 es.length, .int .u32 n] H (fun r H' => r = .sl id (es ++ bC (p4 n)).length 0 (es ++ bC (p4 n)).length ∧ H' = H.set id (.arr 1 (es ++ bC (p4 n)))) := by
  have hid := (List.getElem?_eq_some_iff.1 ho).1
  refine acalls_of_body F.has ?_
  (conv => whnf); refine And.intro (by decide) ?_
  (conv => whnf); refine ACalls.mono (put2_spec F.batch_put2 H id es (IntKind.i64.wrap (n.fdiv (2 ^ 16))) ho (by omega)) ?_
  rintro r H' ⟨rfl, rfl⟩
  have ho2 : (H.set id (.arr 1 (es ++ bC (w2 (IntKind.i64.wrap (n.fdiv (2 ^ 16)))))))[id]? = some (.arr 1 (es ++ bC (w2 (IntKind.i64.wrap (n.fdiv (2 ^ 16)))))) := List.getElem?_set_self hid
  (conv => whnf); refine And.intro (by decide) ?_
  (conv => whnf); refine recO (ho2) ?_
  (conv => whnf); refine recT (Nat.beq_refl _) ?_
  conv => whnf
  refine And.intro ⟨?_, ?_, rfl, rfl⟩ ?_
  · exact roomB_le1 (by simp [bC_length, w2]; omega)
  · exact roomB_le (by simp [bC_length, w2]; omega)
  rw [setO_eq]
  conv => whnf
  have e : es ++ bC (p4 n) = es ++ bC (w2 (IntKind.i64.wrap (n.fdiv (2 ^ 16)))) ++ bC [u8 (n.fdiv (2 ^ 8)), u8 n] := by rw [p4, bC_append, List.append_assoc]
  rw [e]
  exact ⟨rfl, by rw [List.set_set]; rfl⟩

set_option maxRecDepth 20000 in
theorem put4_nil {P : Program} (F : F_batch_put4 P) (n : Int) (H : List AObj) :
    ACalls P F.id [.nil, .int .u32 n] H (fun r H' => r = .list false 1 (bC (p4 n)) ∧ H' = H) := by
  refine ACalls.frz1 (n := 4) rfl ?_ rfl (pureEs_bC _)
  refine acalls_of_body F.has ?_
  (conv => whnf); refine And.intro (by decide) ?_
  (conv => whnf); refine ACalls.mono (put2_nil F.batch_put2 (IntKind.i64.wrap (n.fdiv (2 ^ 16)))) ?_
  rintro r H' ⟨rfl, rfl⟩
  (conv => whnf); refine And.intro (by decide) ?_
  (conv => whnf); refine And.intro (⟨roomB_le1 (by simp), roomB_le (by simp), rfl, rfl⟩) ?_
  conv => whnf
  exact ⟨rfl, rfl⟩

theorem byteCells_eq (s : ByteArray) : byteCells s.data.toList = bC (bytesI s) := by simp [byteCells, bC, bytesI]

theorem bytesI_length (s : ByteArray) : (bytesI s).length = s.size := by simp [bytesI]

set_option maxRecDepth 20000 in
theorem putText_spec {P : Program} (F : F_batch_putText P) (H : List AObj) (id : Nat) (es : List (List AVal)) (s : ByteArray) (ho : H[id]? = some (.arr 1 es)) (hl : es.length ≤ 100000) (hs : s.size ≤ 100000) :
    ACalls P F.id [.sl id es.length 0 es.length, .str s] H (fun r H' => r = .sl id (es ++ bC (u8 s.size :: bytesI s)).length 0 (es ++ bC (u8 s.size :: bytesI s)).length ∧ H' = H.set id (.arr 1 (es ++ bC (u8 s.size :: bytesI s)))) := by
  have hid := (List.getElem?_eq_some_iff.1 ho).1
  have hbl := bytesI_length s
  refine acalls_of_body F.has ?_
  (conv => whnf); refine recO (ho) ?_
  (conv => whnf); refine recT (Nat.beq_refl _) ?_
  conv => whnf
  refine And.intro ⟨?_, ?_, rfl, rfl⟩ ?_
  · exact roomB_le1 (by simp; omega)
  · exact roomB_le (by simp; omega)
  rw [setO_eq]
  have ho2 : (H.set id (.arr 1 (es ++ [[AVal.int .u8 (u8 s.size)]])))[id]? = some (.arr 1 (es ++ [[AVal.int .u8 (u8 s.size)]])) := List.getElem?_set_self hid
  (conv => whnf); refine recO (ho2) ?_
  (conv => whnf); refine recT (Nat.beq_refl _) ?_
  conv => whnf
  refine And.intro ⟨?_, ?_, rfl, rfl⟩ ?_
  · exact roomB_le1 (by rw [byteCells_eq]; simp [bC_length]; omega)
  · exact roomB_le (by rw [byteCells_eq]; simp [bC_length]; omega)
  rw [setO_eq]
  conv => whnf
  have e : es ++ bC (u8 s.size :: bytesI s) = es ++ [[AVal.int .u8 (u8 s.size)]] ++ byteCells s.data.toList := by rw [byteCells_eq]; simp [bC]
  rw [e]
  exact ⟨rfl, by rw [List.set_set]⟩

def fnvS (s c : Int) : Int := IntKind.u32.wrap (IntKind.u32.wrap (BitVec.ofInt 32 s ^^^ BitVec.ofInt 32 (IntKind.u32.wrap c)).toNat * 16777619)

def fnvG (l : List Int) (s : Int) : Int := l.foldl fnvS s

def fnv (l : List Int) : Int := fnvG l 2166136261

theorem u32_wrap (n : Int) : IntKind.u32.wrap n = n % 4294967296 := by simp [IntKind.wrap, IntKind.bits, IntKind.signed]

theorem u64_wrap (n : Int) : IntKind.u64.wrap n = n % 18446744073709551616 := by simp [IntKind.wrap, IntKind.bits, IntKind.signed]

theorem fnvS_bound (s c : Int) : 0 ≤ fnvS s c ∧ fnvS s c < 4294967296 := by rw [fnvS, u32_wrap]; omega

theorem fnvG_bound : ∀ (l : List Int) (s : Int), 0 ≤ s → s < 4294967296 → 0 ≤ fnvG l s ∧ fnvG l s < 4294967296
  | [], s, h1, h2 => ⟨h1, h2⟩
  | c :: l, s, _, _ => fnvG_bound l (fnvS s c) (fnvS_bound s c).1 (fnvS_bound s c).2

theorem fnv_bound (l : List Int) : 0 ≤ fnv l ∧ fnv l < 4294967296 := fnvG_bound l _ (by decide) (by decide)

theorem bC_get {l : List Int} {k : Nat} {x : Int} (h : l[k]? = some x) : (bC l)[k]? = some [.int .u8 x] := by rw [bC, List.getElem?_map, h]; rfl

set_option maxRecDepth 20000 in
theorem Checksum_spec {P : Program} (F : F_batch_Checksum P) (ex : Bool) (l : List Int) (hl : l.length ≤ 100000000) (H : List AObj) :
    ACalls P F.id [.list ex 1 (bC l)] H (fun r H' => r = .int .u32 (fnv l) ∧ H' = H) := by
  refine ACalls.pure rfl (acalls_of_body F.has ?_)
  conv => whnf
  refine ⟨fun m ρ H1 => ∃ (k : Nat) (s : Int), k + m = l.length ∧ fnvG (l.drop k) s = fnv l ∧ H1 = [] ∧
    Sv 19 [(3, .int .u32 s), (6, .list ex 1 (bC l)), (7, .int .i64 l.length), (8, .int .i64 k)] ρ, l.length, [], ?_, ?_⟩
  · exact ⟨0, _, by omega, rfl, rfl, Sv.intro rfl ⟨rfl, rfl, intEq (by rw [bC_length]), rfl, trivial⟩⟩
  rintro m ρ H1 ⟨k, s, hk, hr, rfl, d, rfl⟩
  (conv => whnf); refine recA (fun hlt => ?_) (fun hlt => ?_)
  · simp at hlt
    obtain ⟨x, hx, hd, _⟩ := get_drop hlt
    rw [hd] at hr
    (conv => whnf); refine And.intro (by omega) ?_
    (conv => whnf); refine recO (bC_get hx) ?_
    conv => whnf
    refine ⟨m - 1, by omega, Gp.keep rfl ?_ fun ρ1 h => ⟨k + 1, fnvS s x, by omega, hr, rfl, h⟩⟩
    exact ⟨rfl, rfl, rfl, intEq (wrapI ((k : Int) + 1) (by omega) (by omega)), trivial⟩
  · simp at hlt
    conv => whnf
    rw [List.drop_eq_nil_of_le hlt] at hr
    exact pubI hr

theorem xor_nat (k : Nat) (a b : Nat) (ha : a < 2 ^ k) (hb : b < 2 ^ k) : (BitVec.ofInt k (a : Int) ^^^ BitVec.ofInt k (b : Int)).toNat = a ^^^ b := by
  rw [BitVec.toNat_xor, BitVec.ofInt_natCast, BitVec.ofInt_natCast, BitVec.toNat_ofNat, BitVec.toNat_ofNat, Nat.mod_eq_of_lt ha, Nat.mod_eq_of_lt hb]

theorem fnv_ref (s c : Int) (h0 : 0 ≤ s) (h1 : s < 4294967296) (c0 : 0 ≤ c) (c1 : c ≤ 255) :
    (IntKind.u64.wrap (IntKind.u64.wrap (BitVec.ofInt 64 s ^^^ BitVec.ofInt 64 (IntKind.u64.wrap c)).toNat * 16777619)).tmod 4294967296 = fnvS s c := by
  obtain ⟨a, rfl⟩ := Int.eq_ofNat_of_zero_le h0
  obtain ⟨b, rfl⟩ := Int.eq_ofNat_of_zero_le c0
  have w1 : IntKind.u64.wrap (b : Int) = b := by rw [u64_wrap]; omega
  have w2 : IntKind.u32.wrap (b : Int) = b := by rw [u32_wrap]; omega
  have hx : a ^^^ b < 2 ^ 32 := Nat.xor_lt_two_pow (by omega) (by omega)
  rw [fnvS, w1, w2, xor_nat 64 a b (by omega) (by omega), xor_nat 32 a b (by omega) (by omega)]
  rw [u64_wrap, u64_wrap, u32_wrap, u32_wrap, Int.tmod_eq_emod_of_nonneg (by omega)]
  omega

set_option maxRecDepth 20000 in
theorem ref24_Checksum_spec {P : Program} (F : F_warehouseref24_Checksum P) (ex : Bool) (l : List Int) (hl : l.length ≤ 100000000) (hb : Byt l) (H : List AObj) :
    ACalls P F.id [.list ex 1 (bC l)] H (fun r H' => r = .int .u32 (fnv l) ∧ H' = H) := by
  refine ACalls.pure rfl (acalls_of_body F.has ?_)
  conv => whnf
  refine ⟨fun m ρ H1 => ∃ (k : Nat) (s : Int), k + m = l.length ∧ fnvG (l.drop k) s = fnv l ∧ 0 ≤ s ∧ s < 4294967296 ∧ H1 = [] ∧
    Sv 22 [(0, .list ex 1 (bC l)), (3, .int .u64 s), (4, .int .i64 k)] ρ, l.length, [], ?_, ?_⟩
  · exact ⟨0, _, by omega, rfl, by decide, by decide, rfl, Sv.intro rfl ⟨rfl, rfl, rfl, trivial⟩⟩
  rintro m ρ H1 ⟨k, s, hk, hr, s0, s1, rfl, d, rfl⟩
  (conv => whnf); refine recA (fun hlt => ?_) (fun hlt => ?_)
  · simp [bC_length] at hlt
    obtain ⟨x, hx, hd, hxm⟩ := get_drop hlt
    rw [hd] at hr
    have hxb := hb x hxm
    (conv => whnf); refine And.intro (by omega) ?_
    (conv => whnf); refine recO (bC_get hx) ?_
    (conv => whnf); refine And.intro (by decide) ?_
    conv => whnf
    refine ⟨m - 1, by omega, Gp.keep rfl ?_ fun ρ1 h => ⟨k + 1, fnvS s x, by omega, hr, (fnvS_bound s x).1, (fnvS_bound s x).2, rfl, h⟩⟩
    exact ⟨rfl, intEq (fnv_ref s x s0 s1 hxb.1 hxb.2), intEq (wrapI ((k : Int) + 1) (by omega) (by omega)), trivial⟩
  · simp [bC_length] at hlt
    conv => whnf
    rw [List.drop_eq_nil_of_le hlt] at hr
    have e : IntKind.u32.wrap s = s := by rw [u32_wrap]; omega
    exact pubI (by rw [← hr]; exact e)

theorem setEs_bC (l : List Int) (k : Nat) (v : Int) : setEs (bC l) k [.int .u8 v] = bC (l.set k v) := by rw [setEs_eq]; simp [bC]

def numK (k j : Nat) (n : Int) : List Int := List.replicate (k - j) 0 ++ beN j n

theorem numK_length {k j : Nat} (n : Int) (h : j ≤ k) : (numK k j n).length = k := by rw [numK, List.length_append, List.length_replicate, beN_length]; omega

theorem numK_set {k j : Nat} (n : Int) (h : j < k) : (numK k j n).set (k - 1 - j) ((n / 256 ^ j) % 256) = numK k (j + 1) n := by
  rw [numK, numK, beN_head, show k - j = (k - (j + 1)) + 1 by omega, List.replicate_succ', List.append_assoc, List.set_append, if_neg (by simp; omega)]
  simp [show k - 1 - j - (k - (j + 1)) = 0 by omega]

theorem div_pow (n : Int) (j : Nat) : n / 256 ^ j / 256 = n / 256 ^ (j + 1) := by
  rw [Int.ediv_ediv_of_nonneg (Int.pow_nonneg (by omega)), Int.pow_succ]

set_option maxRecDepth 20000 in
theorem ref24_number_raw {P : Program} (F : F_warehouseref24_number P) (n : Int) (k : Nat) (hn : 0 ≤ n) (hn2 : n ≤ 9000000000000000000) (hk : k ≤ 100) :
    ACalls P F.id [.int .i64 n, .int .i64 k] [] (fun r H' => r = .sl 0 k 0 k ∧ H' = [.arr 1 (bC (beN k n))]) := by
  refine acalls_of_body F.has ?_
  (conv => whnf); refine And.intro (⟨by omega, by omega, by show (k : Int) * ((1 : Nat) : Int) ≤ 1099511627776; omega, by show (k : Int) ≤ 1099511627776; omega⟩) ?_
  conv => whnf
  have ew : IntKind.i64.wrap ((k : Int) - 1) = (k : Int) - 1 := wrapI _ (by omega) (by omega)
  refine ⟨fun m ρ H1 => ∃ j : Nat, j + m = k ∧ H1 = [.arr 1 (bC (numK k j n))] ∧
    Sv 24 [(0, .int .i64 (n / 256 ^ j)), (5, .sl 0 k 0 k), (6, .int .i64 ((k : Int) - 1 - j))] ρ, k, [], ?_, ?_⟩
  · refine ⟨0, by omega, ?_, Sv.intro rfl ⟨intEq (by simp), rfl, intEq (by rw [ew]; omega), trivial⟩⟩
    simp [numK, beN, bC]
  rintro m ρ H1 ⟨j, hj, rfl, d, rfl⟩
  have hlen : (bC (numK k j n)).length = k := by rw [bC_length, numK_length n (by omega)]
  have hq0 : 0 ≤ n / 256 ^ j := Int.ediv_nonneg hn (Int.pow_nonneg (by omega))
  have hq1 : n / 256 ^ j ≤ n := Int.ediv_le_self _ hn
  (conv => whnf); refine recA (fun hlt => ?_) (fun hlt => ?_)
  · replace hlt : decide ((k : Int) - 1 - j ≥ 0) = true := hlt
    simp at hlt
    have hjn : ((k : Int) - 1 - j).toNat = k - 1 - j := by omega
    have hg : (bC (numK k j n))[0 + ((k : Int) - 1 - j).toNat]? = some [.int .u8 ((numK k j n)[k - 1 - j]'(by rw [numK_length n (by omega)]; omega))] := by
      rw [Nat.zero_add, hjn]; exact bC_get (List.getElem?_eq_getElem _)
    (conv => whnf); refine And.intro (by decide) ?_
    (conv => whnf); refine recT (by rw [hlen]; exact Nat.beq_refl _) ?_
    (conv => whnf); refine And.intro (⟨by omega, by omega⟩) ?_
    (conv => whnf); refine recT (by rw [hlen]; exact Nat.beq_refl _) ?_
    (conv => whnf); refine recO (hg) ?_
    (conv => whnf); refine And.intro (by decide) ?_
    conv => whnf
    refine ⟨m - 1, by omega, Gp.keep rfl ?_ fun ρ1 h => ⟨j + 1, by omega, ?_, h⟩⟩
    · refine ⟨intEq ?_, rfl, intEq ?_, trivial⟩
      · show IntKind.i64.wrap ((n / 256 ^ j).tdiv 256) = _
        rw [Int.tdiv_eq_ediv_of_nonneg hq0, div_pow, wrapI _ (by have := Int.ediv_nonneg hn (Int.pow_nonneg (n := 256) (m := j + 1) (by omega)); omega) (by have := Int.ediv_le_self (256 ^ (j + 1)) hn; omega)]
      · show IntKind.i64.wrap ((k : Int) - 1 - j - 1) = _
        rw [wrapI _ (by omega) (by omega)]; omega
    · have hv : IntKind.u8.wrap ((n / 256 ^ j).tmod 256) = (n / 256 ^ j) % 256 := by
        have := u8_eq ((n / 256 ^ j).tmod 256)
        rw [show u8 ((n / 256 ^ j).tmod 256) = IntKind.u8.wrap ((n / 256 ^ j).tmod 256) from rfl] at this
        rw [this, Int.tmod_eq_emod_of_nonneg hq0]; omega
      rw [← numK_set n (by omega), ← setEs_bC, ← hv, ← hjn]
      show [AObj.arr 1 (setEs (bC (numK k j n)) (0 + ((k : Int) - 1 - j).toNat) _)] = _
      rw [Nat.zero_add]
  · replace hlt : decide ((k : Int) - 1 - j ≥ 0) = false := hlt
    simp at hlt
    have : j = k := by omega
    subst this
    conv => whnf
    refine ⟨rfl, ?_⟩
    simp [numK]

theorem ref24_number_spec {P : Program} (F : F_warehouseref24_number P) (n : Int) (k : Nat) (hn : 0 ≤ n) (hn2 : n ≤ 9000000000000000000) (hk : k ≤ 100) (H : List AObj) :
    ACalls P F.id [.int .i64 n, .int .i64 k] H (fun r H' => r = .list false 1 (bC (beN k n)) ∧ H' = H) :=
  ACalls.frz1 rfl (ref24_number_raw F n k hn hn2 hk) (by rw [bC_length, beN_length]) (pureEs_bC _)

end Go.AW

namespace Go.AW
attribute [local irreducible] ACalls
structure Rec where
  del : Bool
  seq : Int
  row : List V

structure Fil where
  id : ByteArray
  src : ByteArray
  recs : List Rec

def recC (r : Rec) : List AVal := [.bool r.del, .int .i64 r.seq, .list false 3 (vC r.row)]

def rC (l : List Rec) : List (List AVal) := l.map recC

def fV (f : Fil) : List AVal := [.str f.id, .str f.src, .list false 3 (rC f.recs)]

theorem rC_length (l : List Rec) : (rC l).length = l.length := List.length_map ..

theorem rC_append (a b : List Rec) : rC (a ++ b) = rC a ++ rC b := List.map_append

theorem pureEs_rC (l : List Rec) : pureEs (rC l) = true := by simp [pureEs, rC, recC, AVal.isPure]

theorem rC_at {l : List Rec} {k : Nat} {x : Rec} (h : l[k]? = some x) : (rC l)[k]? = some (recC x) := by rw [rC, List.getElem?_map, h]; rfl

def rowE (row : List V) : Int := if 12 < row.length then 2 else if row.all validB then 0 else 8

theorem encR_eq (row : List V) : encR row = if rowE row = 0 then .tuple [.list false 1 (bC (encB row)), .int .i64 0] else .tuple [.nil, .int .i64 (rowE row)] := by
  unfold encR rowE
  split
  · rw [if_neg (by decide)]
  · split
    · rw [if_pos rfl]
    · rw [if_neg (by decide)]

theorem rowE_zero {row : List V} (h : rowE row = 0) : row.length ≤ 12 ∧ row.all validB = true := by
  unfold rowE at h
  split at h
  · cases h
  · split at h
    · exact ⟨by omega, by assumption⟩
    · cases h

theorem encB_len {row : List V} (h : rowE row = 0) : (encB row).length ≤ 793 := by
  obtain ⟨h1, h2⟩ := rowE_zero h
  have := encK_len row row.length (by rw [List.take_length]; exact h2)
  rw [encK, List.take_length] at this
  show (u8 row.length :: row.flatMap encV).length ≤ 793
  omega

def recE (r : Rec) : Int := if r.seq < 0 ∨ 1073741824 < r.seq then 1 else rowE r.row

def recsE : List Rec → Int
  | [] => 0
  | r :: l => if recE r ≠ 0 then recE r else recsE l

def filE (f : Fil) : Int := if nameB f.id = false ∨ qualB f.src = false then 4 else if 1024 < f.recs.length then 2 else recsE f.recs

theorem recsE_zero : ∀ {l : List Rec}, recsE l = 0 → ∀ r ∈ l, recE r = 0
  | [], _, r, hr => by simp at hr
  | x :: l, h, r, hr => by
    rw [recsE] at h
    split at h
    · rename_i hx; exact absurd h hx
    · rename_i hx
      rcases List.mem_cons.1 hr with rfl | hr
      · simpa using hx
      · exact recsE_zero h r hr

theorem recE_zero {r : Rec} (h : recE r = 0) : 0 ≤ r.seq ∧ r.seq ≤ 1073741824 ∧ rowE r.row = 0 := by
  unfold recE at h
  split at h
  · cases h
  · exact ⟨by omega, by omega, h⟩

set_option maxRecDepth 20000 in
theorem batch_Validate_spec {P : Program} (F : F_batch_Validate P) (f : Fil) (hs : f.src.size ≤ 1000000) (H : List AObj) :
    ACalls P F.id [.agg (fV f)] H (fun r H' => r = .int .i64 (filE f) ∧ H' = H) := by
  refine ACalls.pure (by simp [AVal.closed, fV, AVal.isPure]) (acalls_of_body F.has ?_)
  (conv => whnf); refine ACalls.use (schema_IsName_spec F.schema_IsName f.id _) ?_
  (conv => whnf); refine recA (fun h1 => ?_) (fun h1 => ?_)
  · replace h1 : (!(nameB f.id)) = true := h1
    simp at h1
    conv => whnf
    exact pubI (by rw [filE, if_pos (.inl h1)])
  replace h1 : (!(nameB f.id)) = false := h1
  simp at h1
  (conv => whnf); refine ACalls.use (schema_IsQualified_spec F.schema_IsQualified f.src hs _) ?_
  (conv => whnf); refine recA (fun h2 => ?_) (fun h2 => ?_)
  · replace h2 : (!(qualB f.src)) = true := h2
    simp at h2
    conv => whnf
    exact pubI (by rw [filE, if_pos (.inr h2)])
  replace h2 : (!(qualB f.src)) = false := h2
  simp at h2
  (conv => whnf); refine recA (fun h3 => ?_) (fun h3 => ?_)
  · simp [rC_length] at h3
    conv => whnf
    exact pubI (by rw [filE, if_neg (by simp [h1, h2]), if_pos (by omega)])
  simp [rC_length] at h3
  have hR : recsE f.recs = filE f := by rw [filE, if_neg (by simp [h1, h2]), if_neg (by omega)]
  conv => whnf
  refine ⟨fun m ρ H1 => ∃ k : Nat, k + m = f.recs.length ∧ recsE (f.recs.drop k) = recsE f.recs ∧ H1 = [.arr 3 [fV f]] ∧
    Sv 46 [(22, .list false 3 (rC f.recs)), (23, .int .i64 f.recs.length), (24, .int .i64 k)] ρ, f.recs.length, [], ?_, ?_⟩
  · exact ⟨0, by omega, rfl, rfl, Sv.intro rfl ⟨rfl, intEq (by rw [rC_length]), rfl, trivial⟩⟩
  rintro m ρ H1 ⟨k, hk, hr, rfl, d, rfl⟩
  (conv => whnf); refine recA (fun hlt => ?_) (fun hlt => ?_)
  · simp at hlt
    obtain ⟨x, hx, hd, _⟩ := get_drop hlt
    rw [hd, recsE] at hr
    (conv => whnf); refine And.intro (by omega) ?_
    (conv => whnf); refine recO (rC_at hx) ?_
    (conv => whnf); refine recA (fun h4 => ?_) (fun h4 => ?_)
    · simp at h4
      have hx0 : recE x = 1 := by rw [recE, if_pos (by omega)]
      rw [hx0, if_pos (by decide)] at hr
      conv => whnf
      exact pubI (by rw [← hR, hr])
    simp at h4
    (conv => whnf); refine recA (fun h5 => ?_) (fun h5 => ?_)
    · simp at h5
      have hx0 : recE x = 1 := by rw [recE, if_pos (by omega)]
      rw [hx0, if_pos (by decide)] at hr
      conv => whnf
      exact pubI (by rw [← hR, hr])
    simp at h5
    have hrow := encode_list F.value_Encode false x.row
    rw [encR_eq] at hrow
    by_cases hz : rowE x.row = 0
    · rw [if_pos hz] at hrow
      have hx0 : recE x = 0 := by rw [recE, if_neg (by omega)]; exact hz
      rw [if_neg (by simp [hx0])] at hr
      (conv => whnf); refine ACalls.use (hrow _) ?_
      conv => whnf
      refine ⟨m - 1, by omega, Gp.first 1 [.arr 3 [fV f]] rfl rfl (by simp [pureO, pureEs, fV, AVal.isPure]) rfl ?_ fun ρ1 h => ⟨k + 1, by omega, hr, rfl, h⟩⟩
      exact ⟨.closed _ rfl, .closed _ rfl, pub_int (wrapI ((k : Int) + 1) (by omega) (by omega)), trivial⟩
    · rw [if_neg hz] at hrow
      have hx0 : recE x = rowE x.row := by rw [recE, if_neg (by omega)]
      rw [if_pos (by rw [hx0]; exact hz), hx0] at hr
      (conv => whnf); refine ACalls.use (hrow _) ?_
      (conv => whnf); refine recT (by show (!(rowE x.row == 0)) = true; simp [hz]) ?_
      conv => whnf
      exact pubI (by rw [← hR, hr])
  · simp at hlt
    conv => whnf
    rw [List.drop_eq_nil_of_le hlt, recsE] at hr
    exact pubI (by rw [← hR, hr])

set_option maxRecDepth 20000 in
theorem ref24_Validate_spec {P : Program} (F : F_warehouseref24_Validate P) (f : Fil) (hs : f.src.size ≤ 1000000) (H : List AObj) :
    ACalls P F.id [.agg (fV f)] H (fun r H' => r = .int .i64 (filE f) ∧ H' = H) := by
  refine ACalls.pure (by simp [AVal.closed, fV, AVal.isPure]) (acalls_of_body F.has ?_)
  (conv => whnf); refine ACalls.use (ref5_IsName_spec F.warehouseref5_IsName f.id _) ?_
  (conv => whnf); refine recA (fun h1 => ?_) (fun h1 => ?_)
  · replace h1 : (!(nameB f.id)) = true := h1
    simp at h1
    conv => whnf
    exact pubI (by rw [filE, if_pos (.inl h1)])
  replace h1 : (!(nameB f.id)) = false := h1
  simp at h1
  (conv => whnf); refine ACalls.use (ref5_IsQualified_spec F.warehouseref5_IsQualified f.src hs _) ?_
  (conv => whnf); refine recA (fun h2 => ?_) (fun h2 => ?_)
  · replace h2 : (!(qualB f.src)) = true := h2
    simp at h2
    conv => whnf
    exact pubI (by rw [filE, if_pos (.inr h2)])
  replace h2 : (!(qualB f.src)) = false := h2
  simp at h2
  (conv => whnf); refine recA (fun h3 => ?_) (fun h3 => ?_)
  · simp [rC_length] at h3
    conv => whnf
    exact pubI (by rw [filE, if_neg (by simp [h1, h2]), if_pos (by omega)])
  simp [rC_length] at h3
  have hR : recsE f.recs = filE f := by rw [filE, if_neg (by simp [h1, h2]), if_neg (by omega)]
  conv => whnf
  refine ⟨fun m ρ H1 => ∃ k : Nat, k + m = f.recs.length ∧ recsE (f.recs.drop k) = recsE f.recs ∧ H1 = [.arr 3 [fV f]] ∧
    Sv 56 [(1, .ptr 0 1 0 0), (3, .int .i64 k)] ρ, f.recs.length, [], ?_, ?_⟩
  · exact ⟨0, by omega, rfl, rfl, Sv.intro rfl ⟨rfl, rfl, trivial⟩⟩
  rintro m ρ H1 ⟨k, hk, hr, rfl, d, rfl⟩
  (conv => whnf); refine recA (fun hlt => ?_) (fun hlt => ?_)
  · simp [rC_length] at hlt
    obtain ⟨x, hx, hd, _⟩ := get_drop hlt
    rw [hd, recsE] at hr
    (conv => whnf); refine And.intro (by omega) ?_
    (conv => whnf); refine recO (rC_at hx) ?_
    (conv => whnf); refine recA (fun h4 => ?_) (fun h4 => ?_)
    · simp at h4
      have hx0 : recE x = 1 := by rw [recE, if_pos (by omega)]
      rw [hx0, if_pos (by decide)] at hr
      conv => whnf
      exact pubI (by rw [← hR, hr])
    simp at h4
    (conv => whnf); refine And.intro (by omega) ?_
    (conv => whnf); refine recO (rC_at hx) ?_
    (conv => whnf); refine recA (fun h5 => ?_) (fun h5 => ?_)
    · simp at h5
      have hx0 : recE x = 1 := by rw [recE, if_pos (by omega)]
      rw [hx0, if_pos (by decide)] at hr
      conv => whnf
      exact pubI (by rw [← hR, hr])
    simp at h5
    (conv => whnf); refine And.intro (by omega) ?_
    (conv => whnf); refine recO (rC_at hx) ?_
    have hrow := ref1_Encode_spec F.warehouseref1_Encode false x.row
    rw [encR_eq] at hrow
    by_cases hz : rowE x.row = 0
    · rw [if_pos hz] at hrow
      have hx0 : recE x = 0 := by rw [recE, if_neg (by omega)]; exact hz
      rw [if_neg (by simp [hx0])] at hr
      (conv => whnf); refine ACalls.use (hrow _) ?_
      conv => whnf
      refine ⟨m - 1, by omega, Gp.keep rfl ?_ fun ρ1 h => ⟨k + 1, by omega, hr, rfl, h⟩⟩
      exact ⟨rfl, intEq (wrapI ((k : Int) + 1) (by omega) (by omega)), trivial⟩
    · rw [if_neg hz] at hrow
      have hx0 : recE x = rowE x.row := by rw [recE, if_neg (by omega)]
      rw [if_pos (by rw [hx0]; exact hz), hx0] at hr
      (conv => whnf); refine ACalls.use (hrow _) ?_
      (conv => whnf); refine recT (by show (!(rowE x.row == 0)) = true; simp [hz]) ?_
      conv => whnf
      exact pubI (by rw [← hR, hr])
  · simp [rC_length] at hlt
    conv => whnf
    rw [List.drop_eq_nil_of_le hlt, recsE] at hr
    exact pubI (by rw [← hR, hr])

end Go.AW

namespace Go.AW
attribute [local irreducible] ACalls
def recB (r : Rec) : List Int := (if r.del then 1 else 0) :: (beN 4 r.seq ++ (beN 2 (encB r.row).length ++ encB r.row))

def headB (f : Fil) : List Int := [87, 72, 70, 49] ++ (u8 f.id.size :: bytesI f.id) ++ (u8 f.src.size :: bytesI f.src) ++ beN 2 f.recs.length

def bodyB (f : Fil) : List Int := headB f ++ f.recs.flatMap recB

def filB (f : Fil) : List Int := bodyB f ++ beN 4 (fnv (bodyB f))

def encFE (f : Fil) : Int := if filE f ≠ 0 then filE f else if 65536 < (filB f).length then 2 else 0

def encFR (f : Fil) : AVal := if encFE f = 0 then .tuple [.list false 1 (bC (filB f)), .int .i64 0] else .tuple [.nil, .int .i64 (encFE f)]

theorem recB_len {r : Rec} (h : recE r = 0) : (recB r).length ≤ 800 := by
  have := encB_len (recE_zero h).2.2
  simp only [recB, List.length_cons, List.length_append, beN_length]; omega

theorem recsB_len : ∀ {l : List Rec}, recsE l = 0 → (l.flatMap recB).length ≤ 800 * l.length
  | [], _ => by simp
  | r :: l, h => by
    have h1 := recB_len (recsE_zero h r (List.mem_cons_self ..))
    have h2 := recsB_len (l := l) (by rw [recsE] at h; split at h; (rename_i hx; exact absurd h hx); exact h)
    rw [List.flatMap_cons, List.length_append, List.length_cons]; omega

theorem recB_byt {r : Rec} (h : Byt (encB r.row)) : Byt (recB r) := by
  intro x hx
  rw [recB] at hx
  rcases List.mem_cons.1 hx with rfl | hx
  · split <;> omega
  · rcases List.mem_append.1 hx with hx | hx
    · exact beN_byt _ _ x hx
    · rcases List.mem_append.1 hx with hx | hx
      · exact beN_byt _ _ x hx
      · exact h x hx

set_option maxRecDepth 20000 in
theorem putRecord_spec {P : Program} (F : F_batch_putRecord P) (a c : AObj) (es : List Int) (r : Rec) (hl : es.length ≤ 980000) (hr : recE r = 0) :
    ACalls P F.id [.sl 1 es.length 0 es.length, .agg (recC r)] [a, .arr 1 (bC es), c] (fun q H' => q = .sl 1 (es ++ recB r).length 0 (es ++ recB r).length ∧ H' = [a, .arr 1 (bC (es ++ recB r)), c, .arr 3 [recC r]]) := by
  obtain ⟨s0, s1, hrow⟩ := recE_zero hr
  have hE := encode_list F.value_Encode false r.row
  rw [encR_eq, if_pos hrow] at hE
  have hel := encB_len hrow
  have ew : IntKind.u32.wrap r.seq = r.seq := by rw [u32_wrap]; omega
  have e4 : p4 (IntKind.u32.wrap r.seq) = beN 4 r.seq := by rw [ew, p4_eq _ s0 (by omega)]
  have e2 := w2_eq ((encB r.row).length : Int)
  refine acalls_of_body F.has ?_
  (conv => whnf); refine ACalls.use (hE _) ?_
  (conv => whnf); refine recA (fun hd => ?_) (fun hd => ?_)
  · replace hd : r.del = true := hd
    have hB : recB r = 1 :: (p4 (IntKind.u32.wrap r.seq) ++ (w2 (encB r.row).length ++ encB r.row)) := by rw [e4, e2]; exact (by simp [recB, hd])
    have hF : bC (es ++ recB r) = bC es ++ [[.int .u8 1]] ++ bC (p4 (IntKind.u32.wrap r.seq)) ++ bC (w2 (encB r.row).length) ++ bC (encB r.row) := by
      rw [hB]; simp [bC]
    have l4 : (p4 (IntKind.u32.wrap r.seq)).length = 4 := by rw [e4, beN_length]
    have l2 : (w2 ((encB r.row).length : Int)).length = 2 := by rw [e2, beN_length]
    (conv => whnf); refine recT (by rw [bC_length]; exact Nat.beq_refl _) ?_
    (conv => whnf); refine And.intro (⟨roomB_le1 (by simp; omega), roomB_le (by simp; omega), rfl, by rw [bC_length]⟩) ?_
    (conv => whnf); refine ⟨_, _, put4_spec F.batch_put4 [a, .arr 1 (bC es ++ [[.int .u8 1]]), c, .arr 3 [recC r]] 1 (bC es ++ [[.int .u8 1]]) (IntKind.u32.wrap r.seq) rfl (by simp [bC_length]; omega), ?_⟩
    (conv => whnf); refine And.intro (rfl) ?_
    (conv => whnf); refine ACalls.mono (put2_spec F.batch_put2 [a, .arr 1 (bC es ++ [[.int .u8 1]] ++ bC (p4 (IntKind.u32.wrap r.seq))), c, .arr 3 [recC r]] 1 (bC es ++ [[.int .u8 1]] ++ bC (p4 (IntKind.u32.wrap r.seq))) (bC (encB r.row)).length rfl (by simp [bC_length]; omega)) ?_
    rintro q H' ⟨rfl, rfl⟩
    rw [bC_length (encB r.row)]
    (conv => whnf); refine recT (Nat.beq_refl _) ?_
    (conv => whnf); refine And.intro (⟨roomB_le1 (by simp [bC_length]; omega), roomB_le (by simp [bC_length]; omega), rfl, rfl⟩) ?_
    conv => whnf
    refine ⟨slEq ?_ ?_, ?_⟩
    · rw [← bC_length (es ++ recB r), hF]
    · rw [← bC_length (es ++ recB r), hF]
    · rw [hF]
  · replace hd : r.del = false := hd
    have hB : recB r = 0 :: (p4 (IntKind.u32.wrap r.seq) ++ (w2 (encB r.row).length ++ encB r.row)) := by rw [e4, e2]; exact (by simp [recB, hd])
    have hF : bC (es ++ recB r) = bC es ++ [[.int .u8 0]] ++ bC (p4 (IntKind.u32.wrap r.seq)) ++ bC (w2 (encB r.row).length) ++ bC (encB r.row) := by
      rw [hB]; simp [bC]
    have l4 : (p4 (IntKind.u32.wrap r.seq)).length = 4 := by rw [e4, beN_length]
    have l2 : (w2 ((encB r.row).length : Int)).length = 2 := by rw [e2, beN_length]
    (conv => whnf); refine recT (by rw [bC_length]; exact Nat.beq_refl _) ?_
    (conv => whnf); refine And.intro (⟨roomB_le1 (by simp; omega), roomB_le (by simp; omega), rfl, by rw [bC_length]⟩) ?_
    (conv => whnf); refine ⟨_, _, put4_spec F.batch_put4 [a, .arr 1 (bC es ++ [[.int .u8 0]]), c, .arr 3 [recC r]] 1 (bC es ++ [[.int .u8 0]]) (IntKind.u32.wrap r.seq) rfl (by simp [bC_length]; omega), ?_⟩
    (conv => whnf); refine And.intro (rfl) ?_
    (conv => whnf); refine ACalls.mono (put2_spec F.batch_put2 [a, .arr 1 (bC es ++ [[.int .u8 0]] ++ bC (p4 (IntKind.u32.wrap r.seq))), c, .arr 3 [recC r]] 1 (bC es ++ [[.int .u8 0]] ++ bC (p4 (IntKind.u32.wrap r.seq))) (bC (encB r.row)).length rfl (by simp [bC_length]; omega)) ?_
    rintro q H' ⟨rfl, rfl⟩
    rw [bC_length (encB r.row)]
    (conv => whnf); refine recT (Nat.beq_refl _) ?_
    (conv => whnf); refine And.intro (⟨roomB_le1 (by simp [bC_length]; omega), roomB_le (by simp [bC_length]; omega), rfl, rfl⟩) ?_
    conv => whnf
    refine ⟨slEq ?_ ?_, ?_⟩
    · rw [← bC_length (es ++ recB r), hF]
    · rw [← bC_length (es ++ recB r), hF]
    · rw [hF]

theorem Checksum_own {P : Program} (F : F_batch_Checksum P) (l : List Int) (hl : l.length ≤ 100000000) (H : List AObj) (id : Nat) (ho : H[id]? = some (.arr 1 (bC l))) :
    ACalls P F.id [.sl id l.length 0 l.length] H (fun r H' => r = .int .u32 (fnv l) ∧ H' = H) := by
  refine ACalls.bor rfl ((Checksum_spec F false l hl []).mono fun r H' h => h.1) (Lents.cons ?_ Lents.nil)
  have := Lent.sl (H := H) id l.length 0 l.length 1 (bC l) ho (by rw [bC_length]) (pureEs_bC _)
  have e : ((bC l).drop 0).take l.length = bC l := by rw [List.drop_zero, List.take_of_length_le (by rw [bC_length]; exact Nat.le_refl _)]
  rwa [e] at this

theorem slCast {id a b : Nat} (h : a = b) : AVal.sl id a 0 a = .sl id b 0 b := by rw [h]

set_option maxRecDepth 20000 in
theorem batch_Encode_spec {P : Program} (F : F_batch_Encode P) (f : Fil) (hi : f.id.size ≤ 50000) (hs : f.src.size ≤ 50000) (H : List AObj) :
    ACalls P F.id [.agg (fV f)] H (fun r H' => r = encFR f ∧ H' = H) := by
  refine ACalls.pure (by simp [AVal.closed, fV, AVal.isPure]) (acalls_of_body F.has ?_)
  (conv => whnf); refine ACalls.use (batch_Validate_spec F.batch_Validate f (by omega) _) ?_
  (conv => whnf); refine recA (fun h1 => ?_) (fun h1 => ?_)
  · replace h1 : (!(filE f == 0)) = true := h1
    simp at h1
    have hE : encFE f = filE f := by rw [encFE, if_pos h1]
    conv => whnf
    rw [encFR, if_neg (by rw [hE]; exact h1), hE]
    exact pub2 (.closed _ rfl) (.closed _ rfl)
  replace h1 : (!(filE f == 0)) = false := h1
  simp at h1
  have hrec : recsE f.recs = 0 ∧ f.recs.length ≤ 1024 := by
    unfold filE at h1
    split at h1
    · cases h1
    · split at h1
      · cases h1
      · exact ⟨h1, by omega⟩
  have hE : encFE f = if 65536 < (filB f).length then 2 else 0 := by rw [encFE, if_neg (by simp [h1])]
  (conv => whnf); refine ⟨_, _, putText_spec F.batch_putText [.arr 3 [fV f], .arr 1 (bC [87, 72, 70, 49])] 1 (bC [87, 72, 70, 49]) f.id rfl (by simp [bC]) (by omega), ?_⟩
  (conv => whnf); refine ⟨_, _, putText_spec F.batch_putText [.arr 3 [fV f], .arr 1 (bC [87, 72, 70, 49] ++ bC (u8 f.id.size :: bytesI f.id))] 1 (bC [87, 72, 70, 49] ++ bC (u8 f.id.size :: bytesI f.id)) f.src rfl (by simp [bC, bytesI_length]; omega) (by omega), ?_⟩
  repeat ((conv => whnf); refine And.intro rfl ?_)
  have hhead : bC (headB f) = bC [87, 72, 70, 49] ++ bC (u8 f.id.size :: bytesI f.id) ++ bC (u8 f.src.size :: bytesI f.src) ++ bC (w2 (rC f.recs).length) := by
    rw [rC_length, w2_eq]; simp [headB, bC]
  have hhl : (headB f).length ≤ 100100 := by simp [headB, bytesI_length, beN_length]; omega
  (conv => whnf); refine ACalls.mono (put2_spec F.batch_put2 [.arr 3 [fV f], .arr 1 (bC [87, 72, 70, 49] ++ bC (u8 f.id.size :: bytesI f.id) ++ bC (u8 f.src.size :: bytesI f.src))] 1 (bC [87, 72, 70, 49] ++ bC (u8 f.id.size :: bytesI f.id) ++ bC (u8 f.src.size :: bytesI f.src)) (rC f.recs).length rfl (by simp [bC, bytesI_length]; omega)) ?_
  rintro r H' ⟨rfl, rfl⟩
  rw [← hhead]
  have hbl : ∀ k, (headB f ++ (f.recs.take k).flatMap recB).length ≤ 980000 := fun k => by
    have h1 : ∀ l : List Rec, recsE l = 0 → recsE (l.take k) = 0 := by
      intro l
      induction l generalizing k with
      | nil => intro _; simp [recsE]
      | cons r l ih =>
        intro h
        cases k with
        | zero => simp [recsE]
        | succ k =>
          rw [recsE] at h
          split at h
          · rename_i hx; exact absurd h hx
          · rename_i hx
            rw [List.take_succ_cons, recsE, if_neg hx]
            exact ih k h
    have h2 := recsB_len (h1 _ hrec.1)
    have h3 : (f.recs.take k).length ≤ f.recs.length := by rw [List.length_take]; omega
    rw [List.length_append]; omega
  conv => whnf
  refine ⟨fun m ρ H1 => ∃ k : Nat, k + m = f.recs.length ∧ H1 = [.arr 3 [fV f], .arr 1 (bC (headB f ++ (f.recs.take k).flatMap recB))] ∧
    Sv 45 [(5, .sl 1 (headB f ++ (f.recs.take k).flatMap recB).length 0 (headB f ++ (f.recs.take k).flatMap recB).length), (27, .list false 3 (rC f.recs)), (28, .int .i64 f.recs.length), (29, .int .i64 k)] ρ, f.recs.length, [], ?_, ?_⟩
  · refine ⟨0, by omega, by simp, Sv.intro rfl ⟨slCast (by rw [bC_length]; simp), rfl, intEq (by rw [rC_length]), rfl, trivial⟩⟩
  rintro m ρ H1 ⟨k, hk, rfl, d, rfl⟩
  (conv => whnf); refine recA (fun hlt => ?_) (fun hlt => ?_)
  · simp at hlt
    obtain ⟨x, hx, hd, hxm⟩ := get_drop hlt
    have htk : headB f ++ (f.recs.take (k + 1)).flatMap recB = headB f ++ (f.recs.take k).flatMap recB ++ recB x := by rw [List.take_add_one, hx]; simp
    (conv => whnf); refine And.intro (by omega) ?_
    (conv => whnf); refine recO (rC_at hx) ?_
    (conv => whnf); refine ACalls.mono (putRecord_spec F.batch_putRecord _ _ (headB f ++ (f.recs.take k).flatMap recB) x (hbl k) (recsE_zero hrec.1 x hxm)) ?_
    rintro q H' ⟨rfl, rfl⟩
    rw [← htk]
    conv => whnf
    refine ⟨m - 1, by omega, Gp.first 2 [.arr 3 [fV f], .arr 1 (bC (headB f ++ (f.recs.take (k + 1)).flatMap recB))] rfl rfl (by simp [pureO, pureEs_bC]; simp [pureEs, fV, AVal.isPure]) rfl ?_ fun ρ1 h => ⟨k + 1, by omega, rfl, h⟩⟩
    exact ⟨.keep 1 _ _ _ 1 rfl, .closed _ rfl, .closed _ rfl, pub_int (wrapI ((k : Int) + 1) (by omega) (by omega)), trivial⟩
  simp at hlt
  have hkl : f.recs.take k = f.recs := List.take_of_length_le hlt
  have hb9 := hbl k
  rw [hkl] at hb9 ⊢
  rw [show headB f ++ f.recs.flatMap recB = bodyB f from rfl] at hb9 ⊢
  (conv => whnf); refine ACalls.use (Checksum_own F.batch_Checksum (bodyB f) (by omega) _ 1 rfl) ?_
  have hp := put4_spec F.batch_put4 [.arr 3 [fV f], .arr 1 (bC (bodyB f))] 1 (bC (bodyB f)) (fnv (bodyB f)) rfl (by rw [bC_length]; omega)
  rw [p4_eq _ (fnv_bound _).1 (fnv_bound _).2, ← bC_append, show bodyB f ++ beN 4 (fnv (bodyB f)) = filB f from rfl, bC_length, bC_length] at hp
  (conv => whnf); refine ACalls.mono (hp) ?_
  rintro q H' ⟨rfl, rfl⟩
  (conv => whnf); refine recT (by rw [bC_length]; exact Nat.beq_refl _) ?_
  (conv => whnf); refine recA (fun h2 => ?_) (fun h2 => ?_)
  · simp at h2
    have hE2 : encFE f = 2 := by rw [hE, if_pos (by omega)]
    conv => whnf
    rw [encFR, if_neg (by rw [hE2]; decide), hE2]
    exact pub2 (.closed _ rfl) (.closed _ rfl)
  · simp at h2
    have hE2 : encFE f = 0 := by rw [hE, if_neg (by omega)]
    conv => whnf
    rw [encFR, if_pos hE2]
    exact pub2 (pubF (id := 1) rfl (by rw [bC_length]) (by rw [bC_length]) (pureEs_bC _)) (.closed _ rfl)

end Go.AW

namespace Go.AW
attribute [local irreducible] ACalls
theorem filE_ok {f : Fil} (h1 : filE f = 0) : recsE f.recs = 0 ∧ f.recs.length ≤ 1024 ∧ nameB f.id = true ∧ qualB f.src = true := by
  unfold filE at h1
  split at h1
  · cases h1
  · rename_i hn
    split at h1
    · cases h1
    · refine ⟨h1, by omega, ?_, ?_⟩
      · cases h : nameB f.id with
        | true => rfl
        | false => exact absurd (.inl h) hn
      · cases h : qualB f.src with
        | true => rfl
        | false => exact absurd (.inr h) hn

theorem recsE_take : ∀ (l : List Rec) (k : Nat), recsE l = 0 → recsE (l.take k) = 0
  | [], k, _ => by simp [recsE]
  | r :: l, 0, _ => by simp [recsE]
  | r :: l, k + 1, h => by
    rw [recsE] at h
    split at h
    · rename_i hx; exact absurd h hx
    · rename_i hx
      rw [List.take_succ_cons, recsE, if_neg hx]
      exact recsE_take l k h

theorem body_len {f : Fil} (h1 : filE f = 0) (hi : f.id.size ≤ 50000) (hs : f.src.size ≤ 50000) (k : Nat) : (headB f ++ (f.recs.take k).flatMap recB).length ≤ 980000 := by
  obtain ⟨h2, h3, _⟩ := filE_ok h1
  have h4 := recsB_len (recsE_take f.recs k h2)
  have h5 : (f.recs.take k).length ≤ f.recs.length := by rw [List.length_take]; omega
  have h6 : (headB f).length ≤ 100100 := by simp [headB, bytesI_length, beN_length]; omega
  rw [List.length_append]; omega

theorem ref24_Checksum_own {P : Program} (F : F_warehouseref24_Checksum P) (l : List Int) (hl : l.length ≤ 100000000) (hb : Byt l) (H : List AObj) (id : Nat) (ho : H[id]? = some (.arr 1 (bC l))) :
    ACalls P F.id [.sl id l.length 0 l.length] H (fun r H' => r = .int .u32 (fnv l) ∧ H' = H) := by
  refine ACalls.bor rfl ((ref24_Checksum_spec F false l hl hb []).mono fun r H' h => h.1) (Lents.cons ?_ Lents.nil)
  have := Lent.sl (H := H) id l.length 0 l.length 1 (bC l) ho (by rw [bC_length]) (pureEs_bC _)
  have e : ((bC l).drop 0).take l.length = bC l := by rw [List.drop_zero, List.take_of_length_le (by rw [bC_length]; exact Nat.le_refl _)]
  rwa [e] at this

theorem bytesI_byt (s : ByteArray) : Byt (bytesI s) := fun x hx => by
  obtain ⟨b, _, rfl⟩ := List.mem_map.1 hx
  have := b.toNat_lt; omega

theorem encV_byt (v : V) : Byt (encV v) := by
  intro x hx
  unfold encV at hx
  have hu : ∀ n, 0 ≤ u8 n ∧ u8 n ≤ 255 := fun n => by rw [u8_eq]; omega
  rcases List.mem_cons.1 hx with rfl | hx
  · exact hu _
  · split at hx
    · rw [List.mem_singleton] at hx; subst hx; exact hu _
    · split at hx
      · rw [w4_eq] at hx; exact beN_byt _ _ x hx
      · split at hx
        · rw [w4_eq] at hx; exact beN_byt _ _ x hx
        · split at hx
          · rcases List.mem_cons.1 hx with rfl | hx
            · exact hu _
            · exact bytesI_byt _ x hx
          · simp at hx

theorem encB_byt (row : List V) : Byt (encB row) := fun x hx => by
  rcases List.mem_cons.1 hx with rfl | hx
  · rw [u8_eq]; omega
  · obtain ⟨v, _, hv⟩ := List.mem_flatMap.1 hx
    exact encV_byt v x hv

theorem bodyB_byt (f : Fil) : Byt (bodyB f) := by
  intro x hx
  have hu : ∀ n, 0 ≤ u8 n ∧ u8 n ≤ 255 := fun n => by rw [u8_eq]; omega
  rcases List.mem_append.1 hx with hx | hx
  · rw [headB] at hx
    rcases List.mem_append.1 hx with hx | hx
    · rcases List.mem_append.1 hx with hx | hx
      · rcases List.mem_append.1 hx with hx | hx
        · simp at hx; omega
        · rcases List.mem_cons.1 hx with rfl | hx
          · exact hu _
          · exact bytesI_byt _ x hx
      · rcases List.mem_cons.1 hx with rfl | hx
        · exact hu _
        · exact bytesI_byt _ x hx
    · exact beN_byt _ _ x hx
  · obtain ⟨r, _, hr⟩ := List.mem_flatMap.1 hx
    exact recB_byt (encB_byt _) x hr

theorem filB_byt (f : Fil) : Byt (filB f) := fun x hx => (List.mem_append.1 hx).elim (bodyB_byt f x) (beN_byt _ _ x)

set_option maxRecDepth 20000 in
theorem ref24_Encode_spec {P : Program} (F : F_warehouseref24_Encode P) (f : Fil) (hi : f.id.size ≤ 50000) (hs : f.src.size ≤ 50000) (H : List AObj) :
    ACalls P F.id [.agg (fV f)] H (fun r H' => r = encFR f ∧ H' = H) := by
  refine ACalls.pure (by simp [AVal.closed, fV, AVal.isPure]) (acalls_of_body F.has ?_)
  (conv => whnf); refine ACalls.use (ref24_Validate_spec F.warehouseref24_Validate f (by omega) _) ?_
  (conv => whnf); refine recA (fun h1 => ?_) (fun h1 => ?_)
  · replace h1 : (!(filE f == 0)) = true := h1
    simp at h1
    have hE : encFE f = filE f := by rw [encFE, if_pos h1]
    conv => whnf
    rw [encFR, if_neg (by rw [hE]; exact h1), hE]
    exact pub2 (.closed _ rfl) (.closed _ rfl)
  replace h1 : (!(filE f == 0)) = false := h1
  simp at h1
  have hrec := filE_ok h1
  have hE : encFE f = if 65536 < (filB f).length then 2 else 0 := by rw [encFE, if_neg (by simp [h1])]
  have hbl := body_len h1 hi hs
  have hhead : bC (headB f) = bC [87, 72, 70, 49] ++ [[.int .u8 (u8 f.id.size)]] ++ byteCells f.id.data.toList ++ [[.int .u8 (u8 f.src.size)]] ++ byteCells f.src.data.toList ++ bC (beN 2 (rC f.recs).length) := by
    rw [byteCells_eq, byteCells_eq, rC_length]; simp [headB, bC]
  have li : (byteCells f.id.data.toList).length = f.id.size := by rw [byteCells_eq, bC_length, bytesI_length]
  have ls : (byteCells f.src.data.toList).length = f.src.size := by rw [byteCells_eq, bC_length, bytesI_length]
  (conv => whnf); refine And.intro (⟨roomB_le1 (by simp), roomB_le (by simp), rfl, rfl⟩) ?_
  try ((conv => whnf); refine recT (Nat.beq_refl _) ?_)
  (conv => whnf); refine And.intro (⟨roomB_le1 (by simp [li]; omega), roomB_le (by simp [li]; omega), rfl, rfl⟩) ?_
  try ((conv => whnf); refine recT (Nat.beq_refl _) ?_)
  (conv => whnf); refine And.intro (⟨roomB_le1 (by simp [li]; omega), roomB_le (by simp [li]; omega), rfl, rfl⟩) ?_
  repeat ((conv => whnf); refine And.intro rfl ?_)
  try ((conv => whnf); refine recT (Nat.beq_refl _) ?_)
  (conv => whnf); refine And.intro (⟨roomB_le1 (by simp [li, ls]; omega), roomB_le (by simp [li, ls]; omega), rfl, rfl⟩) ?_
  have hrl := rC_length f.recs
  (conv => whnf); refine ⟨_, ref24_number_spec F.warehouseref24_number (rC f.recs).length 2 (by omega) (by omega) (by omega) _, ?_⟩
  try ((conv => whnf); refine recT (Nat.beq_refl _) ?_)
  (conv => whnf); refine And.intro (⟨roomB_le1 (by simp [li, ls, bC_length, beN_length]; omega), roomB_le (by simp [li, ls, bC_length, beN_length]; omega), rfl, rfl⟩) ?_
  repeat ((conv => whnf); refine And.intro rfl ?_)
  conv => whnf
  refine ⟨fun m ρ H1 => ∃ k : Nat, k + m = f.recs.length ∧ H1 = [.arr 3 [fV f], .arr 1 (bC (headB f ++ (f.recs.take k).flatMap recB))] ∧
    Sv 90 [(1, .ptr 0 1 0 0), (5, .sl 1 (headB f ++ (f.recs.take k).flatMap recB).length 0 (headB f ++ (f.recs.take k).flatMap recB).length), (6, .int .i64 k)] ρ, f.recs.length, [], ?_, ?_⟩
  · refine ⟨0, by omega, ?_, Sv.intro rfl ⟨rfl, slEq ?_ ?_, rfl, trivial⟩⟩
    · rw [List.take_zero, List.flatMap_nil, List.append_nil, hhead]; rfl
    · rw [List.take_zero, List.flatMap_nil, List.append_nil, ← bC_length, hhead]; rfl
    · rw [List.take_zero, List.flatMap_nil, List.append_nil, ← bC_length, hhead]; rfl
  rintro m ρ H1 ⟨k, hk, rfl, d, rfl⟩
  have hbk := hbl k
  (conv => whnf); refine recA (fun hlt => ?_) (fun hlt => ?_)
  · simp [rC_length] at hlt
    obtain ⟨x, hx, hd, hxm⟩ := get_drop hlt
    have htk : headB f ++ (f.recs.take (k + 1)).flatMap recB = headB f ++ (f.recs.take k).flatMap recB ++ recB x := by rw [List.take_add_one, hx]; simp
    obtain ⟨s0, s1, hz⟩ := recE_zero (recsE_zero hrec.1 x hxm)
    have hrow := ref1_Encode_spec F.warehouseref1_Encode false x.row
    rw [encR_eq, if_pos hz] at hrow
    have hel := encB_len hz
    (conv => whnf); refine And.intro (by omega) ?_
    (conv => whnf); refine recO (rC_at hx) ?_
    (conv => whnf); refine recA (fun hd' => ?_) (fun hd' => ?_)
    · replace hd' : x.del = true := hd'
      have hB : recB x = [1] ++ (beN 4 x.seq ++ (beN 2 (encB x.row).length ++ encB x.row)) := (by rw [recB, hd']; rfl)
      have hF : bC (headB f ++ (f.recs.take (k + 1)).flatMap recB) = bC (headB f ++ (f.recs.take k).flatMap recB) ++ [[.int .u8 1]] ++ bC (beN 4 x.seq) ++ bC (beN 2 (encB x.row).length) ++ bC (encB x.row) := by
        rw [htk, hB]; simp [bC]
      have hbk2 := hbk
      rw [List.length_append] at hbk2
      (conv => whnf); refine recT (by rw [bC_length]; exact Nat.beq_refl _) ?_
      (conv => whnf); refine And.intro (⟨roomB_le1 (by simp only [List.length_append, List.length_cons, List.length_nil, List.length_replicate, bC_length, beN_length]; omega), roomB_le (by simp only [List.length_append, List.length_cons, List.length_nil, List.length_replicate, bC_length, beN_length]; omega), rfl, by rw [bC_length]⟩) ?_
      (conv => whnf); refine ACalls.use (hrow _) ?_
      (conv => whnf); refine ACalls.use (ref24_number_spec F.warehouseref24_number x.seq 4 s0 (by omega) (by omega) _) ?_
      try ((conv => whnf); refine recT (Nat.beq_refl _) ?_)
      (conv => whnf); refine And.intro (⟨roomB_le1 (by simp only [List.length_append, List.length_cons, List.length_nil, List.length_replicate, bC_length, beN_length]; omega), roomB_le (by simp only [List.length_append, List.length_cons, List.length_nil, List.length_replicate, bC_length, beN_length]; omega), rfl, rfl⟩) ?_
      conv => whnf
      rw [bC_length (encB x.row)]
      (conv => whnf); refine ACalls.use (ref24_number_spec F.warehouseref24_number (encB x.row).length 2 (by omega) (by omega) (by omega) _) ?_
      try ((conv => whnf); refine recT (Nat.beq_refl _) ?_)
      (conv => whnf); refine And.intro (⟨roomB_le1 (by simp only [List.length_append, List.length_cons, List.length_nil, List.length_replicate, bC_length, beN_length]; omega), roomB_le (by simp only [List.length_append, List.length_cons, List.length_nil, List.length_replicate, bC_length, beN_length]; omega), rfl, rfl⟩) ?_
      try ((conv => whnf); refine recT (Nat.beq_refl _) ?_)
      (conv => whnf); refine And.intro (⟨roomB_le1 (by simp only [List.length_append, List.length_cons, List.length_nil, List.length_replicate, bC_length, beN_length]; omega), roomB_le (by simp only [List.length_append, List.length_cons, List.length_nil, List.length_replicate, bC_length, beN_length]; omega), rfl, rfl⟩) ?_
      conv => whnf
      have hLn := ((congrArg List.length hF).symm.trans (bC_length _))
      refine ⟨m - 1, by omega, Gp.first 2 [.arr 3 [fV f], .arr 1 (bC (headB f ++ (f.recs.take (k + 1)).flatMap recB))] (by rw [hF]; rfl) rfl (by simp [pureO, pureEs_bC]; simp [pureEs, fV, AVal.isPure]) rfl ?_ fun ρ1 h => ⟨k + 1, by omega, rfl, h⟩⟩
      exact ⟨.keepP 0 1 0 0 0 rfl, pubSl (k := 1) rfl rfl hLn hLn, pub_int (wrapI ((k : Int) + 1) (by omega) (by omega)), trivial⟩
    · replace hd' : x.del = false := hd'
      have hB : recB x = [0] ++ (beN 4 x.seq ++ (beN 2 (encB x.row).length ++ encB x.row)) := (by rw [recB, hd']; rfl)
      have hF : bC (headB f ++ (f.recs.take (k + 1)).flatMap recB) = bC (headB f ++ (f.recs.take k).flatMap recB) ++ [[.int .u8 0]] ++ bC (beN 4 x.seq) ++ bC (beN 2 (encB x.row).length) ++ bC (encB x.row) := by
        rw [htk, hB]; simp [bC]
      have hbk2 := hbk
      rw [List.length_append] at hbk2
      (conv => whnf); refine recT (by rw [bC_length]; exact Nat.beq_refl _) ?_
      (conv => whnf); refine And.intro (⟨roomB_le1 (by simp only [List.length_append, List.length_cons, List.length_nil, List.length_replicate, bC_length, beN_length]; omega), roomB_le (by simp only [List.length_append, List.length_cons, List.length_nil, List.length_replicate, bC_length, beN_length]; omega), rfl, by rw [bC_length]⟩) ?_
      (conv => whnf); refine ACalls.use (hrow _) ?_
      (conv => whnf); refine ACalls.use (ref24_number_spec F.warehouseref24_number x.seq 4 s0 (by omega) (by omega) _) ?_
      try ((conv => whnf); refine recT (Nat.beq_refl _) ?_)
      (conv => whnf); refine And.intro (⟨roomB_le1 (by simp only [List.length_append, List.length_cons, List.length_nil, List.length_replicate, bC_length, beN_length]; omega), roomB_le (by simp only [List.length_append, List.length_cons, List.length_nil, List.length_replicate, bC_length, beN_length]; omega), rfl, rfl⟩) ?_
      conv => whnf
      rw [bC_length (encB x.row)]
      (conv => whnf); refine ACalls.use (ref24_number_spec F.warehouseref24_number (encB x.row).length 2 (by omega) (by omega) (by omega) _) ?_
      try ((conv => whnf); refine recT (Nat.beq_refl _) ?_)
      (conv => whnf); refine And.intro (⟨roomB_le1 (by simp only [List.length_append, List.length_cons, List.length_nil, List.length_replicate, bC_length, beN_length]; omega), roomB_le (by simp only [List.length_append, List.length_cons, List.length_nil, List.length_replicate, bC_length, beN_length]; omega), rfl, rfl⟩) ?_
      try ((conv => whnf); refine recT (Nat.beq_refl _) ?_)
      (conv => whnf); refine And.intro (⟨roomB_le1 (by simp only [List.length_append, List.length_cons, List.length_nil, List.length_replicate, bC_length, beN_length]; omega), roomB_le (by simp only [List.length_append, List.length_cons, List.length_nil, List.length_replicate, bC_length, beN_length]; omega), rfl, rfl⟩) ?_
      conv => whnf
      have hLn := ((congrArg List.length hF).symm.trans (bC_length _))
      refine ⟨m - 1, by omega, Gp.first 2 [.arr 3 [fV f], .arr 1 (bC (headB f ++ (f.recs.take (k + 1)).flatMap recB))] (by rw [hF]; rfl) rfl (by simp [pureO, pureEs_bC]; simp [pureEs, fV, AVal.isPure]) rfl ?_ fun ρ1 h => ⟨k + 1, by omega, rfl, h⟩⟩
      exact ⟨.keepP 0 1 0 0 0 rfl, pubSl (k := 1) rfl rfl hLn hLn, pub_int (wrapI ((k : Int) + 1) (by omega) (by omega)), trivial⟩
  simp [rC_length] at hlt
  have hkl : f.recs.take k = f.recs := List.take_of_length_le hlt
  rw [hkl] at hbk ⊢
  rw [show headB f ++ f.recs.flatMap recB = bodyB f from rfl] at hbk ⊢
  (conv => whnf); refine ACalls.use (ref24_Checksum_own F.warehouseref24_Checksum (bodyB f) (by omega) (bodyB_byt f) _ 1 rfl) ?_
  conv => whnf
  have hwf : IntKind.i64.wrap (fnv (bodyB f)) = fnv (bodyB f) := wrapI _ (by have := fnv_bound (bodyB f); omega) (by have := fnv_bound (bodyB f); omega)
  rw [hwf]
  have hfil : bC (filB f) = bC (bodyB f) ++ bC (beN 4 (fnv (bodyB f))) := by rw [filB, bC_append]
  (conv => whnf); refine ACalls.use (ref24_number_spec F.warehouseref24_number (fnv (bodyB f)) 4 (fnv_bound _).1 (by have := fnv_bound (bodyB f); omega) (by omega) _) ?_
  (conv => whnf); refine recT (by rw [bC_length]; exact Nat.beq_refl _) ?_
  (conv => whnf); refine And.intro (⟨roomB_le1 (by simp [bC_length, beN_length]; omega), roomB_le (by simp [bC_length, beN_length]; omega), rfl, by rw [bC_length]⟩) ?_
  try ((conv => whnf); refine recT (Nat.beq_refl _) ?_)
  (conv => whnf); refine recA (fun h2 => ?_) (fun h2 => ?_)
  · have h2 : decide ((((bC (bodyB f) ++ bC (beN 4 (fnv (bodyB f)))).length : Nat) : Int) > 65536) = true := h2
    rw [← hfil, bC_length] at h2
    simp at h2
    have hE2 : encFE f = 2 := by rw [hE, if_pos (by omega)]
    conv => whnf
    rw [encFR, if_neg (by rw [hE2]; decide), hE2]
    exact pub2 (.closed _ rfl) (.closed _ rfl)
  · have h2 : decide ((((bC (bodyB f) ++ bC (beN 4 (fnv (bodyB f)))).length : Nat) : Int) > 65536) = false := h2
    rw [← hfil, bC_length] at h2
    simp at h2
    have hE2 : encFE f = 0 := by rw [hE, if_neg (by omega)]
    conv => whnf
    rw [encFR, if_pos hE2, hfil]
    exact pub2 (pubF (id := 1) rfl rfl rfl (by rw [← hfil]; exact pureEs_bC _)) (.closed _ rfl)

end Go.AW

namespace Go.AW
section
variable {P : Program} {C C' : Nat → Nat} {τ τ' : Nat → Option Loc} {H H' : List AObj} {w w' : World}
theorem ACalls.gp {f : FuncId} {args : List AVal} {Q0 Q : AVal → List AObj → Prop} (h : ACalls P f args H Q0)
    (hq : ∀ r H', Q0 r H' → Gp (H.map AObj.olen) [r] H' (fun ρ1 H1 => ∃ r', ρ1 = [r'] ∧ Q r' H1)) : ACalls P f args H Q := by
  intro C τ w vs hw hl hr
  have hc := h C τ w vs hw hl hr
  have fin : ∀ (e : Ending) (w' : World), (∃ v r C' τ' H', e = .returned v ∧ Q0 r H' ∧ Rel C' w' τ' H' r v ∧ St w (PrCall τ H w) C' τ' H' w' ∧ Step C τ H w C' τ' H' w') →
      ∃ v r C' τ' H', e = .returned v ∧ Q r H' ∧ Rel C' w' τ' H' r v ∧ St w (PrCall τ H w) C' τ' H' w' ∧ Step C τ H w C' τ' H' w' := by
    rintro e w' ⟨v, r, C1, τ1, H1, he, hq0, hrel, hst, hstep⟩
    let E : Env := ⟨w, PrCall τ H w, C, τ, H, fun b hb hn => Classical.byContradiction fun ho => hn ⟨hb, ho⟩⟩
    have hsa : SA E C1 τ1 [r] H1 { tmps := #[v], defers := [] } w' := by
      refine ⟨hst, hstep, fun t => ?_, rfl, rfl⟩
      cases t with
      | zero => exact hrel
      | succ t => exact .undef _
    obtain ⟨ρ2, H2, C2, τ2, ⟨r', rfl, hQ⟩, hs2⟩ := hsa.regroup (hq r H1 hq0)
    exact ⟨v, r', C2, τ2, H2, he, hQ, hs2.tmps 0, hs2.st, hs2.step⟩
  unfold CallsX at hc ⊢
  split at hc
  · exact Calls.mono hc fun e w' hh => fin e w' hh
  · exact fin _ _ hc
  · exact hc

def AObj.clean : AObj → Bool
  | .arr _ es => pureEs es
  | .iter _ _ => true

inductive Ren (σ : Nat → Nat) : AVal → AVal → Prop where
  | closed (v : AVal) (h : v.closed = true) : Ren σ v v
  | sl (id ep off len : Nat) : Ren σ (.sl id ep off len) (.sl (σ id) ep off len)
  | ptr (id ep idx fld : Nat) : Ren σ (.ptr id ep idx fld) (.ptr (σ id) ep idx fld)
  | agg (vs rs : List AVal) (hl : vs.length = rs.length) (h : ∀ (i : Nat) (v r : AVal), vs[i]? = some v → rs[i]? = some r → Ren σ v r) : Ren σ (.agg vs) (.agg rs)
  | tuple (vs rs : List AVal) (hl : vs.length = rs.length) (h : ∀ (i : Nat) (v r : AVal), vs[i]? = some v → rs[i]? = some r → Ren σ v r) : Ren σ (.tuple vs) (.tuple rs)

inductive RenO (σ : Nat → Nat) : AObj → AObj → Prop where
  | same (o : AObj) (h : o.clean = true) : RenO σ o o
  | arr (esz : Nat) (es es1 : List (List AVal)) (hl : es1.length = es.length) (hl2 : ∀ (i : Nat) (e e1 : List AVal), es[i]? = some e → es1[i]? = some e1 → e1.length = e.length)
      (h : ∀ (i j : Nat) (e e1 : List AVal) (d d1 : AVal), es[i]? = some e → es1[i]? = some e1 → e[j]? = some d → e1[j]? = some d1 → Ren σ d d1 ∧ d1.isCell = true) :
      RenO σ (.arr esz es) (.arr esz es1)

theorem RenO.after {σ : Nat → Nat} {o o0 o1 : AObj} {t t' : Option Loc} (h : RenO σ o0 o1) (ha : o.after o0 t t') : o.after o1 t t' := by
  cases h with
  | same => exact ha
  | arr esz es es1 hl _ _ =>
    cases o with
    | iter _ _ => exact ha
    | arr z es0 => exact ⟨ha.1, by rw [hl]; exact ha.2.1, by rw [hl]; exact ha.2.2⟩

theorem RenO.ok {σ : Nat → Nat} {o0 o1 : AObj} (h : RenO σ o0 o1) (ho : o0.ok) : o1.ok := by
  cases h with
  | same => exact ho
  | arr esz es es1 hl hl2 hp =>
    intro e1 he1
    obtain ⟨n, hn⟩ := List.getElem?_of_mem he1
    have hnl := (List.getElem?_eq_some_iff.1 hn).1
    have he : es[n]? = some es[n] := List.getElem?_eq_getElem (by omega)
    obtain ⟨g1, g2⟩ := ho _ (List.mem_of_getElem? he)
    refine ⟨(hl2 n _ _ he hn).trans g1, fun d1 hd1 => ?_⟩
    obtain ⟨j, hj⟩ := List.getElem?_of_mem hd1
    have hjl := (List.getElem?_eq_some_iff.1 hj).1
    have := hl2 n _ _ he hn
    exact (hp n j _ _ _ d1 he hn (List.getElem?_eq_getElem (by omega)) hj).2

def frN (id n : Nat) (k : Nat) : Nat := match k with
  | 0 => id
  | k + 1 => n + k

theorem ACalls.frame1 {f : FuncId} {args0 args : List AVal} {Q0 Q : AVal → List AObj → Prop} {id : Nat} {o : AObj} (ho : H[id]? = some o)
    (hp : o.clean = true)
    (hal : args0.length = args.length) (ha : ∀ (i : Nat) (a b : AVal), args0[i]? = some a → args[i]? = some b → (a = b ∧ a.closed = true) ∨ ∃ ep idx fld, a = .ptr 0 ep idx fld ∧ b = .ptr id ep idx fld)
    (h : ACalls P f args0 [o] Q0)
    (hq : ∀ r H1, Q0 r H1 → ∃ r' o1 o1' G G', H1 = o1 :: G ∧ Ren (frN id H.length) r r' ∧ RenO (frN id H.length) o1 o1' ∧ G.length = G'.length ∧
      (∀ (k : Nat) (x y : AObj), G[k]? = some x → G'[k]? = some y → RenO (frN id H.length) x y) ∧ Q r' (H.set id o1' ++ G')) : ACalls P f args H Q := by
  intro C τ w vs hw hl hr
  have hid := (List.getElem?_eq_some_iff.1 ho).1
  let τ0 : Nat → Option Loc := fun k => if k = 0 then τ id else none
  have one : ∀ {k : Nat} {x : AObj}, [o][k]? = some x → k = 0 ∧ x = o := fun {k x} h => by
    cases k with
    | zero => simp at h; exact ⟨rfl, h.symm⟩
    | succ k => simp at h
  have hw0 : WF C τ0 [o] w := by
    refine ⟨fun k x h => ?_, fun k x h ht => ?_, fun k x l h ht => ?_, fun k l hk ht => ?_, fun i j li lj hi hj _ _ _ => ?_, hw.lt⟩
    · obtain ⟨rfl, rfl⟩ := one h; exact hw.ok id _ ho
    · obtain ⟨rfl, rfl⟩ := one h; exact hw.virt id _ ho ht
    · obtain ⟨rfl, rfl⟩ := one h
      have hob := hw.objs id _ l ho ht
      cases x with
      | iter s p => exact hob
      | arr esz es =>
        obtain ⟨a1, cells, elem, fz, a2, a3, a4, a5⟩ := hob
        refine ⟨a1, cells, elem, fz, a2, a3, a4, fun i j e d hi hd => ?_⟩
        obtain ⟨x, hx1, hx2⟩ := a5 i j e d hi hd
        exact ⟨x, hx1, .rd (hx2.pure (pureEs_get hp hi hd))⟩
    · have hk0 : k = 0 := by simp at hk; omega
      subst hk0; exact hw.comm id l hid ht
    · simp at hi hj; omega
  have hr0 : ∀ (i : Nat) (a : AVal) (v : Value), args0[i]? = some a → vs[i]? = some v → Rel C w τ0 [o] a v := fun i a v h1 h2 => by
    have hi := (List.getElem?_eq_some_iff.1 h1).1
    have hb : args[i]? = some args[i] := List.getElem?_eq_getElem (by omega)
    have hrel := hr i _ v hb h2
    rcases ha i a _ h1 hb with ⟨e, hc⟩ | ⟨ep, idx, fld, rfl, e⟩
    · rw [← e] at hrel
      exact hrel.closed hc (fun _ => Nat.le_refl _) (fun _ _ _ => rfl)
    · rw [e] at hrel
      cases hrel with
      | rd h => cases h
      | ptr _ _ _ _ a esz es ho2 hep h3 =>
        rw [ho] at ho2; cases ho2
        exact .ptr 0 ep idx fld a esz es rfl hep h3
  have hc := h C τ0 w vs hw0 (by omega) hr0
  have fin : ∀ (e : Ending) (w' : World), (∃ v r C' τ' H', e = .returned v ∧ Q0 r H' ∧ Rel C' w' τ' H' r v ∧ St w (PrCall τ0 [o] w) C' τ' H' w' ∧ Step C τ0 [o] w C' τ' H' w') →
      ∃ v r C' τ' H', e = .returned v ∧ Q r H' ∧ Rel C' w' τ' H' r v ∧ St w (PrCall τ H w) C' τ' H' w' ∧ Step C τ H w C' τ' H' w' := by
    rintro e w' ⟨v, r, C1, τ1, H1, he, hq0, hrel, hst, hstep⟩
    obtain ⟨r', o1, o1', G, G', rfl, hrr, hro, hgl, hG, hQ⟩ := hq r H1 hq0
    
    have hoth : ∀ j l, j < H.length → j ≠ id → τ j = some l → PrCall τ0 [o] w l.b := fun j l hj hne ht =>
      ⟨hw.locLt hj ht, by
        rintro ⟨k, l', hk, ht', hb⟩
        have hk0 : k = 0 := by simp at hk; omega
        subst hk0
        exact hne (hw.inj j id l l' hj hid ht ht' hb.symm)⟩
    have hheap : ∀ j l, j < H.length → j ≠ id → τ j = some l → w'.heap[l.b]? = w.heap[l.b]? := fun j l hj hne ht => hst.fr.prot _ (hoth j l hj hne ht)
    let τ2 : Nat → Option Loc := fun i => if i = id then τ1 0 else if i < H.length then τ i else τ1 (i - H.length + 1)
    have t0 : τ2 id = τ1 0 := by simp only [τ2, if_true]
    have tO : ∀ j, j < H.length → j ≠ id → τ2 j = τ j := fun j hj hne => by simp only [τ2, if_neg hne, if_pos hj]
    have tN : ∀ k, τ2 (H.length + k) = τ1 (k + 1) := fun k => by
      simp only [τ2, if_neg (by omega : ¬ H.length + k = id), if_neg (by omega : ¬ H.length + k < H.length), Nat.add_sub_cancel_left]
    have tF : ∀ k, τ2 (frN id H.length k) = τ1 k := fun k => by
      cases k with
      | zero => exact t0
      | succ k => exact tN k
    have gid : (H.set id o1' ++ G')[id]? = some o1' := by rw [List.getElem?_append_left (by rw [List.length_set]; exact hid), List.getElem?_set_self hid]
    have gO : ∀ j, j < H.length → j ≠ id → (H.set id o1' ++ G')[j]? = H[j]? := fun j hj hne => by
      rw [List.getElem?_append_left (by rw [List.length_set]; exact hj), List.getElem?_set_ne (Ne.symm hne)]
    have gN : ∀ k, (H.set id o1' ++ G')[H.length + k]? = G'[k]? := fun k => by
      rw [List.getElem?_append_right (by rw [List.length_set]; omega), List.length_set, Nat.add_sub_cancel_left]
    
    have gF : ∀ k x, (o1 :: G)[k]? = some x → ∃ y, (H.set id o1' ++ G')[frN id H.length k]? = some y ∧ RenO (frN id H.length) x y := fun k x hx => by
      cases k with
      | zero => simp at hx; subst hx; exact ⟨o1', gid, hro⟩
      | succ k =>
        have hk : k < G.length := (List.getElem?_eq_some_iff.1 (by simpa using hx : G[k]? = some x)).1
        have hy : G'[k]? = some G'[k] := List.getElem?_eq_getElem (by omega)
        exact ⟨G'[k], (gN k).trans hy, hG k x _ (by simpa using hx) hy⟩
    have split : ∀ i, i < (H.set id o1' ++ G').length → (i < H.length ∧ i ≠ id) ∨ ∃ k, i = frN id H.length k ∧ k < (o1 :: G).length := fun i hi => by
      rw [List.length_append, List.length_set] at hi
      by_cases h1 : i = id
      · exact .inr ⟨0, h1, by simp⟩
      · by_cases h2 : i < H.length
        · exact .inl ⟨h2, h1⟩
        · exact .inr ⟨i - H.length + 1, by simp only [frN]; omega, by simp; omega⟩
    have frInj : ∀ k k', frN id H.length k = frN id H.length k' → k = k' := fun k k' h => by
      cases k <;> cases k' <;> simp only [frN] at h <;> omega
    have step : Step C τ H w C1 τ2 (H.set id o1' ++ G') w' := by
      refine ⟨hstep.le, hstep.cell, fun j x hx => ?_, hstep.grow, hstep.old⟩
      have hj := (List.getElem?_eq_some_iff.1 hx).1
      by_cases e1 : j = id
      · subst e1
        rw [ho] at hx; cases hx
        obtain ⟨o', h1, h2⟩ := hstep.obj 0 o rfl
        simp at h1; subst h1
        refine ⟨o1', gid, ?_⟩
        rw [t0]
        have : τ0 0 = τ j := by simp only [τ0, if_true]
        rw [this] at h2
        exact hro.after h2
      · exact ⟨x, by rw [gO j hj e1]; exact hx, by rw [tO j hj e1]; exact x.after_refl _⟩
    have ren : ∀ {a b : AVal}, Ren (frN id H.length) a b → ∀ {u : Value}, Rel C1 w' τ1 (o1 :: G) a u → Rel C1 w' τ2 (H.set id o1' ++ G') b u := by
      intro a b hab
      induction hab with
      | closed v h => intro u hu; exact hu.closed h (fun _ => Nat.le_refl _) (fun _ _ _ => rfl)
      | sl k ep off len =>
        intro u hu
        cases hu with
        | rd h => cases h
        | sl _ _ _ _ a cap esz es ho2 hep h3 =>
          obtain ⟨y, hy, hry⟩ := gF k _ ho2
          cases hry with
          | same _ _ => exact .sl _ ep off len a cap esz es hy hep fun e => by rw [tF]; exact h3 e
          | arr _ _ es1 hl1 _ _ => exact .sl _ ep off len a cap esz es1 hy (by omega) fun e => by rw [tF, hl1]; exact h3 (by omega)
      | ptr k ep idx fld =>
        intro u hu
        cases hu with
        | rd h => cases h
        | ptr _ _ _ _ a esz es ho2 hep h3 =>
          obtain ⟨y, hy, hry⟩ := gF k _ ho2
          cases hry with
          | same _ _ => exact .ptr _ ep idx fld a esz es hy hep fun e => by rw [tF]; exact h3 e
          | arr _ _ es1 hl1 _ _ => exact .ptr _ ep idx fld a esz es1 hy (by omega) fun e => by rw [tF]; exact h3 (by omega)
      | agg vs rs hl h ih =>
        intro u hu
        obtain ⟨us, rfl, hl2, hr2⟩ := hu.agg_inv
        refine .agg _ _ (by omega) fun i c v hc hv => ?_
        have hi := (List.getElem?_eq_some_iff.1 hc).1
        have hvi : vs[i]? = some vs[i] := List.getElem?_eq_getElem (by omega)
        exact ih i _ c hvi hc (hr2 i _ v hvi hv)
      | tuple vs rs hl h ih =>
        intro u hu
        obtain ⟨us, rfl, hl2, hr2⟩ := hu.tuple_inv
        refine .tuple _ _ (by omega) fun i c v hc hv => ?_
        have hi := (List.getElem?_eq_some_iff.1 hc).1
        have hvi : vs[i]? = some vs[i] := List.getElem?_eq_getElem (by omega)
        exact ih i _ c hvi hc (hr2 i _ v hvi hv)
    have hgetF : ∀ k, k < (o1 :: G).length → ∃ x, (o1 :: G)[k]? = some x := fun k hk => ⟨_, List.getElem?_eq_getElem hk⟩
    refine ⟨v, r', C1, τ2, H.set id o1' ++ G', he, hQ, ren hrr hrel, ⟨⟨fun i x hx => ?_, fun i x hx ht => ?_, fun i x l hx ht => ?_, fun i l hi ht => ?_, fun i j li lj hi hj hti htj hb => ?_, hst.wf.lt⟩,
      ⟨hst.fr.os, hst.fr.tape, hst.fr.output, hst.fr.size, fun b hb => hst.fr.prot b ⟨hb.1, ?_⟩⟩, ?_, fun b hb => hb.1⟩, step⟩
    · rcases split i (List.getElem?_eq_some_iff.1 hx).1 with ⟨h1, h2⟩ | ⟨k, rfl, hk⟩
      · rw [gO i h1 h2] at hx; exact hw.ok i x hx
      · obtain ⟨z, hz⟩ := hgetF k hk
        obtain ⟨y, hy, hry⟩ := gF k z hz
        rw [hx] at hy; cases hy
        exact hry.ok (hst.wf.ok k z hz)
    · rcases split i (List.getElem?_eq_some_iff.1 hx).1 with ⟨h1, h2⟩ | ⟨k, rfl, hk⟩
      · rw [gO i h1 h2] at hx; rw [tO i h1 h2] at ht; exact hw.virt i x hx ht
      · obtain ⟨z, hz⟩ := hgetF k hk
        obtain ⟨y, hy, hry⟩ := gF k z hz
        rw [hx] at hy; cases hy
        rw [tF] at ht
        obtain ⟨esz, rfl⟩ := hst.wf.virt k z hz ht
        cases hry with
        | same _ _ => exact ⟨esz, rfl⟩
        | arr _ _ es1 hl1 _ _ =>
          have : es1 = [] := List.length_eq_zero_iff.1 hl1
          subst this; exact ⟨esz, rfl⟩
    · rcases split i (List.getElem?_eq_some_iff.1 hx).1 with ⟨h1, h2⟩ | ⟨k, rfl, hk⟩
      · rw [gO i h1 h2] at hx; rw [tO i h1 h2] at ht
        exact (hw.objs i x l hx ht).mono step (hheap i l h1 h2 ht)
      · obtain ⟨z, hz⟩ := hgetF k hk
        obtain ⟨y, hy, hry⟩ := gF k z hz
        rw [hx] at hy; cases hy
        rw [tF] at ht
        have hob := hst.wf.objs k z l hz ht
        cases hry with
        | same _ hpz =>
          cases x with
          | iter s p => exact hob
          | arr esz es =>
            obtain ⟨a1, cells, elem, fz, a2, a3, a4, a5⟩ := hob
            refine ⟨a1, cells, elem, fz, a2, a3, a4, fun i j e d hi hd => ?_⟩
            obtain ⟨x, hx1, hx2⟩ := a5 i j e d hi hd
            exact ⟨x, hx1, .rd (hx2.pure (pureEs_get hpz hi hd))⟩
        | arr esz es es1 hl1 hl2 hp2 =>
          obtain ⟨a1, cells, elem, fz, a2, a3, a4, a5⟩ := hob
          refine ⟨by omega, cells, elem, fz, a2, a3, a4, fun i j e1 d1 hi hd => ?_⟩
          have hil := (List.getElem?_eq_some_iff.1 hi).1
          have hjl := (List.getElem?_eq_some_iff.1 hd).1
          have he : es[i]? = some es[i] := List.getElem?_eq_getElem (by omega)
          have hl3 := hl2 i _ _ he hi
          have hd0 : es[i][j]? = some es[i][j] := List.getElem?_eq_getElem (by omega)
          obtain ⟨x, hx1, hx2⟩ := a5 i j _ _ he hd0
          exact ⟨x, hx1, ren (hp2 i j _ _ _ d1 he hi hd0 hd).1 hx2⟩
    · rcases split i hi with ⟨h1, h2⟩ | ⟨k, rfl, hk⟩
      · rw [tO i h1 h2] at ht
        rw [hstep.old _ (hw.locLt h1 ht)]; exact hw.comm i l h1 ht
      · rw [tF] at ht; exact hst.wf.comm k l hk ht
    · rcases split i hi with ⟨h1, h2⟩ | ⟨k, rfl, hk⟩ <;> rcases split j hj with ⟨h3, h4⟩ | ⟨k', rfl, hk'⟩
      · rw [tO i h1 h2] at hti; rw [tO j h3 h4] at htj; exact hw.inj i j li lj h1 h3 hti htj hb
      · rw [tO i h1 h2] at hti; rw [tF] at htj
        exact absurd (hb ▸ hoth i li h1 h2 hti) (hst.own _ ⟨k', lj, hk', htj, rfl⟩)
      · rw [tF] at hti; rw [tO j h3 h4] at htj
        exact absurd (hb ▸ hoth j lj h3 h4 htj) (hst.own _ ⟨k, li, hk, hti, rfl⟩)
      · rw [tF] at hti htj
        rw [hst.wf.inj k k' li lj hk hk' hti htj hb]
    · rintro ⟨k, l, hk, ht, hb2⟩
      have hk0 : k = 0 := by simp at hk; omega
      subst hk0
      exact hb.2 ⟨id, l, hid, ht, hb2⟩
    · rintro b ⟨i, l, hi, ht, rfl⟩ hp2
      rcases split i hi with ⟨h1, h2⟩ | ⟨k, rfl, hk⟩
      · rw [tO i h1 h2] at ht; exact hp2.2 ⟨i, l, h1, ht, rfl⟩
      · rw [tF] at ht
        refine hst.own _ ⟨k, l, hk, ht, rfl⟩ ⟨hp2.1, ?_⟩
        rintro ⟨k2, l2, hk2, ht2, hb2⟩
        have hk0 : k2 = 0 := by simp at hk2; omega
        subst hk0
        exact hp2.2 ⟨id, l2, hid, ht2, hb2⟩
  unfold CallsX at hc ⊢
  split at hc
  · exact Calls.mono hc fun e w' hh => fin e w' hh
  · exact fin _ _ hc
  · exact hc

def FrArgs (id : Nat) : List AVal → List AVal → Prop
  | [], [] => True
  | a :: as, b :: bs => ((a = b ∧ a.closed = true) ∨ ∃ ep idx fld, a = .ptr 0 ep idx fld ∧ b = .ptr id ep idx fld) ∧ FrArgs id as bs
  | _, _ => False

theorem FrArgs.get {id : Nat} : ∀ {as bs : List AVal}, FrArgs id as bs → as.length = bs.length ∧ ∀ (i : Nat) (a b : AVal), as[i]? = some a → bs[i]? = some b → (a = b ∧ a.closed = true) ∨ ∃ ep idx fld, a = .ptr 0 ep idx fld ∧ b = .ptr id ep idx fld
  | [], [], _ => ⟨rfl, fun i a b h => by simp at h⟩
  | a :: as, b :: bs, h => by
    obtain ⟨h1, h2⟩ := FrArgs.get h.2
    refine ⟨by simp [h1], fun i x y hx hy => ?_⟩
    cases i with
    | zero => simp at hx hy; subst hx hy; exact h.1
    | succ i => exact h2 i x y (by simpa using hx) (by simpa using hy)
  | [], _ :: _, h => h.elim
  | _ :: _, [], h => h.elim

theorem FrArgs.cl {id : Nat} {a : AVal} {as bs : List AVal} (h : a.closed = true) (hs : FrArgs id as bs) : FrArgs id (a :: as) (a :: bs) := ⟨.inl ⟨rfl, h⟩, hs⟩

theorem FrArgs.pt {id : Nat} {ep idx fld : Nat} {as bs : List AVal} (hs : FrArgs id as bs) : FrArgs id (.ptr 0 ep idx fld :: as) (.ptr id ep idx fld :: bs) := ⟨.inr ⟨_, _, _, rfl, rfl⟩, hs⟩

theorem ACalls.fr {f : FuncId} {args0 args : List AVal} {id : Nat} {o o1 : AObj} {R : AVal} (h : ACalls P f args0 [o] (fun r H' => r = R ∧ H' = [o1])) (ho : H[id]? = some o)
    (hp : o.clean = true) (hp1 : o1.clean = true) (ha : FrArgs id args0 args) (hR : Ren (frN id H.length) R R) : ACalls P f args H (fun r H' => r = R ∧ H' = H.set id o1) := by
  obtain ⟨hl, ha⟩ := ha.get
  refine ACalls.frame1 ho hp hl ha h ?_
  rintro r H1 ⟨rfl, rfl⟩
  exact ⟨_, o1, o1, [], [], rfl, hR, .same _ hp1, rfl, fun k x y h => by simp at h, rfl, by simp⟩

theorem ACalls.frG {f : FuncId} {args0 args : List AVal} {id : Nat} {o o1 : AObj} {R R' : AVal} {G : List AObj} (h : ACalls P f args0 [o] (fun r H' => r = R ∧ H' = o1 :: G)) (ho : H[id]? = some o)
    (hp : o.clean = true) (hp1 : o1.clean = true) (hG : ∀ x ∈ G, x.clean = true) (ha : FrArgs id args0 args) (hR : Ren (frN id H.length) R R') : ACalls P f args H (fun r H' => r = R' ∧ H' = H.set id o1 ++ G) := by
  obtain ⟨hl, ha⟩ := ha.get
  refine ACalls.frame1 ho hp hl ha h ?_
  rintro r H1 ⟨rfl, rfl⟩
  exact ⟨_, o1, o1, G, G, rfl, hR, .same _ hp1, rfl, fun k x y h1 h2 => by rw [h1] at h2; cases h2; exact .same _ (hG x (List.mem_of_getElem? h1)), rfl, rfl⟩

end
theorem Gp.keepL {n0 : List Nat} {n : Nat} {live : List (Nat × AVal)} {ρ : List AVal} {H H1 : List AObj} {I : List AVal → List AObj → Prop} (ids : List Nat) (hnd : ids.Nodup) (hb : keepB n0 ids H) (ho : gpO H ids ids H1) (hl : ρ.length = n) (h : SvPub H ids ρ live)
    (hI : ∀ ρ1, Sv n live ρ1 → I ρ1 H1) : Gp n0 ρ H I :=
  .inr ⟨ids, mkSl n n live fun _ => .undef, H1, hnd, hb, ho, mkSl_pub n n live ρ ρ (Nat.le_refl _) (fun k => by rw [Nat.sub_self, Nat.zero_add]) hl h, hI _ ⟨_, rfl⟩⟩

theorem keepB_one {a : Nat} {ids : List Nat} {H : List AObj} {o : AObj} (h1 : ids[0]? = some 0) (h2 : H[0]? = some o) (h3 : o.olen = a) : keepB [a] ids H := fun k n hk => by
  cases k with
  | zero => simp at hk; subst hk; exact ⟨h1, o, h2, h3⟩
  | succ k => simp at hk

theorem Gp.res {n0 : List Nat} {r r' : AVal} {H H1 : List AObj} {I : List AVal → List AObj → Prop} (ids : List Nat) (hnd : ids.Nodup) (hb : keepB n0 ids H) (ho : gpO H ids ids H1) (hp : Pub H 0 ids r r') (hI : I [r'] H1) : Gp n0 [r] H I :=
  .inr ⟨ids, [r'], H1, hnd, hb, ho, ⟨hp, trivial⟩, hI⟩

end Go.AW

namespace Go.AW
attribute [local irreducible] ACalls
structure RdS where
  rest : List Int
  bad : Bool

def rdO (s : RdS) : AObj := .arr 2 [[.list false 1 (bC s.rest), .bool s.bad]]

def tkB (n : Int) (s : RdS) : Bool := !s.bad && decide (n ≤ s.rest.length)

def tkL (n : Int) (s : RdS) : List Int := if tkB n s then s.rest.take n.toNat else []

def tkS (n : Int) (s : RdS) : RdS := if tkB n s then ⟨s.rest.drop n.toNat, false⟩ else ⟨s.rest, true⟩

theorem tkL_byt {n : Int} {s : RdS} (h : Byt s.rest) : Byt (tkL n s) := by
  intro x hx
  unfold tkL at hx
  split at hx
  · exact h x (List.mem_of_mem_take hx)
  · simp at hx

theorem tkS_byt {n : Int} {s : RdS} (h : Byt s.rest) : Byt (tkS n s).rest := by
  unfold tkS
  split
  · exact fun x hx => h x (List.mem_of_mem_drop hx)
  · exact h

theorem tkS_len (n : Int) (s : RdS) : (tkS n s).rest.length ≤ s.rest.length := by
  unfold tkS
  split
  · simp
  · exact Nat.le_refl _

theorem tkL_len {n : Int} {s : RdS} (hn : 0 ≤ n) : ((tkL n s).length : Int) ≤ n := by
  unfold tkL
  split
  · rw [List.length_take]; omega
  · simp; omega

theorem tkL_len2 (n : Int) (s : RdS) : (tkL n s).length ≤ s.rest.length := by
  unfold tkL
  split
  · rw [List.length_take]; omega
  · simp

set_option maxRecDepth 20000 in
theorem take_raw {P : Program} (F : F_batch_reader_take P) (n : Int) (hn : 0 ≤ n) (s : RdS) :
    ACalls P F.id [.ptr 0 1 0 0, .int .i64 n] [rdO s] (fun r H' => r = .list false 1 (bC (tkL n s)) ∧ H' = [rdO (tkS n s)]) := by
  refine ACalls.weakR (Q := fun r H' => (r = .nil ∧ tkB n s = false ∧ H' = [rdO (tkS n s)]) ∨ (r = .list false 1 (bC (tkL n s)) ∧ H' = [rdO (tkS n s)])) ?_ (by
    rintro r H' (⟨rfl, h, rfl⟩ | ⟨rfl, rfl⟩)
    · exact ⟨_, .nil false 1, by rw [tkL, h]; rfl, rfl⟩
    · exact ⟨_, .refl _, rfl, rfl⟩)
  refine acalls_of_body F.has ?_
  (conv => whnf); refine recA (fun hb => ?_) (fun hb => ?_)
  · replace hb : s.bad = true := hb
    have ht : tkB n s = false := by rw [tkB, hb]; rfl
    conv => whnf
    exact .inl ⟨rfl, ht, by rw [tkS, ht]; rfl⟩
  replace hb : s.bad = false := hb
  (conv => whnf); refine recA (fun hl => ?_) (fun hl => ?_)
  · simp [bC_length] at hl
    have ht : tkB n s = false := by rw [tkB, hb]; simp; omega
    conv => whnf
    exact .inl ⟨rfl, ht, by rw [tkS, ht]; rfl⟩
  simp [bC_length] at hl
  have ht : tkB n s = true := by rw [tkB, hb]; simp; omega
  (conv => whnf); refine And.intro (⟨by omega, by rw [bC_length]; omega⟩) ?_
  (conv => whnf); refine And.intro (⟨by omega, by rw [bC_length]; omega⟩) ?_
  conv => whnf
  refine .inr ⟨?_, ?_⟩
  · rw [tkL, ht, if_pos rfl, ← bC_take]; rfl
  · rw [tkS, ht, if_pos rfl, rdO]
    simp only [hb]
    rw [← bC_drop]
    show [AObj.arr 2 [[.list false 1 (((bC s.rest).take (bC s.rest).length).drop n.toNat), .bool false]]] = _
    rw [List.take_length]

theorem take_spec {P : Program} (F : F_batch_reader_take P) (n : Int) (hn : 0 ≤ n) (s : RdS) (H : List AObj) (id : Nat) (ho : H[id]? = some (rdO s)) :
    ACalls P F.id [.ptr id 1 0 0, .int .i64 n] H (fun r H' => r = .list false 1 (bC (tkL n s)) ∧ H' = H.set id (rdO (tkS n s))) :=
  (take_raw F n hn s).fr ho rfl rfl (.pt (.cl rfl trivial)) (.closed _ rfl)

def nbV (n : Int) (s : RdS) : Int := num (tkL n s)

theorem num_bnd (l : List Int) (h : Byt l) : 0 ≤ num l ∧ num l < 256 ^ l.length := by
  have key : ∀ (l : List Int), Byt l → ∀ (a : Int) (k : Nat), 0 ≤ a → a < 256 ^ k → 0 ≤ l.foldl (fun n x => n * 256 + x) a ∧ l.foldl (fun n x => n * 256 + x) a < 256 ^ (k + l.length) := by
    intro l
    induction l with
    | nil => intro _ a k h1 h2; exact ⟨h1, h2⟩
    | cons x l ih =>
      intro hb a k h1 h2
      have hx := hb x (List.mem_cons_self ..)
      have hp : (256 : Int) ^ (k + 1) = 256 ^ k * 256 := Int.pow_succ ..
      have := ih (fun y hy => hb y (List.mem_cons_of_mem _ hy)) (a * 256 + x) (k + 1) (by omega) (by omega)
      rw [List.length_cons, show k + (l.length + 1) = k + 1 + l.length by omega]
      exact this
  have := key l h 0 0 (by omega) (by decide)
  rwa [Nat.zero_add] at this

set_option maxRecDepth 20000 in
theorem nbV_bound {n : Int} {s : RdS} (hn : 0 ≤ n) (hn4 : n ≤ 4) (h : Byt s.rest) : 0 ≤ nbV n s ∧ nbV n s < 4294967296 := by
  have h1 := num_bnd _ (tkL_byt (n := n) h)
  have h2 := tkL_len (s := s) hn
  have h3 : (256 : Int) ^ (tkL n s).length ≤ 256 ^ 4 := by
    have : (256 : Nat) ^ (tkL n s).length ≤ 256 ^ 4 := Nat.pow_le_pow_right (by omega) (by omega)
    exact_mod_cast this
  rw [nbV]; omega

set_option maxRecDepth 20000 in
theorem rnumber_raw {P : Program} (F : F_batch_reader_number P) (n : Int) (hn : 0 ≤ n) (hn6 : n ≤ 4) (s : RdS) (hby : Byt s.rest) :
    ACalls P F.id [.ptr 0 1 0 0, .int .i64 n] [rdO s] (fun r H' => r = .int .i64 (nbV n s) ∧ H' = [rdO (tkS n s)]) := by
  have hl := tkL_len (s := s) hn
  have hb := tkL_byt (n := n) hby
  refine acalls_of_body F.has ?_
  (conv => whnf); refine ACalls.mono (take_raw F.batch_reader_take n hn s) ?_
  rintro r H' ⟨rfl, rfl⟩
  conv => whnf
  refine ⟨fun m ρ H => ∃ (k : Nat) (acc : Int), k + m = (tkL n s).length ∧ 0 ≤ acc ∧ acc < 256 ^ k ∧ ((tkL n s).drop k).foldl (fun n x => n * 256 + x) acc = num (tkL n s) ∧ H = [rdO (tkS n s)] ∧
    Sv 23 [(5, .int .i64 acc), (10, .list false 1 (bC (tkL n s))), (11, .int .i64 (tkL n s).length), (12, .int .i64 k)] ρ, (tkL n s).length, [], ?_, ?_⟩
  · exact ⟨0, 0, by omega, by omega, by omega, rfl, rfl, Sv.intro rfl ⟨rfl, rfl, intEq (by rw [bC_length]), rfl, trivial⟩⟩
  rintro m ρ H ⟨k, acc, hk, h0, h1, hr, rfl, d, rfl⟩
  (conv => whnf); refine recA (fun hlt => ?_) (fun hlt => ?_)
  · simp at hlt
    obtain ⟨x, hx, hd, hmem⟩ := get_drop hlt
    have hxb := hb x hmem
    (conv => whnf); refine And.intro (by omega) ?_
    (conv => whnf); refine recO (bC_at hx) ?_
    (conv => whnf); refine And.intro (by decide) ?_
    conv => whnf
    have hp : (256 : Int) ^ k ≤ 256 ^ 4 := by
      have : (256 : Nat) ^ k ≤ 256 ^ 4 := Nat.pow_le_pow_right (by omega) (by omega)
      exact_mod_cast this
    have hp2 : (256 : Int) ^ (k + 1) = 256 ^ k * 256 := Int.pow_succ ..
    refine ⟨m - 1, by omega, Gp.keep rfl ?_ fun ρ1 h => ⟨k + 1, acc * 256 + x, by omega, by omega, by omega, ?_, rfl, h⟩⟩
    · refine ⟨intEq ?_, rfl, rfl, intEq (wrapI ((k : Int) + 1) (by omega) (by omega)), trivial⟩
      show or64 (IntKind.i64.wrap (acc * 2 ^ 8)) (IntKind.i64.wrap x) = _
      rw [wrapI _ (by omega) (by omega), wrapI x (by omega) (by omega), or64_add acc x 8 h0 hxb.1 (by omega) (by omega)]
      omega
    · rw [← hr, hd]; rfl
  · simp at hlt
    conv => whnf
    rw [List.drop_eq_nil_of_le hlt] at hr
    exact ⟨intEq hr, rfl⟩

theorem rnumber_spec {P : Program} (F : F_batch_reader_number P) (n : Int) (hn : 0 ≤ n) (hn6 : n ≤ 4) (s : RdS) (hby : Byt s.rest) (H : List AObj) (id : Nat) (ho : H[id]? = some (rdO s)) :
    ACalls P F.id [.ptr id 1 0 0, .int .i64 n] H (fun r H' => r = .int .i64 (nbV n s) ∧ H' = H.set id (rdO (tkS n s))) :=
  (rnumber_raw F n hn hn6 s hby).fr ho rfl rfl (.pt (.cl rfl trivial)) (.closed _ rfl)

def txV (s : RdS) : ByteArray := strOf (tkL (nbV 1 s) (tkS 1 s))

def txS (s : RdS) : RdS := tkS (nbV 1 s) (tkS 1 s)

set_option maxRecDepth 20000 in
theorem rtext_raw {P : Program} (F : F_batch_reader_text P) (s : RdS) (hby : Byt s.rest) :
    ACalls P F.id [.ptr 0 1 0 0] [rdO s] (fun r H' => r = .str (txV s) ∧ H' = [rdO (txS s)]) := by
  refine acalls_of_body F.has ?_
  (conv => whnf); refine ACalls.mono (rnumber_raw F.batch_reader_number 1 (by omega) (by omega) s hby) ?_
  rintro r H' ⟨rfl, rfl⟩
  (conv => whnf); refine ACalls.mono (take_raw F.batch_reader_take _ (nbV_bound (by omega) (by omega) hby).1 (tkS 1 s)) ?_
  rintro r H' ⟨rfl, rfl⟩
  (conv => whnf); refine ⟨_, bytesOf_bC _, ?_⟩
  conv => whnf
  exact ⟨rfl, rfl⟩

theorem rtext_spec {P : Program} (F : F_batch_reader_text P) (s : RdS) (hby : Byt s.rest) (H : List AObj) (id : Nat) (ho : H[id]? = some (rdO s)) :
    ACalls P F.id [.ptr id 1 0 0] H (fun r H' => r = .str (txV s) ∧ H' = H.set id (rdO (txS s))) :=
  (rtext_raw F s hby).fr ho rfl rfl (.pt trivial) (.closed _ rfl)

end Go.AW

