/-
  The numbers of named columns.
  No condition: contracts over any program that has this code.
-/
import Derived.Test.YtikifhfpiahnoaaWhLaw5c
namespace Go.AW
attribute [local irreducible] ACalls

def sC (l : List ByteArray) : List (List AVal) := l.map fun s => [.str s]
theorem sC_length (l : List ByteArray) : (sC l).length = l.length := List.length_map ..
theorem sC_append (a b : List ByteArray) : sC (a ++ b) = sC a ++ sC b := List.map_append
theorem pureEs_sC (l : List ByteArray) : pureEs (sC l) = true := by simp [pureEs, sC, AVal.isPure]
theorem sC_at {l : List ByteArray} {k : Nat} {x : ByteArray} (h : l[k]? = some x) : (sC l)[k]? = some [.str x] := by simp [sC, h]

def eqS (s t : ByteArray) : Bool := s.data.toList == t.data.toList

set_option maxRecDepth 20000 in
theorem IndexS_spec {P : Program} (F : F_slices_Index_Lstring_string P) (ex : Bool) (l : List ByteArray) (hl : l.length ≤ 1000000) (s : ByteArray) (H : List AObj) :
    ACalls P F.id [.list ex 1 (sC l), .str s] H (fun r H' => r = .int .i64 (idxOf (eqS s) l 0) ∧ H' = H) := by
  refine ACalls.pure (by simp [AVal.closed, AVal.isPure]) (acalls_of_body F.has ?_)
  conv => whnf
  refine ⟨fun m ρ H1 => ∃ k : Nat, k + m = l.length ∧ idxOf (eqS s) (l.drop k) k = idxOf (eqS s) l 0 ∧ H1 = [] ∧
    Sv 19 [(0, .list ex 1 (sC l)), (1, .str s), (7, .int .i64 l.length), (8, .int .i64 k)] ρ, l.length, [], ?_, ?_⟩
  · exact ⟨0, by omega, rfl, rfl, Sv.intro rfl ⟨rfl, rfl, intEq (by rw [sC_length]), rfl, trivial⟩⟩
  rintro m ρ H1 ⟨k, hk, hr, rfl, d, rfl⟩
  (conv => whnf); refine recA (fun hlt => ?_) (fun hlt => ?_)
  · simp at hlt
    obtain ⟨c, hc, hd, _⟩ := get_drop hlt
    rw [hd] at hr
    conv => whnf
    refine And.intro (by omega) ?_
    (conv => whnf); refine recO (sC_at hc) ?_
    (conv => whnf); refine recA (fun h => ?_) (fun hf => ?_)
    · conv => whnf
      refine pubI ?_
      rw [← hr, idxOf, if_pos (show eqS s c = true from h)]
    · conv => whnf
      refine ⟨m - 1, by omega, Gp.keep rfl ?_ fun ρ1 h => ⟨k + 1, by omega, ?_, rfl, h⟩⟩
      · exact ⟨rfl, rfl, rfl, intEq (wrapI ((k : Int) + 1) (by omega) (by omega)), trivial⟩
      · rw [← hr, idxOf, if_neg (by rw [show eqS s c = false from hf]; simp)]; rfl
  · simp at hlt
    conv => whnf
    rw [List.drop_eq_nil_of_le hlt] at hr
    exact pubI hr

theorem idxOf_any {α : Type} (p : α → Bool) : ∀ (l : List α) (i : Int), 0 ≤ i → (idxOf p l i ≥ 0 ↔ l.any p = true)
  | [], i, h => by simp [idxOf]
  | c :: cs, i, h => by
    rw [idxOf]
    split
    · simp_all
    · rw [idxOf_any p cs (i + 1) (by omega)]; simp_all

set_option maxRecDepth 20000 in
theorem Contains_spec {P : Program} (F : F_slices_Contains_Lstring_string P) (ex : Bool) (l : List ByteArray) (hl : l.length ≤ 1000000) (s : ByteArray) (H : List AObj) :
    ACalls P F.id [.list ex 1 (sC l), .str s] H (fun r H' => r = .bool (l.any (eqS s)) ∧ H' = H) := by
  refine ACalls.pure (by simp [AVal.closed, AVal.isPure]) (acalls_of_body F.has ?_)
  (conv => whnf); refine ACalls.use (IndexS_spec F.slices_Index_Lstring_string ex l hl s _) ?_
  conv => whnf
  refine pubB ?_
  have h := idxOf_any (eqS s) l 0 (by omega)
  rw [Bool.eq_iff_iff, ← h]; simp

set_option maxRecDepth 20000 in
theorem Has_spec {P : Program} (F : F_warehouseref5_Has P) (ex : Bool) (l : List ByteArray) (hl : l.length ≤ 1000000) (s : ByteArray) (H : List AObj) :
    ACalls P F.id [.list ex 1 (sC l), .str s] H (fun r H' => r = .bool (l.any (eqS s)) ∧ H' = H) := by
  refine ACalls.pure (by simp [AVal.closed, AVal.isPure]) (acalls_of_body F.has ?_)
  conv => whnf
  refine ⟨fun m ρ H1 => ∃ k : Nat, k + m = l.length ∧ (l.drop k).any (eqS s) = l.any (eqS s) ∧ H1 = [] ∧
    Sv 18 [(0, .list ex 1 (sC l)), (1, .str s), (5, .int .i64 k)] ρ, l.length, [], ?_, ?_⟩
  · exact ⟨0, by omega, rfl, rfl, Sv.intro rfl ⟨rfl, rfl, rfl, trivial⟩⟩
  rintro m ρ H1 ⟨k, hk, hr, rfl, d, rfl⟩
  (conv => whnf); refine recA (fun hlt => ?_) (fun hlt => ?_)
  · simp [sC_length] at hlt
    obtain ⟨c, hc, hd, _⟩ := get_drop hlt
    rw [hd, List.any_cons] at hr
    have hcm : eqS s c = (c.data.toList == s.data.toList) := by rw [eqS, BEq.comm]
    conv => whnf
    refine And.intro (by omega) ?_
    (conv => whnf); refine recO (sC_at hc) ?_
    (conv => whnf); refine recA (fun h => ?_) (fun hf => ?_)
    · conv => whnf
      refine pubB ?_
      rw [← hr, hcm, show (c.data.toList == s.data.toList) = true from h]; rfl
    · conv => whnf
      refine ⟨m - 1, by omega, Gp.keep rfl ?_ fun ρ1 h => ⟨k + 1, by omega, ?_, rfl, h⟩⟩
      · exact ⟨rfl, rfl, intEq (wrapI ((k : Int) + 1) (by omega) (by omega)), trivial⟩
      · rw [← hr, hcm, show (c.data.toList == s.data.toList) = false from hf]; rfl
  · simp [sC_length] at hlt
    conv => whnf
    rw [List.drop_eq_nil_of_le hlt] at hr
    exact pubB hr

set_option maxRecDepth 20000 in
theorem ints_refl {P : Program} (F : F_warehouselaw5_ints P) (e1 e2 : Bool) (a : List Int) (ha : a.length ≤ 1000000) (H : List AObj) :
    ACalls P F.id [.list e1 1 (iC a), .list e2 1 (iC a)] H (fun r H' => r = .bool true ∧ H' = H) := by
  refine ACalls.pure (by simp [AVal.closed, AVal.isPure]) (acalls_of_body F.has ?_)
  (conv => whnf); refine recF (by simp) ?_
  conv => whnf
  refine ⟨fun m ρ H => ∃ k : Nat, k + m = a.length ∧ H = [] ∧ Sv 26 [(0, .list e1 1 (iC a)), (1, .list e2 1 (iC a)), (5, .int .i64 k)] ρ, a.length, [], ?_, ?_⟩
  · exact ⟨0, by omega, rfl, Sv.intro rfl ⟨rfl, rfl, rfl, trivial⟩⟩
  rintro m ρ H ⟨k, hk, rfl, d, rfl⟩
  (conv => whnf); refine recA (fun hlt => ?_) (fun hlt => ?_)
  · simp [iC_length] at hlt
    obtain ⟨x, hx, _, _⟩ := get_drop hlt
    conv => whnf
    refine And.intro (by omega) ?_
    (conv => whnf); refine recO (iC_at hx) ?_
    (conv => whnf); refine And.intro (by omega) ?_
    (conv => whnf); refine recO (iC_at hx) ?_
    (conv => whnf)
    refine recF (by simp) ?_
    conv => whnf
    refine ⟨m - 1, by omega, Gp.keep rfl ?_ fun ρ1 h => ⟨k + 1, by omega, rfl, h⟩⟩
    exact ⟨rfl, rfl, intEq (wrapI ((k : Int) + 1) (by omega) (by omega)), trivial⟩
  · conv => whnf
    exact .closed _ rfl

/-- The numbers of names from the k-th on; out of what is before. -/
def idxGo (cs : List Col) (names : List ByteArray) : List ByteArray → Nat → List Int → AVal
  | [], _, out => .tuple [.list false 1 (iC out), .int .i64 0]
  | s :: ss, k, out => if colIdx cs s < 0 then .tuple [.nil, .int .i64 5] else if (names.take k).any (eqS s) = true then .tuple [.nil, .int .i64 6] else idxGo cs names ss (k + 1) (out ++ [colIdx cs s])
def idxR (cs : List Col) (names : List ByteArray) : AVal := idxGo cs names names 0 []
theorem idxGo_cases (cs : List Col) (names : List ByteArray) : ∀ (l : List ByteArray) (k : Nat) (out : List Int), idxGo cs names l k out = .tuple [.nil, .int .i64 5] ∨ idxGo cs names l k out = .tuple [.nil, .int .i64 6] ∨ ∃ is : List Int, is.length = out.length + l.length ∧ idxGo cs names l k out = .tuple [.list false 1 (iC is), .int .i64 0]
  | [], k, out => .inr (.inr ⟨out, by simp, rfl⟩)
  | s :: ss, k, out => by
    rw [idxGo]
    split
    · exact .inl rfl
    split
    · exact .inr (.inl rfl)
    · rcases idxGo_cases cs names ss (k + 1) (out ++ [colIdx cs s]) with h | h | ⟨is, h1, h2⟩
      · exact .inl h
      · exact .inr (.inl h)
      · exact .inr (.inr ⟨is, by rw [h1]; simp; omega, h2⟩)

set_option maxRecDepth 20000 in
theorem schema_Indices_spec {P : Program} (F : F_schema_Indices P) (e1 e2 : Bool) (cs : List Col) (names : List ByteArray) (hc : cs.length ≤ 1000000) (hl : names.length ≤ 1000000) (H : List AObj) :
    ACalls P F.id [.list e1 3 (cC cs), .list e2 1 (sC names)] H (fun r H' => r = idxR cs names ∧ H' = H) := by
  refine ACalls.pure (by simp [AVal.closed, AVal.isPure]) (acalls_of_body F.has ?_)
  conv => whnf
  refine ⟨fun m ρ H1 => ∃ (k : Nat) (out : List Int), k + m = names.length ∧ out.length = k ∧ idxGo cs names (names.drop k) k out = idxR cs names ∧ H1 = [.arr 1 (iC out)] ∧
    Sv 33 [(0, .list e1 3 (cC cs)), (1, .list e2 1 (sC names)), (6, .sl 0 k 0 k), (10, .list e2 1 (sC names)), (11, .int .i64 names.length), (12, .int .i64 k)] ρ, names.length, [(6, 1)], ?_, ?_⟩
  · exact ⟨0, [], by omega, rfl, rfl, by rfl, Sv.intro rfl ⟨rfl, rfl, rfl, rfl, intEq (by rw [sC_length]), rfl, trivial⟩⟩
  rintro m ρ H1 ⟨k, out, hk, ho, hr, rfl, d, rfl⟩
  have hol : (iC out).length = k := by rw [iC_length, ho]
  (conv => whnf); refine recA (fun hlt => ?_) (fun hlt => ?_)
  · simp at hlt
    obtain ⟨s, hs, hd, _⟩ := get_drop hlt
    rw [hd, idxGo] at hr
    have htk : (sC names).take k = sC (names.take k) := by simp [sC]
    conv => whnf
    refine And.intro (by omega) ?_
    (conv => whnf); refine recO (sC_at hs) ?_
    conv => whnf
    refine ACalls.use (schema_Index_spec F.schema_Index e1 cs hc s _) ?_
    (conv => whnf); refine recA (fun h => ?_) (fun h => ?_)
    · replace h : decide (colIdx cs s < 0) = true := h
      simp at h
      conv => whnf
      rw [← hr, if_pos h]
      exact pub2 (.closed _ rfl) (.closed _ rfl)
    · replace h : decide (colIdx cs s < 0) = false := h
      simp at h
      rw [if_neg (by omega)] at hr
      have hC := fun H => Contains_spec F.slices_Contains_Lstring_string (e2 && (some (AOpd.t 23)).isNone) (names.take k) (by simp; omega) s H
      have htk : sC (names.take k) = List.drop 0 (List.take (k : Int).toNat (sC names)) := by simp [sC]
      rw [htk] at hC
      conv => whnf
      refine And.intro ⟨by omega, by rw [sC_length]; omega⟩ ?_
      conv => whnf
      refine ACalls.use (hC _) ?_
      (conv => whnf); refine recA (fun g => ?_) (fun g => ?_)
      · rw [if_pos g] at hr
        conv => whnf
        rw [← hr]
        exact pub2 (.closed _ rfl) (.closed _ rfl)
      · rw [if_neg (by rw [show (names.take k).any (eqS s) = false from g]; simp)] at hr
        (conv => whnf); refine recT (by rw [hol]; exact Nat.beq_refl _) ?_
        (conv => whnf); refine And.intro ⟨roomMul (by simp; omega) (by omega), roomB_le (by simp; omega), rfl, by rw [hol]⟩ ?_
        conv => whnf
        have hl1 : (iC out ++ [[AVal.int .i64 (colIdx cs s)]]).length = k + 1 := by rw [List.length_append, hol]; rfl
        refine ⟨m - 1, by omega, Gp.one 0 1 (iC (out ++ [colIdx cs s])) (by rw [iC_append]; rfl) (pureEs_iC _) rfl ?_ fun ρ1 h => ⟨k + 1, out ++ [colIdx cs s], by omega, by simp [ho], hr, rfl, h⟩⟩
        exact ⟨.closed _ rfl, .closed _ rfl, pubSl (k := 0) rfl rfl hl1 hl1, .closed _ rfl, .closed _ rfl, pub_int (wrapI ((k : Int) + 1) (by omega) (by omega)), trivial⟩
  · simp at hlt
    rw [List.drop_eq_nil_of_le hlt, idxGo] at hr
    conv => whnf
    rw [← hr]
    exact pub2 (pubF rfl hol.symm hol.symm (pureEs_iC _)) (.closed _ rfl)

set_option maxRecDepth 20000 in
theorem ref5_Indices_spec {P : Program} (F : F_warehouseref5_Indices P) (e1 e2 : Bool) (cs : List Col) (names : List ByteArray) (hc : cs.length ≤ 1000000) (hl : names.length ≤ 1000000) (H : List AObj) :
    ACalls P F.id [.list e1 3 (cC cs), .list e2 1 (sC names)] H (fun r H' => r = idxR cs names ∧ H' = H) := by
  refine ACalls.pure (by simp [AVal.closed, AVal.isPure]) (acalls_of_body F.has ?_)
  conv => whnf
  refine ⟨fun m ρ H1 => ∃ (k : Nat) (out : List Int), k + m = names.length ∧ out.length = k ∧ idxGo cs names (names.drop k) k out = idxR cs names ∧ H1 = [.arr 1 (iC out)] ∧
    Sv 36 [(0, .list e1 3 (cC cs)), (1, .list e2 1 (sC names)), (6, .sl 0 k 0 k), (7, .int .i64 k)] ρ, names.length, [(6, 1)], ?_, ?_⟩
  · exact ⟨0, [], by omega, rfl, rfl, by rfl, Sv.intro rfl ⟨rfl, rfl, rfl, rfl, trivial⟩⟩
  rintro m ρ H1 ⟨k, out, hk, ho, hr, rfl, d, rfl⟩
  have hol : (iC out).length = k := by rw [iC_length, ho]
  (conv => whnf); refine recA (fun hlt => ?_) (fun hlt => ?_)
  · simp [sC_length] at hlt
    obtain ⟨s, hs, hd, _⟩ := get_drop hlt
    rw [hd, idxGo] at hr
    conv => whnf
    refine And.intro (by omega) ?_
    (conv => whnf); refine recO (sC_at hs) ?_
    conv => whnf
    refine ACalls.use (ref5_Index_spec F.warehouseref5_Index e1 cs hc s _) ?_
    (conv => whnf); refine recA (fun h => ?_) (fun h => ?_)
    · replace h : decide (colIdx cs s < 0) = true := h
      simp at h
      conv => whnf
      rw [← hr, if_pos h]
      exact pub2 (.closed _ rfl) (.closed _ rfl)
    · replace h : decide (colIdx cs s < 0) = false := h
      simp at h
      rw [if_neg (by omega)] at hr
      have hC := fun H => Has_spec F.warehouseref5_Has (e2 && (some (AOpd.t 24)).isNone) (names.take k) (by simp; omega) s H
      have htk : sC (names.take k) = List.drop 0 (List.take (k : Int).toNat (sC names)) := by simp [sC]
      rw [htk] at hC
      conv => whnf
      refine And.intro ⟨by omega, by rw [sC_length]; omega⟩ ?_
      conv => whnf
      refine And.intro (by omega) ?_
      (conv => whnf); refine recO (sC_at hs) ?_
      conv => whnf
      refine ⟨_, hC _, ?_⟩
      (conv => whnf); refine recA (fun g => ?_) (fun g => ?_)
      · rw [if_pos g] at hr
        conv => whnf
        rw [← hr]
        exact pub2 (.closed _ rfl) (.closed _ rfl)
      · rw [if_neg (by rw [show (names.take k).any (eqS s) = false from g]; simp)] at hr
        (conv => whnf); refine recT (by rw [hol]; exact Nat.beq_refl _) ?_
        (conv => whnf); refine And.intro ⟨roomMul (by simp; omega) (by omega), roomB_le (by simp; omega), rfl, by rw [hol]⟩ ?_
        conv => whnf
        have hl1 : (iC out ++ [[AVal.int .i64 (colIdx cs s)]]).length = k + 1 := by rw [List.length_append, hol]; rfl
        refine ⟨m - 1, by omega, Gp.one 0 1 (iC (out ++ [colIdx cs s])) (by rw [iC_append]; rfl) (pureEs_iC _) rfl ?_ fun ρ1 h => ⟨k + 1, out ++ [colIdx cs s], by omega, by simp [ho], hr, rfl, h⟩⟩
        exact ⟨.closed _ rfl, .closed _ rfl, pubSl (k := 0) rfl rfl hl1 hl1, pub_int (wrapI ((k : Int) + 1) (by omega) (by omega)), trivial⟩
  · simp [sC_length] at hlt
    rw [List.drop_eq_nil_of_le hlt, idxGo] at hr
    conv => whnf
    rw [← hr]
    exact pub2 (pubF rfl hol.symm hol.symm (pureEs_iC _)) (.closed _ rfl)

def oneS (l : List Int) (i : Nat) : ByteArray := ⟨[UInt8.ofNat (IntKind.u8.wrap (w64 (97 + (atV l (w64 (i + 9))).tmod 9))).toNat].toArray⟩
def oneSs (l : List Int) (k : Nat) : List ByteArray := (List.range k).map (oneS l)
theorem oneSs_length (l : List Int) (k : Nat) : (oneSs l k).length = k := by simp [oneSs]
theorem oneSs_succ (l : List Int) (k : Nat) : oneSs l (k + 1) = oneSs l k ++ [oneS l k] := by simp [oneSs, List.range_succ]

theorem ints_cases {P : Program} (F : F_warehouselaw5_ints P) (cs : List Col) (names : List ByteArray) (hl : names.length ≤ 1000000) : ∃ (a : AVal) (e : Int), idxR cs names = .tuple [a, .int .i64 e] ∧ ∀ H, ACalls P F.id [a, a] H (fun r H' => r = .bool true ∧ H' = H) := by
  rcases idxGo_cases cs names names 0 [] with h | h | ⟨is, h1, h2⟩
  · exact ⟨_, _, h, fun H => (ints_refl F false false [] (by simp) H).weak (.cons (.nil false 1) (.cons (.nil false 1) .nil))⟩
  · exact ⟨_, _, h, fun H => (ints_refl F false false [] (by simp) H).weak (.cons (.nil false 1) (.cons (.nil false 1) .nil))⟩
  · exact ⟨_, _, h2, fun H => ints_refl F false false is (by rw [h1]; simpa using hl) H⟩

set_option maxRecDepth 20000 in
theorem law_SchemaIndices {P : Program} (F : F_warehouselaw5_SchemaIndices P) (c : List Col) (names : List ByteArray) (l : List Int) (n : Int) :
    ACalls P F.id [.list false 3 (cC c), .list false 1 (sC names), .list false 1 (iC l), .int .i64 n] [] (fun r _ => r = .bool true) := by
  have e7 := and_7 n
  have e3 := and_3 (shrI n 3)
  have fin : ∀ H, ACalls P F.warehouselaw5_known.id [] H (fun r H' => r = .bool true ∧ H' = H) := known5_spec F.warehouselaw5_known
  refine acalls_of_body F.has ?_
  (conv => whnf); refine recA (fun h0 => ?_) (fun h0 => ?_)
  · conv => whnf
    refine ACalls.use (fin _) ?_
    conv => whnf
  simp [cC_length] at h0
  (conv => whnf); refine recA (fun h1 => ?_) (fun h1 => ?_)
  · conv => whnf
    refine ACalls.use (fin _) ?_
    conv => whnf
  simp [sC_length] at h1
  conv => whnf
  refine ACalls.use (Columns_spec F.warehousebase_Columns false l (and64 n 7) (by omega) _) ?_
  conv => whnf
  have hx : (colsK l (and64 n 7).toNat).length ≤ 1000 := by rw [colsK_length]; omega
  refine ⟨fun m ρ H => ∃ k : Nat, k + m = (and64 (shrI n 3) 3).toNat ∧ H = [.arr 1 (sC (oneSs l k))] ∧
    Sv 97 [(0, .list false 3 (cC c)), (1, .list false 1 (sC names)), (2, .list false 1 (iC l)), (3, .int .i64 n), (9, .list false 3 (cC (colsK l (and64 n 7).toNat))), (10, .sl 0 k 0 k), (11, .int .i64 k)] ρ, (and64 (shrI n 3) 3).toNat, [(10, 1)], ?_, ?_⟩
  · exact ⟨0, by omega, by rfl, Sv.intro rfl ⟨rfl, rfl, rfl, rfl, rfl, rfl, rfl, trivial⟩⟩
  rintro m ρ H ⟨k, hk, rfl, d, rfl⟩
  have hol : (sC (oneSs l k)).length = k := by rw [sC_length, oneSs_length]
  (conv => whnf); refine And.intro (by decide) ?_
  conv => whnf
  by_cases hlt : (k : Int) < and64 (shrI n 3) 3
  · refine Ghost.one (n := 97) (live := [(0, .list false 3 (cC c)), (1, .list false 1 (sC names)), (2, .list false 1 (iC l)), (3, .int .i64 n), (9, .list false 3 (cC (colsK l (and64 n 7).toNat))), (10, .sl 0 k 0 k), (11, .int .i64 k), (37, .bool true)]) 0 1 (sC (oneSs l k)) rfl (pureEs_sC _) rfl ?_ ?_
    · exact ⟨.closed _ rfl, .closed _ rfl, .closed _ rfl, .closed _ rfl, .closed _ rfl, pubSl (k := 0) rfl rfl rfl rfl, .closed _ rfl, pubB (decide_eq_true hlt), trivial⟩
    rintro ρ1 ⟨d, rfl⟩
    conv => whnf
    refine ACalls.use (At_spec F.warehousebase_At false l _ _) ?_
    (conv => whnf); refine And.intro (by decide) ?_
    (conv => whnf); refine ⟨_, rfl, ?_⟩
    (conv => whnf); refine recT (by rw [hol]; exact Nat.beq_refl _) ?_
    (conv => whnf); refine And.intro ⟨roomMul (by simp; omega) (by omega), roomB_le (by simp; omega), rfl, by rw [hol]⟩ ?_
    conv => whnf
    have hl1 : (sC (oneSs l k) ++ [[AVal.str (oneS l k)]]).length = k + 1 := by rw [List.length_append, hol]; rfl
    refine ⟨m - 1, by omega, Gp.one 0 1 (sC (oneSs l (k + 1))) ?_ (pureEs_sC _) rfl ?_ fun ρ1 h => ⟨k + 1, by omega, rfl, h⟩⟩
    · rw [oneSs_succ, sC_append]; rfl
    · exact ⟨.closed _ rfl, .closed _ rfl, .closed _ rfl, .closed _ rfl, .closed _ rfl, pubSl (k := 0) rfl rfl hl1 hl1, pub_int (wrapI ((k : Int) + 1) (by omega) (by omega)), trivial⟩
  · refine Ghost.none (n := 97) (live := [(0, .list false 3 (cC c)), (1, .list false 1 (sC names)), (9, .list false 3 (cC (colsK l (and64 n 7).toNat))), (10, .list false 1 (sC (oneSs l k))), (37, .bool false)]) rfl ?_ ?_
    · exact ⟨.closed _ rfl, .closed _ rfl, .closed _ rfl, pubF rfl hol.symm hol.symm (pureEs_sC _), pubB (decide_eq_false hlt), trivial⟩
    rintro ρ1 ⟨d, rfl⟩
    have hk2 : (oneSs l k).length ≤ 1000000 := by rw [oneSs_length]; omega
    obtain ⟨a1, q1, hE1, hI1⟩ := ints_cases F.warehouselaw5_ints c names (by omega)
    obtain ⟨a2, q2, hE2, hI2⟩ := ints_cases F.warehouselaw5_ints (colsK l (and64 n 7).toNat) (oneSs l k) hk2
    conv => whnf
    refine ACalls.use (schema_Indices_spec F.schema_Indices false false c names (by omega) (by omega) _) ?_
    rw [hE1]
    (conv => whnf); refine ACalls.use (ref5_Indices_spec F.warehouseref5_Indices false false c names (by omega) (by omega) _) ?_
    rw [hE1]
    (conv => whnf); refine ACalls.use (schema_Indices_spec F.schema_Indices false false (colsK l (and64 n 7).toNat) (oneSs l k) (by omega) hk2 _) ?_
    rw [hE2]
    (conv => whnf); refine ACalls.use (ref5_Indices_spec F.warehouseref5_Indices false false (colsK l (and64 n 7).toNat) (oneSs l k) (by omega) hk2 _) ?_
    rw [hE2]
    (conv => whnf); refine ACalls.use (hI1 _) ?_
    (conv => whnf); refine recT (by simp) ?_
    (conv => whnf); refine ACalls.use (hI2 _) ?_
    (conv => whnf); refine recT (by simp) ?_
    (conv => whnf); refine ACalls.use (fin _) ?_
    conv => whnf
end Go.AW
