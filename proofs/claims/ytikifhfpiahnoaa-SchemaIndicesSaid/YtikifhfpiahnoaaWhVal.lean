/-
  Values: what the functions of the packages value and warehouseref1 compute.
  No condition: contracts over any program that has this code.
-/
import Derived.Test.YtikifhfpiahnoaaWhCodeA
import Derived.Test.YtikifhfpiahnoaaAwLaw
namespace Go.AW
attribute [local irreducible] ACalls

/-- A value of the warehouse. -/
structure V where
  kind : Int
  num : Int
  str : ByteArray

def valC (v : V) : List AVal := [.int .i64 v.kind, .int .i64 v.num, .str v.str]

def validB (v : V) : Bool :=
  if v.kind = 0 then v.num == 0 && v.str.data.toList == []
  else if v.kind = 1 then (v.num == 0 || v.num == 1) && v.str.data.toList == []
  else if v.kind = 2 then decide (-1073741824 ≤ v.num) && decide (v.num ≤ 1073741824) && v.str.data.toList == []
  else if v.kind = 3 then v.num == 0 && decide (v.str.size ≤ 64)
  else if v.kind = 4 then decide (0 ≤ v.num) && decide (v.num ≤ 575999999) && v.str.data.toList == []
  else false

set_option maxRecDepth 20000 in
theorem value_Valid_spec {P : Program} (F : F_value_Valid P) (v : V) (H : List AObj) :
    ACalls P F.id [.agg (valC v)] H (fun r H' => r = .bool (validB v) ∧ H' = H) := by
  refine ACalls.pure rfl (acalls_of_body F.has ?_)
  repeat' ((conv => whnf); refine recA (fun _ => ?_) (fun _ => ?_))
  all_goals (conv => whnf)
  all_goals refine pubB ?_
  all_goals (simp_all [validB, bs_nil]; try omega)

set_option maxRecDepth 20000 in
theorem ref1_Valid_spec {P : Program} (F : F_warehouseref1_Valid P) (v : V) (H : List AObj) :
    ACalls P F.id [.agg (valC v)] H (fun r H' => r = .bool (validB v) ∧ H' = H) := by
  refine ACalls.pure rfl (acalls_of_body F.has ?_)
  repeat' ((conv => whnf); refine recA (fun _ => ?_) (fun _ => ?_))
  all_goals (conv => whnf)
  all_goals refine pubB ?_
  all_goals (simp_all [validB, bs_nil]; try omega)

/-- The order of integers, as a number. -/
def cmpI (a b : Int) : Int := if a < b then -1 else if b < a then 1 else 0
/-- The order of byte strings, as a number. -/
def cmpS (a b : List UInt8) : Int := if Op.bytesLess a b then -1 else if a = b then 0 else 1

theorem isNaN_int_spec {P : Program} (F : F_cmp_isNaN_int P) (a : Int) (H : List AObj) :
    ACalls P F.id [.int .i64 a] H (fun r H' => r = .bool false ∧ H' = H) := by
  refine ACalls.pure rfl (acalls_of_body F.has ?_)
  conv => whnf
  exact pubB (by simp)

theorem isNaN_string_spec {P : Program} (F : F_cmp_isNaN_string P) (a : ByteArray) (H : List AObj) :
    ACalls P F.id [.str a] H (fun r H' => r = .bool false ∧ H' = H) := by
  refine ACalls.pure rfl (acalls_of_body F.has ?_)
  conv => whnf
  exact pubB (by simp)

theorem cmpCompare_int_spec {P : Program} (F : F_cmp_Compare_int P) (a b : Int) (H : List AObj) :
    ACalls P F.id [.int .i64 a, .int .i64 b] H (fun r H' => r = .int .i64 (cmpI a b) ∧ H' = H) := by
  refine ACalls.pure rfl (acalls_of_body F.has ?_)
  conv => whnf
  refine (isNaN_int_spec F.cmp_isNaN_int _ _).use ?_
  conv => whnf
  refine (isNaN_int_spec F.cmp_isNaN_int _ _).use ?_
  repeat' ((conv => whnf); refine recA (fun _ => ?_) (fun _ => ?_))
  all_goals (conv => whnf)
  all_goals refine pubI ?_
  all_goals (simp_all [cmpI]; try omega)

theorem cmpCompare_string_spec {P : Program} (F : F_cmp_Compare_string P) (a b : ByteArray) (H : List AObj) :
    ACalls P F.id [.str a, .str b] H (fun r H' => r = .int .i64 (cmpS a.data.toList b.data.toList) ∧ H' = H) := by
  refine ACalls.pure rfl (acalls_of_body F.has ?_)
  conv => whnf
  refine (isNaN_string_spec F.cmp_isNaN_string _ _).use ?_
  conv => whnf
  refine (isNaN_string_spec F.cmp_isNaN_string _ _).use ?_
  repeat' ((conv => whnf); refine recA (fun _ => ?_) (fun _ => ?_))
  all_goals (conv => whnf)
  all_goals refine pubI ?_
  all_goals (simp_all [cmpS])

def orI : List Int → Int
  | [] => 0
  | x :: xs => if x = 0 then orI xs else x

def valCmp (a b : V) : Int := orI [cmpI a.kind b.kind, cmpI a.num b.num, cmpS a.str.data.toList b.str.data.toList]

theorem orI_drop (l : List Int) (k : Nat) (h : ∀ j, j < k → l.getD j 0 = 0) : orI l = orI (l.drop k) := by
  induction k generalizing l with
  | zero => rfl
  | succ k ih =>
    cases l with
    | nil => rfl
    | cons x xs =>
      have h0 := h 0 (by omega)
      simp at h0
      subst h0
      simp only [orI, if_true, List.drop_succ_cons]
      exact ih xs fun j hj => by have := h (j + 1) (by omega); simpa using this

theorem getElem?_getD {l : List Int} {k : Nat} (h : k < l.length) : l[k]? = some (l.getD k 0) := by
  rw [List.getD_eq_getElem?_getD, List.getElem?_eq_getElem h]; rfl

theorem orI_at (l : List Int) (k : Nat) (h : ∀ j, j < k → l.getD j 0 = 0) (hk : k < l.length) (hne : l.getD k 0 ≠ 0) : orI l = l.getD k 0 := by
  rw [orI_drop l k h, List.drop_eq_getElem_cons hk]
  rw [List.getD_eq_getElem?_getD, List.getElem?_eq_getElem hk] at hne ⊢
  simp only [Option.getD_some] at hne ⊢
  simp [orI, hne]

theorem orI_all (l : List Int) (h : ∀ j, j < l.length → l.getD j 0 = 0) : orI l = 0 := by
  rw [orI_drop l l.length h, List.drop_length]; rfl

set_option maxRecDepth 20000 in
theorem cmpOr_spec {P : Program} (F : F_cmp_Or_int P) (l : List Int) (hl : l.length ≤ 1000000) (H : List AObj) :
    ACalls P F.id [.list true 1 (l.map fun x => [.int .i64 x])] H (fun r H' => r = .int .i64 (orI l) ∧ H' = H) := by
  refine ACalls.pure rfl (acalls_of_body F.has ?_)
  conv => whnf
  refine ⟨fun n ρ H => ∃ k : Nat, k + n = l.length ∧ (∀ j, j < k → l.getD j 0 = 0) ∧ H = [] ∧
    Sv 18 [(0, .list true 1 (l.map fun x => [.int .i64 x])), (2, .int .i64 0), (3, .int .i64 0), (6, .list true 1 (l.map fun x => [.int .i64 x])), (7, .int .i64 (l.map fun x => [AVal.int .i64 x]).length), (8, .int .i64 k)] ρ, l.length, [], ⟨0, by simp, by simp, rfl, Sv.intro rfl ⟨rfl, rfl, rfl, rfl, rfl, rfl, trivial⟩⟩, ?_⟩
  rintro n ρ H ⟨k, hk, hz, rfl, d, rfl⟩
  conv => whnf
  refine recA (fun hlt => ?_) (fun hlt => ?_)
  · simp at hlt
    conv => whnf
    refine ⟨by omega, ?_⟩
    conv => whnf
    refine recO (e := [AVal.int .i64 (l.getD k 0)]) ?_ ?_
    · rw [List.getElem?_map, getElem?_getD (by omega)]; rfl
    (conv => whnf); refine recA (fun hne => ?_) (fun hne => ?_)
    · conv => whnf
      refine pubI ?_
      rw [orI_at l k hz (by omega) (by simpa using hne)]
    · conv => whnf
      have e := wrapI ((k : Int) + 1) (by omega) (by omega)
      refine ⟨n - 1, by omega, Gp.keep rfl ?_ fun ρ1 h => ⟨k + 1, by omega, fun j hj => ?_, rfl, h⟩⟩
      · exact ⟨rfl, rfl, rfl, rfl, rfl, intEq e, trivial⟩
      rcases Nat.lt_succ_iff_lt_or_eq.1 hj with h | rfl
      · exact hz j h
      · simpa using hne
  · conv => whnf
    refine pubI ?_
    simp at hlt
    rw [orI_all l fun j hj => hz j (by omega)]

theorem numbers_spec {P : Program} (F : F_warehouseref1_numbers P) (a b : Int) (H : List AObj) :
    ACalls P F.id [.int .i64 a, .int .i64 b] H (fun r H' => r = .int .i64 (cmpI a b) ∧ H' = H) := by
  refine ACalls.pure rfl (acalls_of_body F.has ?_)
  repeat' ((conv => whnf); refine recA (fun _ => ?_) (fun _ => ?_))
  all_goals (conv => whnf)
  all_goals refine pubI ?_
  all_goals (simp_all [cmpI]; try omega)

set_option maxRecDepth 20000 in
theorem value_Compare_spec {P : Program} (F : F_value_Compare P) (a b : V) (H : List AObj) :
    ACalls P F.id [.agg (valC a), .agg (valC b)] H (fun r H' => r = .int .i64 (valCmp a b) ∧ H' = H) := by
  refine ACalls.pure rfl (acalls_of_body F.has ?_)
  conv => whnf
  refine ⟨_, cmpCompare_int_spec F.cmp_Compare_int a.kind b.kind _, ?_⟩
  conv => whnf
  refine ⟨_, cmpCompare_int_spec F.cmp_Compare_int a.num b.num _, ?_⟩
  conv => whnf
  refine ⟨_, cmpCompare_string_spec F.cmp_Compare_string a.str b.str _, ?_⟩
  conv => whnf
  refine ⟨_, cmpOr_spec F.cmp_Or_int [_, _, _] (by simp) _, ?_⟩
  conv => whnf
  exact pubI rfl

set_option maxRecDepth 20000 in
theorem ref1_Compare_spec {P : Program} (F : F_warehouseref1_Compare P) (a b : V) (H : List AObj) :
    ACalls P F.id [.agg (valC a), .agg (valC b)] H (fun r H' => r = .int .i64 (valCmp a b) ∧ H' = H) := by
  refine ACalls.pure rfl (acalls_of_body F.has ?_)
  repeat' ((conv => whnf); first | refine recA (fun _ => ?_) (fun _ => ?_) | refine ACalls.use (numbers_spec F.warehouseref1_numbers _ _ _) ?_)
  all_goals (conv => whnf)
  all_goals refine pubI ?_
  all_goals simp_all [valCmp, orI, cmpS]

def truth (v : V) : Int := if v.kind = 1 ∧ validB v = true then v.num else -1

set_option maxRecDepth 20000 in
theorem value_Truth_spec {P : Program} (F : F_value_Truth P) (v : V) (H : List AObj) :
    ACalls P F.id [.agg (valC v)] H (fun r H' => r = .int .i64 (truth v) ∧ H' = H) := by
  refine ACalls.pure rfl (acalls_of_body F.has ?_)
  repeat' ((conv => whnf); first | refine recA (fun _ => ?_) (fun _ => ?_) | refine ACalls.use (value_Valid_spec F.value_Valid v _) ?_)
  all_goals (conv => whnf)
  all_goals refine pubI ?_
  all_goals simp_all [truth]

set_option maxRecDepth 20000 in
theorem ref1_Truth_spec {P : Program} (F : F_warehouseref1_Truth P) (v : V) (H : List AObj) :
    ACalls P F.id [.agg (valC v)] H (fun r H' => r = .int .i64 (truth v) ∧ H' = H) := by
  refine ACalls.pure rfl (acalls_of_body F.has ?_)
  repeat' ((conv => whnf); first | refine recA (fun _ => ?_) (fun _ => ?_))
  all_goals (conv => whnf)
  all_goals refine pubI ?_
  all_goals simp_all [truth, validB, bs_nil]

/-- A value that came in. -/
theorem cellsOk_V {e : List AVal} (h : CellsOk [.int .i64, .int .i64, .str] e) : ∃ v : V, e = valC v ∧ (Lit.int .i64 v.kind).wf = true ∧ (Lit.int .i64 v.num).wf = true ∧ v.str.size ≤ maxLen := by
  match e, h with
  | [a, b, c], h =>
    obtain ⟨h1, h2, h3, _⟩ := h
    cases h1; cases h2; cases h3
    exact ⟨⟨_, _, _⟩, rfl, by assumption, by assumption, by assumption⟩
theorem argOk_V {a : AVal} (h : ArgOk (true, [.int .i64, .int .i64, .str]) a) : ∃ v : V, a = .agg (valC v) ∧ (Lit.int .i64 v.kind).wf = true ∧ (Lit.int .i64 v.num).wf = true ∧ v.str.size ≤ maxLen := by
  obtain ⟨as, rfl, hc⟩ := argOk_agg h
  obtain ⟨v, rfl, hv⟩ := cellsOk_V hc
  exact ⟨v, rfl, hv⟩
theorem argOk_row {a : AVal} (h : ArgOk (false, [.slice [.int .i64, .int .i64, .str]]) a) : ∃ rs : List V, a = .list false 3 (rs.map valC) ∧ rs.length ≤ maxLen ∧ ∀ v ∈ rs, (Lit.int .i64 v.kind).wf = true ∧ (Lit.int .i64 v.num).wf = true ∧ v.str.size ≤ maxLen := by
  obtain ⟨es, rfl, hl, h⟩ := argOk_slice h
  obtain ⟨m, rfl, hm⟩ := list_image (g := valC) es fun e he => cellsOk_V (h e he)
  exact ⟨m, rfl, by simpa using hl, hm⟩
end Go.AW
