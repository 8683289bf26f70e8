/-
  Values: what the functions of the packages value and warehouseref1 compute.
  No condition: contracts over any program that has this code.
-/
import Derived.Test.YtikifhfpiahnoaaWhCodeA
namespace Go.AW
attribute [local irreducible] ACalls

/-- A value of the warehouse. -/
structure V where
  kind : Int
  num : Int
  str : ByteArray

def valC (v : V) : List AVal := [.int .i64 v.kind, .int .i64 v.num, .str v.str]

def validB (v : V) : Bool :=
  if v.kind = 0 then v.num == 0 && v.str.data.toList == []
  else if v.kind = 1 then (v.num == 0 || v.num == 1) && v.str.data.toList == []
  else if v.kind = 2 then decide (-1073741824 ≤ v.num) && decide (v.num ≤ 1073741824) && v.str.data.toList == []
  else if v.kind = 3 then v.num == 0 && decide (v.str.size ≤ 64)
  else if v.kind = 4 then decide (0 ≤ v.num) && decide (v.num ≤ 575999999) && v.str.data.toList == []
  else false

set_option maxRecDepth 20000 in
theorem value_Valid_spec {P : Program} {f : FuncId} (hf : Has P f [] c_value_Valid) (v : V) (H : List AObj) :
    ACalls P f [.agg (valC v)] H (fun r H' => r = .bool (validB v) ∧ H' = H) := by
  refine ACalls.pure rfl (acalls_of_body hf ?_)
  repeat' ((conv => whnf); refine recA (fun _ => ?_) (fun _ => ?_))
  all_goals (conv => whnf)
  all_goals refine pubB ?_
  all_goals (simp_all [validB, bs_nil]; try omega)

set_option maxRecDepth 20000 in
theorem ref1_Valid_spec {P : Program} {f : FuncId} (hf : Has P f [] c_warehouseref1_Valid) (v : V) (H : List AObj) :
    ACalls P f [.agg (valC v)] H (fun r H' => r = .bool (validB v) ∧ H' = H) := by
  refine ACalls.pure rfl (acalls_of_body hf ?_)
  repeat' ((conv => whnf); refine recA (fun _ => ?_) (fun _ => ?_))
  all_goals (conv => whnf)
  all_goals refine pubB ?_
  all_goals (simp_all [validB, bs_nil]; try omega)

/-- The order of integers, as a number. -/
def cmpI (a b : Int) : Int := if a < b then -1 else if b < a then 1 else 0
/-- The order of byte strings, as a number. -/
def cmpS (a b : List UInt8) : Int := if Op.bytesLess a b then -1 else if a = b then 0 else 1

theorem isNaN_int_spec {P : Program} {f : FuncId} (hf : Has P f [] c_cmp_isNaN_int) (a : Int) (H : List AObj) :
    ACalls P f [.int .i64 a] H (fun r H' => r = .bool false ∧ H' = H) := by
  refine ACalls.pure rfl (acalls_of_body hf ?_)
  conv => whnf
  exact pubB (by simp)

theorem isNaN_string_spec {P : Program} {f : FuncId} (hf : Has P f [] c_cmp_isNaN_string) (a : ByteArray) (H : List AObj) :
    ACalls P f [.str a] H (fun r H' => r = .bool false ∧ H' = H) := by
  refine ACalls.pure rfl (acalls_of_body hf ?_)
  conv => whnf
  exact pubB (by simp)

theorem cmpCompare_int_spec {P : Program} {f g : FuncId} (hf : Has P f [] (c_cmp_Compare_int g)) (hg : Has P g [] c_cmp_isNaN_int) (a b : Int) (H : List AObj) :
    ACalls P f [.int .i64 a, .int .i64 b] H (fun r H' => r = .int .i64 (cmpI a b) ∧ H' = H) := by
  refine ACalls.pure rfl (acalls_of_body hf ?_)
  conv => whnf
  refine (isNaN_int_spec hg _ _).use ?_
  conv => whnf
  refine (isNaN_int_spec hg _ _).use ?_
  repeat' ((conv => whnf); refine recA (fun _ => ?_) (fun _ => ?_))
  all_goals (conv => whnf)
  all_goals refine pubI ?_
  all_goals (simp_all [cmpI]; try omega)

theorem cmpCompare_string_spec {P : Program} {f g : FuncId} (hf : Has P f [] (c_cmp_Compare_string g)) (hg : Has P g [] c_cmp_isNaN_string) (a b : ByteArray) (H : List AObj) :
    ACalls P f [.str a, .str b] H (fun r H' => r = .int .i64 (cmpS a.data.toList b.data.toList) ∧ H' = H) := by
  refine ACalls.pure rfl (acalls_of_body hf ?_)
  conv => whnf
  refine (isNaN_string_spec hg _ _).use ?_
  conv => whnf
  refine (isNaN_string_spec hg _ _).use ?_
  repeat' ((conv => whnf); refine recA (fun _ => ?_) (fun _ => ?_))
  all_goals (conv => whnf)
  all_goals refine pubI ?_
  all_goals (simp_all [cmpS])

def orI : List Int → Int
  | [] => 0
  | x :: xs => if x = 0 then orI xs else x

def valCmp (a b : V) : Int := orI [cmpI a.kind b.kind, cmpI a.num b.num, cmpS a.str.data.toList b.str.data.toList]

theorem orI_drop (l : List Int) (k : Nat) (h : ∀ j, j < k → l.getD j 0 = 0) : orI l = orI (l.drop k) := by
  induction k generalizing l with
  | zero => rfl
  | succ k ih =>
    cases l with
    | nil => rfl
    | cons x xs =>
      have h0 := h 0 (by omega)
      simp at h0
      subst h0
      simp only [orI, if_true, List.drop_succ_cons]
      exact ih xs fun j hj => by have := h (j + 1) (by omega); simpa using this

/-- The slots are those of the list, wherever it says so. -/
def Sl (ρ : List AVal) (F : (Nat → AVal) → List AVal) : Prop := ρ = F (fun i => ρ.getD i .undef)
theorem Sl.out {ρ : List AVal} {F : (Nat → AVal) → List AVal} (h : Sl ρ F) : ∃ d, ρ = F d := ⟨_, h⟩

theorem getElem?_getD {l : List Int} {k : Nat} (h : k < l.length) : l[k]? = some (l.getD k 0) := by
  rw [List.getD_eq_getElem?_getD, List.getElem?_eq_getElem h]; rfl

theorem orI_at (l : List Int) (k : Nat) (h : ∀ j, j < k → l.getD j 0 = 0) (hk : k < l.length) (hne : l.getD k 0 ≠ 0) : orI l = l.getD k 0 := by
  rw [orI_drop l k h, List.drop_eq_getElem_cons hk]
  rw [List.getD_eq_getElem?_getD, List.getElem?_eq_getElem hk] at hne ⊢
  simp only [Option.getD_some] at hne ⊢
  simp [orI, hne]

theorem orI_all (l : List Int) (h : ∀ j, j < l.length → l.getD j 0 = 0) : orI l = 0 := by
  rw [orI_drop l l.length h, List.drop_length]; rfl

set_option maxRecDepth 20000 in
theorem cmpOr_spec {P : Program} {f : FuncId} (hf : Has P f [] c_cmp_Or_int) (l : List Int) (hl : l.length ≤ 1000000) (H : List AObj) :
    ACalls P f [.list true 1 (l.map fun x => [.int .i64 x])] H (fun r H' => r = .int .i64 (orI l) ∧ H' = H) := by
  refine ACalls.pure rfl (acalls_of_body hf ?_)
  conv => whnf
  refine ⟨fun n ρ H => ∃ k : Nat, k + n = l.length ∧ (∀ j, j < k → l.getD j 0 = 0) ∧ H = [] ∧
    Sl ρ fun d => [.list true 1 (l.map fun x => [.int .i64 x]), d 1, .int .i64 0, .int .i64 0, d 4, d 5, .list true 1 (l.map fun x => [.int .i64 x]), .int .i64 (l.map fun x => [AVal.int .i64 x]).length, .int .i64 k, d 9, d 10, d 11, d 12, d 13, d 14, d 15, d 16, d 17], l.length, ⟨0, by simp, by simp, rfl, rfl⟩, ?_⟩
  rintro n ρ H ⟨k, hk, hz, rfl, hs⟩
  obtain ⟨d, rfl⟩ := hs.out
  clear hs
  conv => whnf
  refine recA (fun hlt => ?_) (fun hlt => ?_)
  · simp at hlt
    conv => whnf
    refine ⟨by omega, ?_⟩
    conv => whnf
    refine recO (e := [AVal.int .i64 (l.getD k 0)]) ?_ ?_
    · rw [List.getElem?_map, getElem?_getD (by omega)]; rfl
    (conv => whnf); refine recA (fun hne => ?_) (fun hne => ?_)
    · conv => whnf
      refine pubI ?_
      rw [orI_at l k hz (by omega) (by simpa using hne)]
    · conv => whnf
      have e := wrapI ((k : Int) + 1) (by omega) (by omega)
      refine ⟨n - 1, by omega, .inl ⟨k + 1, by omega, fun j hj => ?_, rfl, ?_⟩⟩
      · rcases Nat.lt_succ_iff_lt_or_eq.1 hj with h | rfl
        · exact hz j h
        · simpa using hne
      · rw [e]; rfl
  · conv => whnf
    refine pubI ?_
    simp at hlt
    rw [orI_all l fun j hj => hz j (by omega)]
end Go.AW
