/-
  An abstract machine over the model, the code of functions on it, and their contracts: what the claim needs.
  No condition: definitions, plain laws, contracts over any program that has this code.
-/
import Derived.Test.YtgmobjimfalhoaaGreatZ7
set_option linter.all false
namespace Go.AW
variable [Draws]
attribute [local irreducible] ACalls
def atW (l : List (List V)) (p a : Int) : V := if 0 ≤ p ∧ p < (l.length : Int) then celV (l.getD p.toNat []) a else zV

def numW (a : Int) (r : List V) : Int := if (celV r a).kind = 0 then 0 else (celV r a).num

def sumA (a : Int) (l : List (List V)) : Int := (l.map (numW a)).sum

def someA (a : Int) (l : List (List V)) : Bool := l.any fun r => !((celV r a).kind == 0)

def rkQ (ord : List Int) (l : List (List V)) : Nat → Int
  | 0 => 1
  | 1 => 1
  | k + 2 => if cmpK ord (l.getD k []) (l.getD (k + 1) []) ≠ 0 then (k : Int) + 2 else rkQ ord l (k + 1)

def winV (x : Itm) (l : List (List V)) (ord : List Int) (a : Int) (p : Nat) : V :=
  if x.f = 1 then numV l.length else if x.f = 8 then numV ((p : Int) + 1) else if x.f = 9 then numV (rkQ ord l (p + 1)) else
  if x.f = 3 then (if someA a (l.take (p + 1)) then numV (sumA a (l.take (p + 1))) else zV) else
  if x.f = 10 then atW l ((p : Int) - x.n) a else if x.f = 11 then atW l ((p : Int) + x.n) a else
  if x.f = 12 then atW l 0 a else if x.f = 13 then atW l ((l.length : Int) - 1) a else zV

def colW (x : Itm) (l : List (List V)) (ord : List Int) (a : Int) : List V := (List.range l.length).map (winV x l ord a)

theorem colW_length (x : Itm) (l : List (List V)) (ord : List Int) (a : Int) : (colW x l ord a).length = l.length := by simp [colW]

theorem colW_get (x : Itm) {l : List (List V)} (ord : List Int) (a : Int) {k : Nat} (h : k < l.length) : (colW x l ord a)[k]? = some (winV x l ord a k) := by
  rw [colW, List.getElem?_map, List.getElem?_range h]; rfl

theorem zV_valid : validB zV = true := by decide

theorem celV_valid {r : List V} (h : r.all validB = true) (a : Int) : validB (celV r a) = true := by
  have := pick_valid h [a]
  rw [pick1] at this
  simpa using this

theorem valid_num {v : V} (h : validB v = true) : -1073741824 ≤ v.num ∧ v.num ≤ 1073741824 := by
  unfold validB at h
  split at h
  · simp at h; omega
  · split at h
    · simp at h; omega
    · split at h
      · simp at h; omega
      · split at h
        · simp at h; omega
        · split at h
          · simp at h; omega
          · cases h

theorem sumA_snoc (a : Int) (l : List (List V)) (r : List V) : sumA a (l ++ [r]) = sumA a l + numW a r := by simp [sumA]

theorem sumA_bnd (a : Int) : ∀ (l : List (List V)), (∀ r ∈ l, r.all validB = true) → -(1073741824 * (l.length : Int)) ≤ sumA a l ∧ sumA a l ≤ 1073741824 * (l.length : Int)
  | [], _ => by simp [sumA]
  | r :: l, h => by
    obtain ⟨h1, h2⟩ := sumA_bnd a l fun x hx => h x (List.mem_cons_of_mem _ hx)
    have h3 := valid_num (celV_valid (h r (List.mem_cons_self ..)) a)
    have e : sumA a (r :: l) = numW a r + sumA a l := by simp [sumA]
    have h4 : -1073741824 ≤ numW a r ∧ numW a r ≤ 1073741824 := by unfold numW; split <;> omega
    rw [e, List.length_cons]; omega

set_option maxRecDepth 20000 in
theorem column_1_spec {P : Program} (F : F_window_column_1 P) (ex : Bool) (l : List (List V)) (p a : Int) (hl : l.length ≤ 1000000) (hr : ∀ r ∈ l, r.length ≤ 1000000) (H : List AObj) :
    ACalls P F.id [.int .i64 p, .cptr [.int .i64 l.length] 0, .cptr [.list ex 1 (rwC l)] 0, .cptr [.int .i64 a] 0] H (fun r H' => r = .agg (valC (atW l p a)) ∧ H' = H) := by
  refine ACalls.pure (by simp [AVal.closed, AVal.isPure]) (acalls_of_body F.has ?_)
  (conv => whnf); refine recA (fun h0 => ?_) (fun h0 => ?_)
  · simp at h0
    conv => whnf
    exact pubEq (by rw [atW, if_neg (by omega)]; rfl) rfl
  simp at h0
  (conv => whnf); refine recA (fun h1 => ?_) (fun h1 => ?_)
  · simp at h1
    conv => whnf
    exact pubEq (by rw [atW, if_neg (by omega)]; rfl) rfl
  simp at h1
  obtain ⟨r, hr1, _, hrm⟩ := get_drop (show p.toNat < l.length by omega)
  (conv => whnf); refine And.intro (by omega) ?_
  (conv => whnf); refine recO (rwC_at hr1) ?_
  (conv => whnf); refine ⟨_, window_cell_spec F.window_cell false r a (hr r hrm) _, ?_⟩
  conv => whnf
  exact pubEq (by rw [atW, if_pos (by omega), List.getD_eq_getElem?_getD, hr1]; rfl) rfl

theorem pubFn {H1 : List AObj} {n : Nat} {ids : List Nat} {f : FuncId} {cs : List AVal} (h : cs.all AVal.isPure = true) : Pub H1 n ids (.fn f cs) (.fn f cs) :=
  .fnc f cs cs rfl fun i v r h1 h2 => by
    rw [h1] at h2; cases h2
    have := List.all_eq_true.1 h v (List.mem_of_getElem? h1)
    refine .closed _ ?_
    cases v <;> first | rfl | exact this | (simp [AVal.isPure] at this)

def rkV (f : Int) (ord : List Int) (l : List (List V)) (k : Nat) : Int := if f = 9 then rkQ ord l k else 1

def smV (f a : Int) (l : List (List V)) (k : Nat) : Int := if f = 3 then sumA a (l.take k) else 0

def soV (f a : Int) (l : List (List V)) (k : Nat) : Bool := if f = 3 then someA a (l.take k) else false

theorem rkQ_bnd (ord : List Int) (l : List (List V)) : ∀ k, 1 ≤ rkQ ord l k ∧ rkQ ord l k ≤ (k : Int) + 1
  | 0 => by simp [rkQ]
  | 1 => by simp [rkQ]
  | k + 2 => by
    have := rkQ_bnd ord l (k + 1)
    rw [rkQ]
    split <;> omega

set_option maxRecDepth 20000 in
theorem column_spec {P : Program} (F : F_window_column P) (e1 e2 : Bool) (x : Itm) (l : List (List V)) (ord : List Int) (a : Int) (hl : l.length ≤ 4096) (hr : ∀ r ∈ l, r.length ≤ 1000 ∧ r.all validB = true) (ho : ord.length ≤ 1000000)
    (hn : (x.f = 10 ∨ x.f = 11) → 1 ≤ x.n ∧ x.n ≤ 4096) (H : List AObj) :
    ACalls P F.id [.agg (itmC x), .list e1 1 (rwC l), .list e2 1 (iC ord), .int .i64 a] H (fun r H' => r = .list false 3 (vC (colW x l ord a)) ∧ H' = H) := by
  refine ACalls.pure rfl (acalls_of_body F.has ?_)
  have hrl : ∀ r ∈ l, r.length ≤ 1000000 := fun r h => by have := (hr r h).1; omega
  conv => whnf
  refine Ghost.none (n := 130) (live := [(2, .list e2 1 (iC ord)), (4, .cptr (itmC x) 0), (5, .cptr [.list e1 1 (rwC l)] 0), (7, .cptr [.int .i64 a] 0), (8, .nil), (9, .cptr [.int .i64 l.length] 0)]) rfl ⟨clL .., .frzP 0 1 0 0 5 [itmC x] _ rfl rfl rfl rfl (by simp), .frzP 1 1 0 0 1 [[.list e1 1 (rwC l)]] _ rfl rfl rfl rfl (by simp), .frzP 2 1 0 0 1 [[.int .i64 a]] _ rfl rfl rfl rfl (by simp), .closed _ rfl, ?_, trivial⟩ ?_
  · have := Pub.frzP (H1 := [.arr 5 [itmC x], .arr 1 [[.list e1 1 (rwC l)]], .arr 1 [[.int .i64 a]], .arr 1 [[.int .i64 l.length]]]) (n := 0) (ids := []) 3 1 0 0 1 [[.int .i64 l.length]] _ rfl rfl rfl rfl (by simp)
    rw [← rwC_length l] at this ⊢
    exact this
  rintro ρ ⟨d, rfl⟩
  (conv => whnf); refine And.intro (⟨by omega, by omega, by show (l.length : Int) * 32 ≤ 1099511627776; omega, by show (l.length : Int) ≤ 1099511627776; omega⟩) ?_
  conv => whnf
  have hWl := colW_length x l ord a
  refine ⟨fun m ρ H1 => ∃ k : Nat, k + m = l.length ∧ H1 = [.arr 3 (vC (fillUp (colW x l ord a) zV k))] ∧ Sv 130 [(2, .list e2 1 (iC ord)), (4, .cptr (itmC x) 0), (5, .cptr [.list e1 1 (rwC l)] 0), (9, .cptr [.int .i64 l.length] 0),
    (10, .fn F.window_column_1.id [.cptr [.int .i64 l.length] 0, .cptr [.list e1 1 (rwC l)] 0, .cptr [.int .i64 a] 0]), (11, .sl 0 l.length 0 l.length), (12, .int .i64 (rkV x.f ord l k)), (13, .int .i64 (smV x.f a l k)), (14, .bool (soV x.f a l k)), (23, .int .i64 l.length), (24, .int .i64 k)] ρ, l.length, [], ?_, ?_⟩
  · refine ⟨0, by omega, ?_, Sv.intro rfl ⟨rfl, rfl, rfl, rfl, rfl, slEq ?_ ?_, ?_, ?_, ?_, intEq (by rw [rwC_length]), rfl, trivial⟩⟩
    · rw [fillUp_zero, colW_length]
      simp [vC]; exact .inr rfl
    · simp
    · simp
    · exact intEq (by unfold rkV; split <;> rfl)
    · exact intEq (by unfold smV; split <;> rfl)
    · show AVal.bool false = AVal.bool _
      congr 1; unfold soV; split <;> rfl
  rintro m ρ H1 ⟨k, hk, rfl, d, rfl⟩
  (conv => whnf); refine recA (fun hlt => ?_) (fun hlt => ?_)
  · simp at hlt
    have hw := colW_get x ord a hlt
    have hidx : (vC (fillUp (colW x l ord a) zV k))[0 + (k : Int).toNat]? = some (valC zV) := by
      rw [Nat.zero_add, Int.toNat_natCast]
      exact vC_at (fillUp_get _ _ _ (by rw [hWl]; omega))
    by_cases f1 : x.f = 1
    · have hv : winV x l ord a k = numV l.length := by rw [winV, if_pos f1]
      repeat ((conv => whnf); first | refine And.intro (by omega) ?_ | refine recT (by first | rfl | (simp; done) | (simp; omega)) ?_ | refine recF (by first | rfl | (simp; done) | (simp; omega)) ?_)
      (conv => whnf); refine ACalls.use (window_integer_spec F.window_integer l.length _) ?_
      (conv => whnf); refine recT (by rw [vC_length, fillUp_length _ _ _ (by rw [hWl]; omega), hWl]; exact Nat.beq_refl _) ?_
      (conv => whnf); refine And.intro (⟨by omega, by omega⟩) ?_
      (conv => whnf); refine recT (by rw [vC_length, fillUp_length _ _ _ (by rw [hWl]; omega), hWl]; exact Nat.beq_refl _) ?_
      (conv => whnf); refine recO (hidx) ?_
      conv => whnf
      refine ⟨m - 1, by omega, Gp.keep rfl ?_ fun ρ1 h => ⟨k + 1, by omega, ?_, h⟩⟩
      · exact ⟨rfl, rfl, rfl, rfl, rfl, rfl, intEq (by simp [rkV, f1]), intEq (by simp [smV, f1]), congrArg AVal.bool (by simp [soV, f1]), rfl, intEq (wrapI _ (by omega) (by omega)), trivial⟩
      · rw [← fillUp_set _ _ _ _ hw, ← setEs_vC, hv, Nat.zero_add, Int.toNat_natCast]; rfl
    by_cases f8 : x.f = 8
    · have hv : winV x l ord a k = numV ((k : Int) + 1) := by simp [winV, f8]
      repeat ((conv => whnf); first | refine And.intro (by omega) ?_ | refine recT (by first | rfl | (simp; done) | (simp; omega)) ?_ | refine recF (by first | rfl | (simp; done) | (simp; omega)) ?_)
      (conv => whnf); refine ACalls.use (window_integer_spec F.window_integer _ _) ?_
      rw [wrapI ((k : Int) + 1) (by omega) (by omega)]
      (conv => whnf); refine recT (by rw [vC_length, fillUp_length _ _ _ (by rw [hWl]; omega), hWl]; exact Nat.beq_refl _) ?_
      (conv => whnf); refine And.intro (⟨by omega, by omega⟩) ?_
      (conv => whnf); refine recT (by rw [vC_length, fillUp_length _ _ _ (by rw [hWl]; omega), hWl]; exact Nat.beq_refl _) ?_
      (conv => whnf); refine recO (hidx) ?_
      conv => whnf
      refine ⟨m - 1, by omega, Gp.keep rfl ?_ fun ρ1 h => ⟨k + 1, by omega, ?_, h⟩⟩
      · exact ⟨rfl, rfl, rfl, rfl, rfl, rfl, intEq (by simp [rkV, f8]), intEq (by simp [smV, f8]), congrArg AVal.bool (by simp [soV, f8]), rfl, intEq (wrapI _ (by omega) (by omega)), trivial⟩
      · rw [← fillUp_set _ _ _ _ hw, ← setEs_vC, hv, Nat.zero_add, Int.toNat_natCast]; rfl
    obtain ⟨r, hr1, _, hrm⟩ := get_drop hlt
    by_cases f9 : x.f = 9
    · have hv : winV x l ord a k = numV (rkQ ord l (k + 1)) := by simp [winV, f9]
      have hb := rkQ_bnd ord l (k + 1)
      have er : rkV x.f ord l k = rkQ ord l k := by simp [rkV, f9]
      rw [er]
      by_cases hk0 : k = 0
      · have eq1 : rkQ ord l k = 1 := by rw [hk0]; rfl
        have eq2 : rkQ ord l (k + 1) = 1 := by rw [hk0]; rfl
        rw [eq1]
        rw [eq2] at hv
        repeat ((conv => whnf); first | refine And.intro (by omega) ?_ | refine recT (by first | rfl | (simp; done) | (simp; omega)) ?_ | refine recF (by first | rfl | (simp; done) | (simp; omega)) ?_)
        (conv => whnf); refine ACalls.use (window_integer_spec F.window_integer _ _) ?_
        (conv => whnf); refine recT (by rw [vC_length, fillUp_length _ _ _ (by rw [hWl]; omega), hWl]; exact Nat.beq_refl _) ?_
        (conv => whnf); refine And.intro (⟨by omega, by omega⟩) ?_
        (conv => whnf); refine recT (by rw [vC_length, fillUp_length _ _ _ (by rw [hWl]; omega), hWl]; exact Nat.beq_refl _) ?_
        (conv => whnf); refine recO (hidx) ?_
        conv => whnf
        refine ⟨m - 1, by omega, Gp.keep rfl ?_ fun ρ1 h => ⟨k + 1, by omega, ?_, h⟩⟩
        · exact ⟨rfl, rfl, rfl, rfl, rfl, rfl, intEq (by rw [rkV, if_pos f9, eq2]), intEq (by simp [smV, f9]), congrArg AVal.bool (by simp [soV, f9]), rfl, intEq (wrapI _ (by omega) (by omega)), trivial⟩
        · rw [← fillUp_set _ _ _ _ hw, ← setEs_vC, hv, Nat.zero_add, Int.toNat_natCast]; rfl
      · obtain ⟨j, hj⟩ : ∃ j, k = j + 1 := ⟨k - 1, by omega⟩
        obtain ⟨r0, hr0, _, hr0m⟩ := get_drop (show j < l.length by omega)
        have ew : IntKind.i64.wrap ((k : Int) - 1) = j := by rw [wrapI _ (by omega) (by omega)]; omega
        have eq2 : rkQ ord l (k + 1) = if cmpK ord r0 r ≠ 0 then (k : Int) + 1 else rkQ ord l k := by
          rw [hj] at hr1 ⊢
          rw [rkQ, List.getD_eq_getElem?_getD, List.getD_eq_getElem?_getD, hr0, hr1]
          show (if cmpK ord r0 r ≠ 0 then _ else _) = _
          split <;> omega
        repeat ((conv => whnf); first | refine And.intro (by omega) ?_ | refine recT (by first | rfl | (simp; done) | (simp; omega)) ?_ | refine recF (by first | rfl | (simp; done) | (simp; omega)) ?_)
        rw [ew]
        (conv => whnf); refine recO (rwC_at hr0) ?_
        (conv => whnf); refine ⟨_, schema_Pick_spec F.schema_Pick false e2 r0 ord (hrl r0 hr0m) (by omega) _, ?_⟩
        (conv => whnf); refine And.intro (by omega) ?_
        (conv => whnf); refine recO (rwC_at hr1) ?_
        (conv => whnf); refine ⟨_, schema_Pick_spec F.schema_Pick false e2 r ord (hrl r hrm) (by omega) _, ?_⟩
        (conv => whnf); refine ⟨_, value_CompareRows_spec F.value_CompareRows false false (pickL zV r0 ord) (pickL zV r ord) (by rw [pickL_length]; omega) _, ?_⟩
        (conv => whnf); refine recA (fun hc => ?_) (fun hc => ?_)
        · replace hc : (!(cmpK ord r0 r == 0)) = true := hc
          simp at hc
          rw [if_pos hc] at eq2
          rw [eq2] at hv
          (conv => whnf); refine ACalls.use (window_integer_spec F.window_integer _ _) ?_
          rw [wrapI ((k : Int) + 1) (by omega) (by omega)]
          (conv => whnf); refine recT (by rw [vC_length, fillUp_length _ _ _ (by rw [hWl]; omega), hWl]; exact Nat.beq_refl _) ?_
          (conv => whnf); refine And.intro (⟨by omega, by omega⟩) ?_
          (conv => whnf); refine recT (by rw [vC_length, fillUp_length _ _ _ (by rw [hWl]; omega), hWl]; exact Nat.beq_refl _) ?_
          (conv => whnf); refine recO (hidx) ?_
          conv => whnf
          refine ⟨m - 1, by omega, Gp.keep rfl ?_ fun ρ1 h => ⟨k + 1, by omega, ?_, h⟩⟩
          · exact ⟨rfl, rfl, rfl, rfl, rfl, rfl, intEq (by rw [rkV, if_pos f9, eq2]), intEq (by simp [smV, f9]), congrArg AVal.bool (by simp [soV, f9]), rfl, intEq (wrapI _ (by omega) (by omega)), trivial⟩
          · rw [← fillUp_set _ _ _ _ hw, ← setEs_vC, hv, Nat.zero_add, Int.toNat_natCast]; rfl
        · replace hc : (!(cmpK ord r0 r == 0)) = false := hc
          simp at hc
          rw [if_neg (by simp [hc])] at eq2
          rw [eq2] at hv
          (conv => whnf); refine ACalls.use (window_integer_spec F.window_integer _ _) ?_
          (conv => whnf); refine recT (by rw [vC_length, fillUp_length _ _ _ (by rw [hWl]; omega), hWl]; exact Nat.beq_refl _) ?_
          (conv => whnf); refine And.intro (⟨by omega, by omega⟩) ?_
          (conv => whnf); refine recT (by rw [vC_length, fillUp_length _ _ _ (by rw [hWl]; omega), hWl]; exact Nat.beq_refl _) ?_
          (conv => whnf); refine recO (hidx) ?_
          conv => whnf
          refine ⟨m - 1, by omega, Gp.keep rfl ?_ fun ρ1 h => ⟨k + 1, by omega, ?_, h⟩⟩
          · exact ⟨rfl, rfl, rfl, rfl, rfl, rfl, intEq (by rw [rkV, if_pos f9, eq2]), intEq (by simp [smV, f9]), congrArg AVal.bool (by simp [soV, f9]), rfl, intEq (wrapI _ (by omega) (by omega)), trivial⟩
          · rw [← fillUp_set _ _ _ _ hw, ← setEs_vC, hv, Nat.zero_add, Int.toNat_natCast]; rfl
    have sp := fun p H => column_1_spec F.window_column_1 e1 l p a (by omega) hrl H
    by_cases f3 : x.f = 3
    · have hT : l.take (k + 1) = l.take k ++ [r] := by rw [List.take_add_one, hr1]; rfl
      have hat : atW l k a = celV r a := by rw [atW, if_pos (by omega), Int.toNat_natCast, List.getD_eq_getElem?_getD, hr1]; rfl
      have hv : winV x l ord a k = if someA a (l.take (k + 1)) then numV (sumA a (l.take (k + 1))) else zV := by simp [winV, f3]
      have e1 : smV x.f a l k = sumA a (l.take k) := by rw [smV, if_pos f3]
      have e2 : soV x.f a l k = someA a (l.take k) := by rw [soV, if_pos f3]
      have hb := sumA_bnd a (l.take k) fun r h => (hr r (List.mem_of_mem_take h)).2
      have hnb := valid_num (celV_valid (hr r hrm).2 a)
      rw [List.length_take] at hb
      rw [e1, e2]
      repeat ((conv => whnf); first | refine And.intro (by omega) ?_ | refine recT (by first | rfl | (simp; done) | (simp; omega)) ?_ | refine recF (by first | rfl | (simp; done) | (simp; omega)) ?_)
      (conv => whnf); refine ACalls.use (sp _ _) ?_
      rw [hat]
      have hsome : someA a (l.take (k + 1)) = (someA a (l.take k) || !((celV r a).kind == 0)) := by rw [hT, someA, List.any_append]; simp [someA]
      have hsum : sumA a (l.take (k + 1)) = sumA a (l.take k) + numW a r := by rw [hT, sumA_snoc]
      (conv => whnf); refine recA (fun h0 => ?_) (fun h0 => ?_)
      · replace h0 : (!((celV r a).kind == 0)) = true := h0
        rw [h0, Bool.or_true] at hsome
        have hk0 : (celV r a).kind ≠ 0 := by simpa using h0
        rw [numW, if_neg hk0] at hsum
        have ew : IntKind.i64.wrap (sumA a (l.take k) + (celV r a).num) = sumA a (l.take (k + 1)) := by rw [wrapI _ (by omega) (by omega), hsum]
        rw [hsome, if_pos rfl] at hv
        (conv => whnf); refine ACalls.use (window_integer_spec F.window_integer _ _) ?_
        rw [ew]
        (conv => whnf); refine recT (by rw [vC_length, fillUp_length _ _ _ (by rw [hWl]; omega), hWl]; exact Nat.beq_refl _) ?_
        (conv => whnf); refine And.intro (⟨by omega, by omega⟩) ?_
        (conv => whnf); refine recT (by rw [vC_length, fillUp_length _ _ _ (by rw [hWl]; omega), hWl]; exact Nat.beq_refl _) ?_
        (conv => whnf); refine recO (hidx) ?_
        conv => whnf
        refine ⟨m - 1, by omega, Gp.one 0 3 (vC (fillUp (colW x l ord a) zV (k + 1))) ?_ (pureEs_vC _) rfl ?_ fun ρ1 h => ⟨k + 1, by omega, rfl, h⟩⟩
        · rw [← fillUp_set _ _ _ _ hw, ← setEs_vC, hv, Nat.zero_add, Int.toNat_natCast]; rfl
        · exact ⟨clL .., .closed _ rfl, .closed _ rfl, .closed _ rfl, pubFn rfl, pubSl (k := 0) rfl rfl rfl rfl, pubEq (intEq (by simp [rkV, f3])) rfl, pubEq (intEq (by simp [smV, f3])) rfl, pubEq (congrArg AVal.bool (by simp [soV, f3, hsome])) rfl, .closed _ rfl, pub_int (wrapI _ (by omega) (by omega)), trivial⟩
      · replace h0 : (!((celV r a).kind == 0)) = false := h0
        rw [h0, Bool.or_false] at hsome
        have hk0 : (celV r a).kind = 0 := by simpa using h0
        rw [numW, if_pos hk0, Int.add_zero] at hsum
        rw [hsome, hsum] at hv
        (conv => whnf); refine recA (fun hs => ?_) (fun hs => ?_)
        · rw [hs, if_pos rfl] at hv
          rw [hs]
          (conv => whnf); refine ACalls.use (window_integer_spec F.window_integer _ _) ?_
          (conv => whnf); refine recT (by rw [vC_length, fillUp_length _ _ _ (by rw [hWl]; omega), hWl]; exact Nat.beq_refl _) ?_
          (conv => whnf); refine And.intro (⟨by omega, by omega⟩) ?_
          (conv => whnf); refine recT (by rw [vC_length, fillUp_length _ _ _ (by rw [hWl]; omega), hWl]; exact Nat.beq_refl _) ?_
          (conv => whnf); refine recO (hidx) ?_
          conv => whnf
          refine ⟨m - 1, by omega, Gp.one 0 3 (vC (fillUp (colW x l ord a) zV (k + 1))) ?_ (pureEs_vC _) rfl ?_ fun ρ1 h => ⟨k + 1, by omega, rfl, h⟩⟩
          · rw [← fillUp_set _ _ _ _ hw, ← setEs_vC, hv, Nat.zero_add, Int.toNat_natCast]; rfl
          · exact ⟨clL .., .closed _ rfl, .closed _ rfl, .closed _ rfl, pubFn rfl, pubSl (k := 0) rfl rfl rfl rfl, pubEq (intEq (by simp [rkV, f3])) rfl, pubEq (intEq (by simp [smV, f3, hsum])) rfl, pubEq (congrArg AVal.bool (by simp [soV, f3, hsome, hs])) rfl, .closed _ rfl, pub_int (wrapI _ (by omega) (by omega)), trivial⟩
        · rw [hs, if_neg (by simp)] at hv
          rw [hs]
          conv => whnf
          refine ⟨m - 1, by omega, Gp.one 0 3 (vC (fillUp (colW x l ord a) zV (k + 1))) (by rw [← fillUp_skip _ _ _ (hw.trans (by rw [hv]))]; rfl) (pureEs_vC _) rfl ?_ fun ρ1 h => ⟨k + 1, by omega, rfl, h⟩⟩
          exact ⟨clL .., .closed _ rfl, .closed _ rfl, .closed _ rfl, pubFn rfl, pubSl (k := 0) rfl rfl rfl rfl, pub_int (by simp [rkV, f3]), pub_int (by simp [smV, f3, hsum]), pubB (by simp [soV, f3, hsome, hs]), .closed _ rfl, pub_int (wrapI _ (by omega) (by omega)), trivial⟩
    by_cases f10 : x.f = 10
    · have hnn := hn (by omega)
      have hv : winV x l ord a k = atW l (IntKind.i64.wrap ((k : Int) - x.n)) a := by rw [wrapI _ (by omega) (by omega)]; simp [winV, f10]
      repeat ((conv => whnf); first | refine And.intro (by omega) ?_ | refine recT (by first | rfl | (simp; done) | (simp; omega)) ?_ | refine recF (by first | rfl | (simp; done) | (simp; omega)) ?_)
      (conv => whnf); refine ACalls.use (sp _ _) ?_
      (conv => whnf); refine recT (by rw [vC_length, fillUp_length _ _ _ (by rw [hWl]; omega), hWl]; exact Nat.beq_refl _) ?_
      (conv => whnf); refine And.intro (⟨by omega, by omega⟩) ?_
      (conv => whnf); refine recT (by rw [vC_length, fillUp_length _ _ _ (by rw [hWl]; omega), hWl]; exact Nat.beq_refl _) ?_
      (conv => whnf); refine recO (hidx) ?_
      conv => whnf
      refine ⟨m - 1, by omega, Gp.keep rfl ?_ fun ρ1 h => ⟨k + 1, by omega, ?_, h⟩⟩
      · exact ⟨rfl, rfl, rfl, rfl, rfl, rfl, intEq (by simp [rkV, f10]), intEq (by simp [smV, f10]), congrArg AVal.bool (by simp [soV, f10]), rfl, intEq (wrapI _ (by omega) (by omega)), trivial⟩
      · rw [← fillUp_set _ _ _ _ hw, ← setEs_vC, hv, Nat.zero_add, Int.toNat_natCast]; rfl
    by_cases f11 : x.f = 11
    · have hnn := hn (by omega)
      have hv : winV x l ord a k = atW l (IntKind.i64.wrap ((k : Int) + x.n)) a := by rw [wrapI _ (by omega) (by omega)]; simp [winV, f11]
      repeat ((conv => whnf); first | refine And.intro (by omega) ?_ | refine recT (by first | rfl | (simp; done) | (simp; omega)) ?_ | refine recF (by first | rfl | (simp; done) | (simp; omega)) ?_)
      (conv => whnf); refine ACalls.use (sp _ _) ?_
      (conv => whnf); refine recT (by rw [vC_length, fillUp_length _ _ _ (by rw [hWl]; omega), hWl]; exact Nat.beq_refl _) ?_
      (conv => whnf); refine And.intro (⟨by omega, by omega⟩) ?_
      (conv => whnf); refine recT (by rw [vC_length, fillUp_length _ _ _ (by rw [hWl]; omega), hWl]; exact Nat.beq_refl _) ?_
      (conv => whnf); refine recO (hidx) ?_
      conv => whnf
      refine ⟨m - 1, by omega, Gp.keep rfl ?_ fun ρ1 h => ⟨k + 1, by omega, ?_, h⟩⟩
      · exact ⟨rfl, rfl, rfl, rfl, rfl, rfl, intEq (by simp [rkV, f11]), intEq (by simp [smV, f11]), congrArg AVal.bool (by simp [soV, f11]), rfl, intEq (wrapI _ (by omega) (by omega)), trivial⟩
      · rw [← fillUp_set _ _ _ _ hw, ← setEs_vC, hv, Nat.zero_add, Int.toNat_natCast]; rfl
    by_cases f12 : x.f = 12
    · have hv : winV x l ord a k = atW l 0 a := by simp [winV, f12]
      repeat ((conv => whnf); first | refine And.intro (by omega) ?_ | refine recT (by first | rfl | (simp; done) | (simp; omega)) ?_ | refine recF (by first | rfl | (simp; done) | (simp; omega)) ?_)
      (conv => whnf); refine ACalls.use (sp _ _) ?_
      (conv => whnf); refine recT (by rw [vC_length, fillUp_length _ _ _ (by rw [hWl]; omega), hWl]; exact Nat.beq_refl _) ?_
      (conv => whnf); refine And.intro (⟨by omega, by omega⟩) ?_
      (conv => whnf); refine recT (by rw [vC_length, fillUp_length _ _ _ (by rw [hWl]; omega), hWl]; exact Nat.beq_refl _) ?_
      (conv => whnf); refine recO (hidx) ?_
      conv => whnf
      refine ⟨m - 1, by omega, Gp.keep rfl ?_ fun ρ1 h => ⟨k + 1, by omega, ?_, h⟩⟩
      · exact ⟨rfl, rfl, rfl, rfl, rfl, rfl, intEq (by simp [rkV, f12]), intEq (by simp [smV, f12]), congrArg AVal.bool (by simp [soV, f12]), rfl, intEq (wrapI _ (by omega) (by omega)), trivial⟩
      · rw [← fillUp_set _ _ _ _ hw, ← setEs_vC, hv, Nat.zero_add, Int.toNat_natCast]; rfl
    by_cases f13 : x.f = 13
    · have hv : winV x l ord a k = atW l (IntKind.i64.wrap ((l.length : Int) - 1)) a := by rw [wrapI _ (by omega) (by omega)]; simp [winV, f13]
      repeat ((conv => whnf); first | refine And.intro (by omega) ?_ | refine recT (by first | rfl | (simp; done) | (simp; omega)) ?_ | refine recF (by first | rfl | (simp; done) | (simp; omega)) ?_)
      (conv => whnf); refine ACalls.use (sp _ _) ?_
      (conv => whnf); refine recT (by rw [vC_length, fillUp_length _ _ _ (by rw [hWl]; omega), hWl]; exact Nat.beq_refl _) ?_
      (conv => whnf); refine And.intro (⟨by omega, by omega⟩) ?_
      (conv => whnf); refine recT (by rw [vC_length, fillUp_length _ _ _ (by rw [hWl]; omega), hWl]; exact Nat.beq_refl _) ?_
      (conv => whnf); refine recO (hidx) ?_
      conv => whnf
      refine ⟨m - 1, by omega, Gp.keep rfl ?_ fun ρ1 h => ⟨k + 1, by omega, ?_, h⟩⟩
      · exact ⟨rfl, rfl, rfl, rfl, rfl, rfl, intEq (by simp [rkV, f13]), intEq (by simp [smV, f13]), congrArg AVal.bool (by simp [soV, f13]), rfl, intEq (wrapI _ (by omega) (by omega)), trivial⟩
      · rw [← fillUp_set _ _ _ _ hw, ← setEs_vC, hv, Nat.zero_add, Int.toNat_natCast]; rfl
    have hv : winV x l ord a k = zV := by simp [winV, f1, f3, f8, f9, f10, f11, f12, f13]
    repeat ((conv => whnf); first | refine And.intro (by omega) ?_ | refine recT (by first | rfl | (simp; done) | (simp; omega)) ?_ | refine recF (by first | rfl | (simp; done) | (simp; omega)) ?_)
    conv => whnf
    refine ⟨m - 1, by omega, Gp.keep rfl ?_ fun ρ1 h => ⟨k + 1, by omega, ?_, h⟩⟩
    · exact ⟨rfl, rfl, rfl, rfl, rfl, rfl, intEq (by simp [rkV, f9]), intEq (by simp [smV, f3]), congrArg AVal.bool (by simp [soV, f3]), rfl, intEq (wrapI _ (by omega) (by omega)), trivial⟩
    · rw [← fillUp_skip _ _ _ (hw.trans (by rw [hv]))]
  · simp at hlt
    have : k = l.length := by omega
    subst this
    conv => whnf
    have hpf := pubF (H1 := [.arr 3 (vC (colW x l ord a))]) (n := 0) (id := 0) (ep := l.length) (len := l.length) rfl (by rw [vC_length, hWl]) (by rw [vC_length, hWl]) (pureEs_vC _)
    have e : fillUp (colW x l ord a) zV l.length = colW x l ord a := by conv => lhs; rw [← hWl]; rw [fillUp_all]
    rw [e]
    exact hpf

end Go.AW

namespace Go.AW
variable [Draws]
attribute [local irreducible] ACalls
theorem CloneV_own {P : Program} (F : F_slices_Clone_LValue_Value P) (ex : Bool) (cs : List V) (hl : cs.length ≤ 1000000) (H : List AObj) :
    ACalls P F.id [.list ex 3 (vC cs)] H (fun r H' => (r = .nil ∧ cs = [] ∧ H' = H) ∨ (r = .sl H.length cs.length 0 cs.length ∧ H' = H ++ [.arr 3 (vC cs)])) := by
  have h0 : ACalls P F.id [.list ex 3 (vC cs)] [] (fun r H1 => (r = .nil ∧ cs = [] ∧ H1 = []) ∨ (r = .sl 0 cs.length 0 cs.length ∧ H1 = [.arr 3 (vC cs)])) := by
    refine acalls_of_body F.has ?_
    conv => whnf
    refine And.intro (fun h => ?_) ?_
    · conv => whnf
      exact .inl ⟨rfl, by simpa [vC] using h, rfl⟩
    · conv => whnf
      refine And.intro ⟨roomMul (by simp [vC_length]; omega) (by omega), roomB_le (by simp [vC_length]; omega), .inr rfl⟩ ?_
      conv => whnf
      have key : List.replicate 0 [AVal.int .i64 0, .int .i64 0, .str (bs [])] ++ vC cs = vC cs := by simp
      have kl : (List.replicate 0 [AVal.int .i64 0, .int .i64 0, .str (bs [])] ++ vC cs).length = cs.length := by rw [key, vC_length]
      refine .inr ⟨slEq kl kl, ?_⟩
      show [AObj.arr 3 (List.replicate 0 [AVal.int .i64 0, .int .i64 0, .str (bs [])] ++ vC cs)] = _
      rw [key]
  refine ACalls.lift (by simp [AVal.closed, AVal.isPure]) h0 ?_
  rintro r H1 (⟨rfl, h1, rfl⟩ | ⟨rfl, rfl⟩)
  · exact ⟨[], .nil, [], .closed _ rfl, List.nodup_nil, rfl, fun k id h => by simp at h, .inl ⟨rfl, h1, by simp⟩⟩
  · exact ⟨[0], _, [.arr 3 (vC cs)], pubSl (k := 0) rfl (Nat.add_zero _).symm rfl rfl, by simp, rfl, fun k id hk => by
      cases k with
      | zero => simp at hk; subst hk; exact ⟨rfl, 3, _, rfl, pureEs_vC _⟩
      | succ k => simp at hk, .inr ⟨rfl, rfl⟩⟩

theorem obPushI (O : List Ent) (row : List V) (c : Int) (n id : Nat) (ids : List Nat) (H : List AObj) (hid : id ∉ ids) (h1 : H[id]? = some (.arr 3 (vC row))) (hn : n = row.length) :
    ObP H ids (.arr 2 (eC O ++ [[.sl id n 0 n, .int .i64 c]])) (.arr 2 (eC (O ++ [⟨row, c⟩]))) := by
  have hp : Pub H 0 ids (.sl id n 0 n) (.list false 3 (vC row)) := by
    have h := Pub.frz (n := 0) (ids := ids) id (vC row).length 0 (vC row).length 3 (vC row) h1 rfl (pureEs_vC _) hid
    rw [List.drop_zero, List.take_length, vC_length, ← hn] at h
    exact h
  rw [eC_append]
  refine .map 2 _ _ (by simp [eC]) (fun i e e1 h1 h2 => ?_) (fun i j e e1 d d1 h1 h2 h3 h4 => ?_)
  · by_cases hi : i < (eC O).length
    · rw [List.getElem?_append_left hi] at h1 h2
      rw [h1] at h2; cases h2; rfl
    · rw [List.getElem?_append_right (by omega)] at h1 h2
      rcases hk : i - (eC O).length with _ | q
      · rw [hk] at h1 h2
        cases h1; cases h2; rfl
      · rw [hk] at h1; simp at h1
  · by_cases hi : i < (eC O).length
    · rw [List.getElem?_append_left hi] at h1 h2
      rw [h1] at h2; cases h2
      rw [h3] at h4; cases h4
      have := pureEs_get (pureEs_eC O) h1 h3
      exact ⟨.closed _ (by cases d <;> first | rfl | exact this | (simp [AVal.isPure] at this)), AVal.isCell_of_isPure this⟩
    · rw [List.getElem?_append_right (by omega)] at h1 h2
      rcases hk : i - (eC O).length with _ | q
      · rw [hk] at h1 h2
        cases h1; cases h2
        rcases j with _ | _ | j
        · cases h3; cases h4; exact ⟨hp, rfl⟩
        · cases h3; cases h4; exact ⟨.closed _ rfl, rfl⟩
        · simp at h3
      · rw [hk] at h1; simp at h1

def colsW (ord : List Int) (l : List (List V)) : List Itm → List Int → List (List V)
  | x :: xs, a :: asv => colW x l ord a :: colsW ord l xs asv
  | _, _ => []

def rowW (C : List (List V)) (l : List (List V)) (p : Nat) : Ent := ⟨l.getD p [] ++ C.map (fun c => c.getD p zV), 1⟩

def outP (its : List Itm) (asv ord : List Int) (l : List (List V)) : List Ent := (List.range l.length).map (rowW (colsW ord l its asv) l)

def outW (its : List Itm) (asv ord : List Int) (G : List (List (List V))) : List Ent := G.flatMap (outP its asv ord)

def appR (its : List Itm) (is ord asv : List Int) (b : List Ent) : AVal :=
  if (expP b).2 ≠ 0 then .tuple [.nil, .int .i64 (expP b).2] else if chkE its asv (expP b).1 ≠ 0 then .tuple [.nil, .int .i64 (chkE its asv (expP b).1)] else
  norR (outW its asv ord (parL is ord (expP b).1))

theorem colsW_length : ∀ (ord : List Int) (l : List (List V)) (its : List Itm) (asv : List Int), its.length = asv.length → (colsW ord l its asv).length = its.length
  | _, _, [], _, _ => by simp [colsW]
  | _, _, _ :: _, [], h => by simp at h
  | ord, l, x :: xs, a :: asv, h => by rw [colsW, List.length_cons, List.length_cons, colsW_length ord l xs asv (by simpa using h)]

theorem colsW_get : ∀ (ord : List Int) (l : List (List V)) (its : List Itm) (asv : List Int) (j : Nat) (x : Itm) (a : Int), its[j]? = some x → asv[j]? = some a → (colsW ord l its asv)[j]? = some (colW x l ord a)
  | _, _, [], _, _, _, _, h, _ => by simp at h
  | _, _, _ :: _, [], _, _, _, _, h => by simp at h
  | ord, l, y :: ys, b :: bs, 0, x, a, h1, h2 => by simp at h1 h2; subst h1 h2; rfl
  | ord, l, y :: ys, b :: bs, j + 1, x, a, h1, h2 => by
    rw [colsW, List.getElem?_cons_succ]
    exact colsW_get ord l ys bs j x a (by simpa using h1) (by simpa using h2)

theorem colsW_len : ∀ (ord : List Int) (l : List (List V)) (its : List Itm) (asv : List Int), ∀ c ∈ colsW ord l its asv, c.length = l.length
  | _, _, [], _, c, h => by simp [colsW] at h
  | _, _, _ :: _, [], c, h => by simp [colsW] at h
  | ord, l, x :: xs, a :: asv, c, h => by
    rw [colsW] at h
    rcases List.mem_cons.1 h with rfl | h
    · exact colW_length x l ord a
    · exact colsW_len ord l xs asv c h

theorem parL_facts {is ord : List Int} {R : List (List V)} {l : List (List V)} (h : l ∈ parL is ord R) : l.length ≤ R.length ∧ ∀ r ∈ l, r ∈ R := by
  obtain ⟨g, hg, rfl⟩ := List.mem_map.1 h
  obtain ⟨k, _, rfl⟩ := List.mem_map.1 hg
  refine ⟨?_, fun r hr => ?_⟩
  · rw [srtO, srtC_length]; exact List.length_filter_le _ _
  · rw [srtO, srtC_mem] at hr; exact (List.mem_filter.1 hr).1

end Go.AW

namespace Go.AW
variable [Draws]
theorem groups_perm {α : Type} (key : α → ByteArray) : ∀ (ks : List ByteArray) (R : List α), ks.Nodup → (∀ r ∈ R, key r ∈ ks) → (ks.map fun k => R.filter fun r => key r == k).flatten.Perm R
  | [], R, _, h => by
    cases R with
    | nil => exact .refl _
    | cons r R => have := h r (List.mem_cons_self ..); simp at this
  | k :: ks, R, hn, h => by
    obtain ⟨h1, h2⟩ := List.nodup_cons.1 hn
    have e : (ks.map fun k' => R.filter fun r => key r == k') = ks.map fun k' => (R.filter fun r => !(key r == k)).filter fun r => key r == k' := by
      refine List.map_congr_left fun k' hk' => ?_
      rw [List.filter_filter]
      refine List.filter_congr fun r _ => ?_
      by_cases hr : key r = k'
      · have : key r ≠ k := fun e => h1 (by rw [← e, hr]; exact hk')
        simp [hr]
        exact fun e => this (hr.trans e)
      · simp [hr]
    rw [List.map_cons, List.flatten_cons, e]
    have ih := groups_perm key ks (R.filter fun r => !(key r == k)) h2 fun r hr => by
      obtain ⟨h3, h4⟩ := List.mem_filter.1 hr
      rcases List.mem_cons.1 (h r h3) with h5 | h5
      · simp [h5] at h4
      · exact h5
    exact (ih.append_left _).trans (List.filter_append_perm _ R)

theorem flatten_srt {α : Type} {c : α → α → Int} : ∀ (G : List (List α)), (G.map (srtC c)).flatten.Perm G.flatten
  | [] => .refl _
  | g :: G => by
    rw [List.map_cons, List.flatten_cons, List.flatten_cons]
    exact (srtC_perm g).append (flatten_srt G)

theorem parL_perm (is ord : List Int) (R : List (List V)) : (parL is ord R).flatten.Perm R := by
  obtain ⟨h1, h2, _⟩ := kyS_facts is R R.length
  rw [List.take_length] at h1 h2
  exact (flatten_srt _).trans (groups_perm (keyB is) _ R h1 h2)

theorem outW_length (its : List Itm) (asv ord : List Int) : ∀ (G : List (List (List V))), (outW its asv ord G).length = G.flatten.length
  | [] => rfl
  | g :: G => by
    have := outW_length its asv ord G
    rw [outW] at this ⊢
    rw [List.flatMap_cons, List.flatten_cons, List.length_append, List.length_append, this, outP, List.length_map, List.length_range]

theorem expP_valid (b : List Ent) : ∀ r ∈ (expP b).1, r.all validB = true := by
  intro r hr
  unfold expP at hr
  split at hr
  · cases hr
  · rename_i h1
    split at hr
    · split at hr
      · cases hr
      · obtain ⟨e, he, rfl⟩ := expL_row hr
        exact (bag_rowOk (nz0 h1) e he).2
    · cases hr

theorem itemsE_zero {R : List (List V)} : ∀ (its : List Itm) (asv : List Int), its.length = asv.length → itemsE R its asv = 0 → ∀ (j : Nat) (x : Itm) (a : Int), its[j]? = some x → asv[j]? = some a → itemE x a R = 0
  | [], _, _, _, j, x, a, h, _ => by simp at h
  | _ :: _, [], h, _, _, _, _, _, _ => by simp at h
  | y :: ys, c :: cs, hl, h, j, x, a, h1, h2 => by
    rw [itemsE] at h
    by_cases h0 : itemE y c R = 0
    · rw [if_neg (by simp [h0])] at h
      cases j with
      | zero => simp at h1 h2; subst h1 h2; exact h0
      | succ j => exact itemsE_zero ys cs (by simpa using hl) h j x a (by simpa using h1) (by simpa using h2)
    · rw [if_pos h0] at h; exact absurd h h0

theorem chkE_zero {its : List Itm} {asv : List Int} {R : List (List V)} (h : chkE its asv R = 0) : its.length = asv.length ∧ ∀ (j : Nat) (x : Itm) (a : Int), its[j]? = some x → asv[j]? = some a → itemE x a R = 0 := by
  unfold chkE at h
  split at h
  · cases h
  · rename_i hl
    have hl : its.length = asv.length := by omega
    exact ⟨hl, itemsE_zero its asv hl h⟩

theorem itemE_lag {x : Itm} {a : Int} {R : List (List V)} (h : itemE x a R = 0) (hf : x.f = 10 ∨ x.f = 11) : 1 ≤ x.n ∧ x.n ≤ 4096 := by
  unfold itemE at h
  split at h
  · cases h
  · split at h
    · cases h
    · rename_i h1; omega

end Go.AW

namespace Go.AW
variable [Draws]
attribute [local irreducible] ACalls
set_option maxRecDepth 20000 in
theorem ref17_at_spec {P : Program} (F : F_warehouseref17_at P) (ex : Bool) (l : List (List V)) (p a : Int) (hl : l.length ≤ 1000000) (hr : ∀ r ∈ l, r.length ≤ 1000000) (H : List AObj) :
    ACalls P F.id [.list ex 1 (rwC l), .int .i64 p, .int .i64 a] H (fun r H' => r = .agg (valC (atW l p a)) ∧ H' = H) := by
  refine ACalls.pure (by simp [AVal.closed, AVal.isPure]) (acalls_of_body F.has ?_)
  (conv => whnf); refine recA (fun h0 => ?_) (fun h0 => ?_)
  · simp at h0
    conv => whnf
    exact pubEq (by rw [atW, if_neg (by omega)]; rfl) rfl
  simp at h0
  (conv => whnf); refine recA (fun h1 => ?_) (fun h1 => ?_)
  · simp [rwC_length] at h1
    conv => whnf
    exact pubEq (by rw [atW, if_neg (by omega)]; rfl) rfl
  simp [rwC_length] at h1
  obtain ⟨r, hr1, _, hrm⟩ := get_drop (show p.toNat < l.length by omega)
  (conv => whnf); refine And.intro (by omega) ?_
  (conv => whnf); refine recO (rwC_at hr1) ?_
  (conv => whnf); refine ACalls.use (ref17_argument_spec F.warehouseref17_argument false r a (hr r hrm) _) ?_
  conv => whnf
  exact pubEq (by rw [atW, if_pos (by omega), List.getD_eq_getElem?_getD, hr1]; rfl) rfl

def fstI (row : List V) : List (List V) → Nat
  | [] => 0
  | r :: l => if rowsCmp r row = 0 then 0 else fstI row l + 1

def plcR (l : List (List V)) (row : List V) (n : Int) : Int := if fstI row l < l.length then (fstI row l : Int) + n else -1

theorem fstI_drop (row : List V) : ∀ (l : List (List V)) (k : Nat) (r : List V), l[k]? = some r → fstI row (l.drop k) = if rowsCmp r row = 0 then 0 else fstI row (l.drop (k + 1)) + 1
  | [], _, _, h => by simp at h
  | x :: l, 0, r, h => by simp at h; subst h; rfl
  | x :: l, k + 1, r, h => by
    rw [List.drop_succ_cons, List.drop_succ_cons]
    exact fstI_drop row l k r (by simpa using h)

set_option maxRecDepth 20000 in
theorem ref17_place_spec {P : Program} (F : F_warehouseref17_place P) (e1 e2 : Bool) (l : List (List V)) (row : List V) (n : Int) (hn : 0 ≤ n ∧ n ≤ 1000000) (hl : l.length ≤ 1000000) (hr : ∀ r ∈ l, r.length ≤ 1000000) (H : List AObj) :
    ACalls P F.id [.list e1 1 (rwC l), .list e2 3 (vC row), .int .i64 n] H (fun r H' => r = .int .i64 (plcR l row n) ∧ H' = H) := by
  refine ACalls.pure (by simp [AVal.closed, AVal.isPure]) (acalls_of_body F.has ?_)
  conv => whnf
  refine ⟨fun m ρ H1 => ∃ k : Nat, k + m = l.length ∧ fstI row l = k + fstI row (l.drop k) ∧ H1 = [] ∧ Sv 23 [(0, .list e1 1 (rwC l)), (1, .list e2 3 (vC row)), (2, .int .i64 n), (7, .int .i64 k)] ρ, l.length, [], ?_, ?_⟩
  · exact ⟨0, by omega, by simp, rfl, Sv.intro rfl ⟨rfl, rfl, rfl, rfl, trivial⟩⟩
  rintro m ρ H1 ⟨k, hk, hf, rfl, d, rfl⟩
  (conv => whnf); refine recA (fun hlt => ?_) (fun hlt => ?_)
  · simp [rwC_length] at hlt
    obtain ⟨r, hr1, _, hrm⟩ := get_drop hlt
    have hd := fstI_drop row l k r hr1
    (conv => whnf); refine And.intro (by omega) ?_
    (conv => whnf); refine recO (rwC_at hr1) ?_
    (conv => whnf); refine ACalls.use (ref1_SameRow_spec F.warehouseref1_SameRow false e2 r row (hr r hrm) _) ?_
    (conv => whnf); refine recA (fun h0 => ?_) (fun h0 => ?_)
    · replace h0 : (rowsCmp r row == 0) = true := h0
      simp at h0
      rw [if_pos h0] at hd
      conv => whnf
      exact pubI (by rw [wrapI _ (by omega) (by omega), plcR, if_pos (by omega)]; omega)
    · replace h0 : (rowsCmp r row == 0) = false := h0
      simp at h0
      rw [if_neg h0] at hd
      conv => whnf
      refine ⟨m - 1, by omega, Gp.none rfl ?_ fun ρ1 h => ⟨k + 1, by omega, by omega, rfl, h⟩⟩
      exact ⟨clL .., clL .., .closed _ rfl, pub_int (wrapI _ (by omega) (by omega)), trivial⟩
  · simp [rwC_length] at hlt
    conv => whnf
    exact pubI (by rw [plcR, if_neg (by omega)])

set_option maxRecDepth 20000 in
theorem ref17_running_spec {P : Program} (F : F_warehouseref17_running P) (ex : Bool) (l : List (List V)) (p : Nat) (a : Int) (hp : p < l.length) (hl : l.length ≤ 4096) (hr : ∀ r ∈ l, r.length ≤ 1000 ∧ r.all validB = true) (H : List AObj) :
    ACalls P F.id [.list ex 1 (rwC l), .int .i64 p, .int .i64 a] H (fun r H' => r = .agg (valC (if someA a (l.take (p + 1)) then numV (sumA a (l.take (p + 1))) else zV)) ∧ H' = H) := by
  refine ACalls.pure (by simp [AVal.closed, AVal.isPure]) (acalls_of_body F.has ?_)
  conv => whnf
  refine ⟨fun m ρ H1 => ∃ k : Nat, k + m = p + 1 ∧ H1 = [.arr 3 [valC zV]] ∧ Sv 34 [(0, .list ex 1 (rwC l)), (1, .int .i64 p), (2, .int .i64 a), (6, .ptr 0 1 0 0), (7, .int .i64 (sumA a (l.take k))), (8, .bool (someA a (l.take k))), (9, .int .i64 k)] ρ, p + 1, [], ?_, ?_⟩
  · exact ⟨0, by omega, rfl, Sv.intro rfl ⟨rfl, rfl, rfl, rfl, rfl, rfl, rfl, trivial⟩⟩
  rintro m ρ H1 ⟨k, hk, rfl, d, rfl⟩
  (conv => whnf); refine recA (fun hlt => ?_) (fun hlt => ?_)
  · simp at hlt
    obtain ⟨r, hr1, _, hrm⟩ := get_drop (show k < l.length by omega)
    have hT : l.take (k + 1) = l.take k ++ [r] := by rw [List.take_add_one, hr1]; rfl
    have hb := sumA_bnd a (l.take k) fun r h => (hr r (List.mem_of_mem_take h)).2
    have hnb := valid_num (celV_valid (hr r hrm).2 a)
    rw [List.length_take] at hb
    have hsome : someA a (l.take (k + 1)) = (someA a (l.take k) || !((celV r a).kind == 0)) := by rw [hT, someA, List.any_append]; simp [someA]
    have hsum : sumA a (l.take (k + 1)) = sumA a (l.take k) + numW a r := by rw [hT, sumA_snoc]
    (conv => whnf); refine And.intro (by omega) ?_
    (conv => whnf); refine recO (rwC_at hr1) ?_
    (conv => whnf); refine ACalls.use (ref17_argument_spec F.warehouseref17_argument false r a (by have := (hr r hrm).1; omega) _) ?_
    (conv => whnf); refine recA (fun h0 => ?_) (fun h0 => ?_)
    · replace h0 : (!((celV r a).kind == 0)) = true := h0
      rw [h0, Bool.or_true] at hsome
      have hk0 : (celV r a).kind ≠ 0 := by simpa using h0
      rw [numW, if_neg hk0] at hsum
      conv => whnf
      refine ⟨m - 1, by omega, Gp.one 0 3 [valC zV] rfl rfl rfl ?_ fun ρ1 h => ⟨k + 1, by omega, rfl, h⟩⟩
      exact ⟨clL .., .closed _ rfl, .closed _ rfl, .keepP 0 1 0 0 0 rfl, pub_int (by rw [hsum]; exact wrapI _ (by omega) (by omega)), pubB hsome.symm, pub_int (wrapI _ (by omega) (by omega)), trivial⟩
    · replace h0 : (!((celV r a).kind == 0)) = false := h0
      rw [h0, Bool.or_false] at hsome
      have hk0 : (celV r a).kind = 0 := by simpa using h0
      rw [numW, if_pos hk0, Int.add_zero] at hsum
      conv => whnf
      refine ⟨m - 1, by omega, Gp.one 0 3 [valC zV] rfl rfl rfl ?_ fun ρ1 h => ⟨k + 1, by omega, rfl, h⟩⟩
      exact ⟨clL .., .closed _ rfl, .closed _ rfl, .keepP 0 1 0 0 0 rfl, pub_int hsum.symm, pubB hsome.symm, pub_int (wrapI _ (by omega) (by omega)), trivial⟩
  · simp at hlt
    have hkp : k = p + 1 := by omega
    subst hkp
    (conv => whnf); refine recA (fun hs => ?_) (fun hs => ?_)
    · have hs2 : someA a (l.take (p + 1)) = false := by simpa using hs
      conv => whnf
      exact pubEq (by rw [if_neg (by simp [hs2])]; rfl) rfl
    · have hs2 : someA a (l.take (p + 1)) = true := by simpa using hs
      (conv => whnf); refine ACalls.use (ref17_number_spec F.warehouseref17_number _ _) ?_
      conv => whnf
      exact pubEq (by rw [if_pos hs2]; rfl) rfl

def rkR (ord : List Int) (l : List (List V)) (p : Nat) : Int := 1 + ((l.filter fun r => decide (cmpK ord r (l.getD p []) < 0)).length : Int)

def valR (x : Itm) (l : List (List V)) (ord : List Int) (a : Int) (p : Nat) : V := if x.f = 9 then numV (rkR ord l p) else winV x l ord a p

set_option maxRecDepth 20000 in
theorem ref17_value_spec {P : Program} (F : F_warehouseref17_value P) (e1 e2 : Bool) (x : Itm) (l : List (List V)) (ord : List Int) (a : Int) (p : Nat) (hw : winB x.f = true) (hn : (x.f = 10 ∨ x.f = 11) → 1 ≤ x.n ∧ x.n ≤ 4096)
    (hp : p < l.length) (hl : l.length ≤ 4096) (hr : ∀ r ∈ l, r.length ≤ 1000 ∧ r.all validB = true) (ho : ord.length ≤ 1000000) (H : List AObj) :
    ACalls P F.id [.agg (itmC x), .int .i64 a, .list e1 1 (rwC l), .int .i64 p, .list e2 1 (iC ord)] H (fun r H' => r = .agg (valC (valR x l ord a p)) ∧ H' = H) := by
  refine ACalls.pure rfl (acalls_of_body F.has ?_)
  have hrl : ∀ r ∈ l, r.length ≤ 1000000 := fun r h => by have := (hr r h).1; omega
  have hw2 := (winB_iff _).1 hw
  by_cases f1 : x.f = 1
  · have hv : valR x l ord a p = numV l.length := by simp [valR, winV, f1]
    repeat ((conv => whnf); first | refine And.intro (by omega) ?_ | refine recT (by first | rfl | (simp; done) | (simp; omega)) ?_ | refine recF (by first | rfl | (simp; done) | (simp; omega)) ?_)
    (conv => whnf); refine ACalls.use (ref17_number_spec F.warehouseref17_number _ _) ?_
    conv => whnf
    exact pubEq (by rw [hv, rwC_length]; rfl) rfl
  by_cases f8 : x.f = 8
  · have hv : valR x l ord a p = numV ((p : Int) + 1) := by simp [valR, winV, f8]
    repeat ((conv => whnf); first | refine And.intro (by omega) ?_ | refine recT (by first | rfl | (simp; done) | (simp; omega)) ?_ | refine recF (by first | rfl | (simp; done) | (simp; omega)) ?_)
    (conv => whnf); refine ACalls.use (ref17_number_spec F.warehouseref17_number _ _) ?_
    conv => whnf
    exact pubEq (by rw [hv, wrapI _ (by omega) (by omega)]; rfl) rfl
  by_cases f9 : x.f = 9
  · have hv : valR x l ord a p = numV (rkR ord l p) := by rw [valR, if_pos f9]
    obtain ⟨q, hq, _, hqm⟩ := get_drop hp
    have hgq : l.getD p [] = q := by rw [List.getD_eq_getElem?_getD, hq]; rfl
    rw [rkR, hgq] at hv
    repeat ((conv => whnf); first | refine And.intro (by omega) ?_ | refine recT (by first | rfl | (simp; done) | (simp; omega)) ?_ | refine recF (by first | rfl | (simp; done) | (simp; omega)) ?_)
    conv => whnf
    refine ⟨fun m ρ H1 => ∃ k : Nat, k + m = l.length ∧ H1 = [.arr 5 [itmC x], .arr 3 [valC zV]] ∧ Sv 83 [(2, .list e1 1 (rwC l)), (3, .int .i64 p), (4, .list e2 1 (iC ord)), (10, .ptr 1 1 0 0), (11, .int .i64 (1 + ((l.take k).filter fun r => decide (cmpK ord r q < 0)).length)), (12, .int .i64 k)] ρ, l.length, [], ?_, ?_⟩
    · exact ⟨0, by omega, rfl, Sv.intro rfl ⟨rfl, rfl, rfl, rfl, rfl, rfl, trivial⟩⟩
    rintro m ρ H1 ⟨k, hk, rfl, d, rfl⟩
    (conv => whnf); refine recA (fun hlt => ?_) (fun hlt => ?_)
    · simp [rwC_length] at hlt
      obtain ⟨r, hr1, _, hrm⟩ := get_drop hlt
      have hT : l.take (k + 1) = l.take k ++ [r] := by rw [List.take_add_one, hr1]; rfl
      have hfl := List.length_filter_le (fun r => decide (cmpK ord r q < 0)) (l.take k)
      rw [List.length_take] at hfl
      (conv => whnf); refine And.intro (by omega) ?_
      (conv => whnf); refine recO (rwC_at hr1) ?_
      (conv => whnf); refine And.intro (by omega) ?_
      (conv => whnf); refine recO (rwC_at hq) ?_
      (conv => whnf); refine ⟨_, ref17_compare_spec F.warehouseref17_compare false false e2 r q ord (hrl r hrm) (hrl q hqm) ho _, ?_⟩
      (conv => whnf); refine recA (fun hc => ?_) (fun hc => ?_)
      · simp at hc
        have e : ((l.take (k + 1)).filter fun r => decide (cmpK ord r q < 0)).length = ((l.take k).filter fun r => decide (cmpK ord r q < 0)).length + 1 := by rw [hT, List.filter_append]; simp [hc]
        conv => whnf
        refine ⟨m - 1, by omega, Gp.keep rfl ?_ fun ρ1 h => ⟨k + 1, by omega, rfl, h⟩⟩
        exact ⟨rfl, rfl, rfl, rfl, intEq (by rw [wrapI _ (by omega) (by omega), e]; omega), intEq (wrapI _ (by omega) (by omega)), trivial⟩
      · simp at hc
        have e : ((l.take (k + 1)).filter fun r => decide (cmpK ord r q < 0)).length = ((l.take k).filter fun r => decide (cmpK ord r q < 0)).length := by rw [hT, List.filter_append]; simp; omega
        conv => whnf
        refine ⟨m - 1, by omega, Gp.keep rfl ?_ fun ρ1 h => ⟨k + 1, by omega, rfl, h⟩⟩
        exact ⟨rfl, rfl, rfl, rfl, intEq (by rw [e]), intEq (wrapI _ (by omega) (by omega)), trivial⟩
    · simp [rwC_length] at hlt
      rw [List.take_of_length_le hlt]
      (conv => whnf); refine ACalls.use (ref17_number_spec F.warehouseref17_number _ _) ?_
      conv => whnf
      exact pubEq (by rw [hv]; rfl) rfl
  by_cases f3 : x.f = 3
  · have hv : valR x l ord a p = if someA a (l.take (p + 1)) then numV (sumA a (l.take (p + 1))) else zV := by simp [valR, winV, f3]
    repeat ((conv => whnf); first | refine And.intro (by omega) ?_ | refine recT (by first | rfl | (simp; done) | (simp; omega)) ?_ | refine recF (by first | rfl | (simp; done) | (simp; omega)) ?_)
    (conv => whnf); refine ACalls.use (ref17_running_spec F.warehouseref17_running e1 l p a hp hl hr _) ?_
    conv => whnf
    exact pubEq (by rw [hv]; rfl) rfl
  have sp := fun q H => ref17_at_spec F.warehouseref17_at e1 l q a (by omega) hrl H
  by_cases f10 : x.f = 10
  · have hnn := hn (by omega)
    have hv : valR x l ord a p = atW l ((p : Int) - x.n) a := by simp [valR, winV, f10]
    repeat ((conv => whnf); first | refine And.intro (by omega) ?_ | refine recT (by first | rfl | (simp; done) | (simp; omega)) ?_ | refine recF (by first | rfl | (simp; done) | (simp; omega)) ?_)
    (conv => whnf); refine ACalls.use (sp _ _) ?_
    conv => whnf
    exact pubEq (by rw [hv, wrapI _ (by omega) (by omega)]; rfl) rfl
  by_cases f11 : x.f = 11
  · have hnn := hn (by omega)
    have hv : valR x l ord a p = atW l ((p : Int) + x.n) a := by simp [valR, winV, f11]
    repeat ((conv => whnf); first | refine And.intro (by omega) ?_ | refine recT (by first | rfl | (simp; done) | (simp; omega)) ?_ | refine recF (by first | rfl | (simp; done) | (simp; omega)) ?_)
    (conv => whnf); refine ACalls.use (sp _ _) ?_
    conv => whnf
    exact pubEq (by rw [hv, wrapI _ (by omega) (by omega)]; rfl) rfl
  by_cases f12 : x.f = 12
  · have hv : valR x l ord a p = atW l 0 a := by simp [valR, winV, f12]
    repeat ((conv => whnf); first | refine And.intro (by omega) ?_ | refine recT (by first | rfl | (simp; done) | (simp; omega)) ?_ | refine recF (by first | rfl | (simp; done) | (simp; omega)) ?_)
    (conv => whnf); refine ACalls.use (sp _ _) ?_
    conv => whnf
    exact pubEq (by rw [hv]; rfl) rfl
  have f13 : x.f = 13 := by omega
  have hv : valR x l ord a p = atW l ((l.length : Int) - 1) a := by simp [valR, winV, f13]
  repeat ((conv => whnf); first | refine And.intro (by omega) ?_ | refine recT (by first | rfl | (simp; done) | (simp; omega)) ?_ | refine recF (by first | rfl | (simp; done) | (simp; omega)) ?_)
  (conv => whnf); refine ACalls.use (sp _ _) ?_
  conv => whnf
  exact pubEq (by rw [hv, rwC_length, wrapI _ (by omega) (by omega)]; rfl) rfl

end Go.AW

namespace Go.AW
variable [Draws]
attribute [local irreducible] ACalls
def posR (ord : List Int) (O : List (List V)) (x : List V) : Nat → Nat
  | 0 => 0
  | k + 1 => if cmpK ord (O.getD k []) x > 0 then posR ord O x k else k + 1

theorem posR_le (ord : List Int) (O : List (List V)) (x : List V) : ∀ k, posR ord O x k ≤ k
  | 0 => Nat.le_refl _
  | k + 1 => by
    have := posR_le ord O x k
    rw [posR]; split <;> omega

def insR (ord : List Int) (x : List V) (O : List (List V)) : List (List V) := O.take (posR ord O x O.length) ++ x :: O.drop (posR ord O x O.length)

theorem insR_length (ord : List Int) (x : List V) (O : List (List V)) : (insR ord x O).length = O.length + 1 := by
  have := posR_le ord O x O.length
  rw [insR, List.length_append, List.length_cons, List.length_take, List.length_drop]; omega

def memG (is ord : List Int) (row : List V) : List (List V) → List (List V) → List (List V)
  | O, [] => O
  | O, r :: R => memG is ord row (if cmpK is r row = 0 then insR ord r O else O) R

def memR (is ord : List Int) (row : List V) (R : List (List V)) : List (List V) := memG is ord row [] R

theorem memG_mem (is ord : List Int) (row : List V) : ∀ (R O : List (List V)) (r : List V), r ∈ memG is ord row O R → r ∈ O ∨ r ∈ R
  | [], O, r, h => .inl h
  | x :: R, O, r, h => by
    rw [memG] at h
    rcases memG_mem is ord row R _ r h with h1 | h1
    · split at h1
      · rw [insR] at h1
        rcases List.mem_append.1 h1 with h2 | h2
        · exact .inl (List.mem_of_mem_take h2)
        · rcases List.mem_cons.1 h2 with rfl | h2
          · exact .inr (List.mem_cons_self ..)
          · exact .inl (List.mem_of_mem_drop h2)
      · exact .inl h1
    · exact .inr (List.mem_cons_of_mem _ h1)

set_option maxHeartbeats 2000000 in
set_option maxRecDepth 20000 in
theorem ref17_members_spec {P : Program} (F : F_warehouseref17_members P) (e1 e2 e3 e4 : Bool) (R : List (List V)) (row : List V) (is ord : List Int) (hR : R.length ≤ 4096) (hr : ∀ r ∈ R, r.length ≤ 1000) (hrow : row.length ≤ 1000)
    (hi : is.length ≤ 10000) (ho : ord.length ≤ 10000) (H : List AObj) :
    ACalls P F.id [.list e1 1 (rwC R), .list e2 3 (vC row), .list e3 1 (iC is), .list e4 1 (iC ord)] H (fun r H' => r = .list false 1 (rwC (memR is ord row R)) ∧ H' = H) := by
  refine ACalls.pure rfl (acalls_of_body F.has ?_)
  conv => whnf
  refine ⟨fun m ρ H1 => ∃ (k : Nat) (O : List (List V)), k + m = R.length ∧ memR is ord row R = memG is ord row O (R.drop k) ∧ O.length ≤ k ∧ (∀ r ∈ O, r ∈ R) ∧ H1 = [.arr 1 (rwC O)] ∧ Sv 63 [(0, .list e1 1 (rwC R)), (1, .list e2 3 (vC row)), (2, .list e3 1 (iC is)), (3, .list e4 1 (iC ord)), (9, .sl 0 O.length 0 O.length), (10, .int .i64 k)] ρ, R.length, [(9, 1)], ?_, ?_⟩
  · exact ⟨0, [], by omega, rfl, by simp, fun r h => by simp at h, rfl, Sv.intro rfl ⟨rfl, rfl, rfl, rfl, rfl, rfl, trivial⟩⟩
  rintro m ρ H1 ⟨k, O, hk, hm, hO, hOR, rfl, d, rfl⟩
  (conv => whnf); refine recA (fun hlt => ?_) (fun hlt => ?_)
  · simp [rwC_length] at hlt
    obtain ⟨x, hx, hxd, hxm⟩ := get_drop hlt
    rw [hxd, memG] at hm
    have hxl := hr x hxm
    (conv => whnf); refine And.intro (by omega) ?_
    (conv => whnf); refine recO (rwC_at hx) ?_
    (conv => whnf); refine ACalls.use (ref17_compare_spec F.warehouseref17_compare false e2 e3 x row is (by omega) (by omega) (by omega) _) ?_
    (conv => whnf); refine recA (fun hc => ?_) (fun hc => ?_)
    · replace hc : (!(cmpK is x row == 0)) = true := hc
      simp at hc
      rw [if_neg hc] at hm
      conv => whnf
      refine ⟨m - 1, by omega, Gp.keep rfl ?_ fun ρ1 h => ⟨k + 1, O, by omega, hm, by omega, hOR, rfl, h⟩⟩
      exact ⟨rfl, rfl, rfl, rfl, rfl, intEq (wrapI _ (by omega) (by omega)), trivial⟩
    · replace hc : (!(cmpK is x row == 0)) = false := hc
      simp at hc
      rw [if_pos hc] at hm
      (conv => whnf); refine recT (by rw [rwC_length]; exact Nat.beq_refl _) ?_
      conv => whnf
      refine ⟨fun m' ρ H1 => ∃ q : Nat, q = m' ∧ q ≤ O.length ∧ posR ord O x O.length = posR ord O x q ∧ H1 = [.arr 1 (rwC O)] ∧ Sv 63 [(0, .list e1 1 (rwC R)), (1, .list e2 3 (vC row)), (2, .list e3 1 (iC is)), (3, .list e4 1 (iC ord)), (9, .sl 0 O.length 0 O.length), (10, .int .i64 k), (11, .int .i64 q)] ρ, O.length, [], ?_, ?_⟩
      · exact ⟨O.length, rfl, Nat.le_refl _, rfl, rfl, Sv.intro rfl ⟨rfl, rfl, rfl, rfl, rfl, rfl, rfl, trivial⟩⟩
      rintro m' ρ H1 ⟨q, rfl, hq, hpos, rfl, d, rfl⟩
      by_cases hq0 : q = 0
      · (conv => whnf); refine recF (by simp; omega) ?_
        have hp2 : posR ord O x O.length = q := by rw [hpos, hq0]; rfl
        (conv => whnf); refine recT (by rw [rwC_length]; exact Nat.beq_refl _) ?_
        (conv => whnf); refine And.intro (by omega) ?_
        (conv => whnf); refine recT (by rw [rwC_length]; exact Nat.beq_refl _) ?_
        conv => whnf
        have hc1 : List.take ((q : Int).toNat - 0) (List.drop (0 + 0) (rwC O)) = rwC (O.take q) := by
          rw [Int.toNat_natCast]; simp [rwC, rwA, List.map_take]
        have hTl : (O.take q).length = q := by rw [List.length_take]; omega
        rw [hc1]
        (conv => whnf); refine And.intro (⟨roomMul (by rw [rwC_length, hTl]; omega) (by omega), roomB_le (by rw [rwC_length, hTl]; omega)⟩) ?_
        (conv => whnf); refine And.intro (by omega) ?_
        (conv => whnf); refine recO (rwC_at hx) ?_
        (conv => whnf); refine recT (Nat.beq_refl _) ?_
        (conv => whnf); refine And.intro (⟨roomMul (by rw [rwC_length, hTl]; simp; omega) (by omega), roomB_le (by rw [rwC_length, hTl]; simp; omega), rfl, rfl⟩) ?_
        (conv => whnf); refine And.intro (rfl) ?_
        conv => whnf
        refine And.intro ?_ ?_
        · (conv => whnf); refine And.intro (by omega) ?_
          (conv => whnf); refine recO (rwC_at hx) ?_
          rfl
        (conv => whnf); refine recT (by rw [rwC_length]; exact Nat.beq_refl _) ?_
        (conv => whnf); refine And.intro (⟨by omega, by omega⟩) ?_
        (conv => whnf); refine recT (by rw [rwC_length]; exact Nat.beq_refl _) ?_
        have hc2 : List.take (O.length - (q : Int).toNat) (List.drop (0 + (q : Int).toNat) (rwC O)) = rwC (O.drop q) := by
          rw [Int.toNat_natCast]; simp only [rwC, rwA, Nat.zero_add, ← List.map_drop]; exact List.take_of_length_le (by simp)
        conv => whnf
        rw [hc2]
        (conv => whnf); refine recT (Nat.beq_refl _) ?_
        refine And.intro ⟨roomMul (by simp [rwC_length]; omega) (by omega), roomB_le (by simp [rwC_length]; omega), rfl, rfl⟩ ?_
        conv => whnf
        have hI : rwC (insR ord x O) = rwC (O.take q) ++ [[AVal.list false 3 (vC x)]] ++ rwC (O.drop q) := by
          rw [insR, hp2, rwC_append, List.append_assoc, ← List.singleton_append, rwC_append]; rfl
        have hIl := insR_length ord x O
        have hL : (rwC (O.take q) ++ [[AVal.list false 3 (vC x)]] ++ rwC (O.drop q)).length = (insR ord x O).length := by rw [← hI, rwC_length]
        refine ⟨m - 1, by omega, Gp.one 1 1 (rwC (insR ord x O)) (by rw [hI]; rfl) (pureEs_rwC _) rfl ?_ fun ρ1 h => ⟨k + 1, insR ord x O, by omega, hm, by omega, ?_, rfl, h⟩⟩
        · exact ⟨clL .., clL .., clL .., clL .., pubSl (k := 0) rfl rfl hL hL, pub_int (wrapI _ (by omega) (by omega)), trivial⟩
        · intro r hr1
          rw [insR] at hr1
          rcases List.mem_append.1 hr1 with h2 | h2
          · exact hOR r (List.mem_of_mem_take h2)
          · rcases List.mem_cons.1 h2 with rfl | h2
            · exact hxm
            · exact hOR r (List.mem_of_mem_drop h2)
      · obtain ⟨q', hq'⟩ : ∃ q', q = q' + 1 := ⟨q - 1, by omega⟩
        obtain ⟨y, hy, _, hym⟩ := get_drop (show q' < O.length by omega)
        have ew : IntKind.i64.wrap ((q : Int) - 1) = q' := by rw [wrapI _ (by omega) (by omega)]; omega
        have hposq : posR ord O x q = if cmpK ord y x > 0 then posR ord O x q' else q := by
          rw [hq', posR, List.getD_eq_getElem?_getD, hy]; rfl
        have hyl := hr y (hOR y hym)
        (conv => whnf); refine recT (by simp; omega) ?_
        conv => whnf
        rw [ew]
        (conv => whnf); refine recT (by rw [rwC_length]; exact Nat.beq_refl _) ?_
        (conv => whnf); refine And.intro (by omega) ?_
        (conv => whnf); refine recT (by rw [rwC_length]; exact Nat.beq_refl _) ?_
        (conv => whnf); refine recO (by rw [Nat.zero_add, Int.toNat_natCast]; exact rwC_at hy) ?_
        (conv => whnf); refine And.intro (by omega) ?_
        (conv => whnf); refine recO (rwC_at hx) ?_
        (conv => whnf); refine ⟨_, ref17_compare_spec F.warehouseref17_compare false false e4 y x ord (by omega) (by omega) (by omega) _, ?_⟩
        (conv => whnf); refine recA (fun hc2 => ?_) (fun hc2 => ?_)
        · simp at hc2
          rw [if_pos hc2] at hposq
          conv => whnf
          refine ⟨q - 1, by omega, Gp.keep rfl ?_ fun ρ1 h => ⟨q', by omega, by omega, by rw [hpos, hposq], rfl, h⟩⟩
          exact ⟨rfl, rfl, rfl, rfl, rfl, rfl, intEq (by rw [wrapI _ (by omega) (by omega)]; omega), trivial⟩
        · simp at hc2
          rw [if_neg (by omega)] at hposq
          have hp2 : posR ord O x O.length = q := by rw [hpos, hposq]
          (conv => whnf); refine recT (by rw [rwC_length]; exact Nat.beq_refl _) ?_
          (conv => whnf); refine And.intro (by omega) ?_
          (conv => whnf); refine recT (by rw [rwC_length]; exact Nat.beq_refl _) ?_
          conv => whnf
          have hc1 : List.take ((q : Int).toNat - 0) (List.drop (0 + 0) (rwC O)) = rwC (O.take q) := by
            rw [Int.toNat_natCast]; simp [rwC, rwA, List.map_take]
          have hTl : (O.take q).length = q := by rw [List.length_take]; omega
          rw [hc1]
          (conv => whnf); refine And.intro (⟨roomMul (by rw [rwC_length, hTl]; omega) (by omega), roomB_le (by rw [rwC_length, hTl]; omega)⟩) ?_
          (conv => whnf); refine And.intro (by omega) ?_
          (conv => whnf); refine recO (rwC_at hx) ?_
          (conv => whnf); refine recT (Nat.beq_refl _) ?_
          (conv => whnf); refine And.intro (⟨roomMul (by rw [rwC_length, hTl]; simp; omega) (by omega), roomB_le (by rw [rwC_length, hTl]; simp; omega), rfl, rfl⟩) ?_
          (conv => whnf); refine And.intro (rfl) ?_
          conv => whnf
          refine And.intro ?_ ?_
          · (conv => whnf); refine And.intro (by omega) ?_
            (conv => whnf); refine recO (rwC_at hx) ?_
            rfl
          (conv => whnf); refine recT (by rw [rwC_length]; exact Nat.beq_refl _) ?_
          (conv => whnf); refine And.intro (⟨by omega, by omega⟩) ?_
          (conv => whnf); refine recT (by rw [rwC_length]; exact Nat.beq_refl _) ?_
          have hc2 : List.take (O.length - (q : Int).toNat) (List.drop (0 + (q : Int).toNat) (rwC O)) = rwC (O.drop q) := by
            rw [Int.toNat_natCast]; simp only [rwC, rwA, Nat.zero_add, ← List.map_drop]; exact List.take_of_length_le (by simp)
          conv => whnf
          rw [hc2]
          (conv => whnf); refine recT (Nat.beq_refl _) ?_
          refine And.intro ⟨roomMul (by simp [rwC_length]; omega) (by omega), roomB_le (by simp [rwC_length]; omega), rfl, rfl⟩ ?_
          conv => whnf
          have hI : rwC (insR ord x O) = rwC (O.take q) ++ [[AVal.list false 3 (vC x)]] ++ rwC (O.drop q) := by
            rw [insR, hp2, rwC_append, List.append_assoc, ← List.singleton_append, rwC_append]; rfl
          have hIl := insR_length ord x O
          have hL : (rwC (O.take q) ++ [[AVal.list false 3 (vC x)]] ++ rwC (O.drop q)).length = (insR ord x O).length := by rw [← hI, rwC_length]
          refine ⟨m - 1, by omega, Gp.one 1 1 (rwC (insR ord x O)) (by rw [hI]; rfl) (pureEs_rwC _) rfl ?_ fun ρ1 h => ⟨k + 1, insR ord x O, by omega, hm, by omega, ?_, rfl, h⟩⟩
          · exact ⟨clL .., clL .., clL .., clL .., pubSl (k := 0) rfl rfl hL hL, pub_int (wrapI _ (by omega) (by omega)), trivial⟩
          · intro r hr1
            rw [insR] at hr1
            rcases List.mem_append.1 hr1 with h2 | h2
            · exact hOR r (List.mem_of_mem_take h2)
            · rcases List.mem_cons.1 h2 with rfl | h2
              · exact hxm
              · exact hOR r (List.mem_of_mem_drop h2)
  · simp [rwC_length] at hlt
    rw [List.drop_eq_nil_of_le hlt, memG] at hm
    conv => whnf
    have hpf := pubF (H1 := [.arr 1 (rwC O)]) (n := 0) (id := 0) (ep := O.length) (len := O.length) rfl (rwC_length _).symm (rwC_length _).symm (pureEs_rwC _)
    rw [hm]
    exact hpf

end Go.AW

namespace Go.AW
variable [Draws]
structure PreC {α : Type} (c : α → α → Int) : Prop where
  anti : ∀ x y, c y x = - c x y
  le : ∀ x y z, c x y ≤ 0 → c y z ≤ 0 → c x z ≤ 0

theorem IsCmp.pre {α : Type} {c : α → α → Int} (h : IsCmp c) : PreC c := ⟨h.anti, fun _ _ _ => h.le_trans⟩

theorem PreC.pull {α β : Type} {c : α → α → Int} (h : PreC c) (f : β → α) : PreC (fun x y => c (f x) (f y)) := ⟨fun x y => h.anti _ _, fun x y z => h.le _ _ _⟩

theorem PreC.refl {α : Type} {c : α → α → Int} (h : PreC c) (x : α) : c x x = 0 := by have := h.anti x x; omega

theorem insC_srtP {α : Type} {c : α → α → Int} (h : PreC c) (x : α) : ∀ l : List α, SrtC c l → SrtC c (insC c x l)
  | [], _ => by simp [insC, SrtC]
  | y :: l, hs => by
    have h1 := List.pairwise_cons.1 hs
    rw [insC]
    split
    · rename_i hx
      refine List.pairwise_cons.2 ⟨fun z hz => ?_, hs⟩
      rcases List.mem_cons.1 hz with rfl | hz
      · exact hx
      · exact h.le _ _ _ hx (h1.1 z hz)
    · rename_i hx
      refine List.pairwise_cons.2 ⟨fun z hz => ?_, insC_srtP h x l h1.2⟩
      rcases List.mem_cons.1 ((insC_perm x l).mem_iff.1 hz) with rfl | hz
      · have := h.anti z y; omega
      · exact h1.1 z hz

theorem srtC_srtP {α : Type} {c : α → α → Int} (h : PreC c) : ∀ l : List α, SrtC c (srtC c l)
  | [] => List.Pairwise.nil
  | x :: l => insC_srtP h x _ (srtC_srtP h l)

theorem pre_K (is : List Int) : PreC (cmpK is) := (isCmp_rows.pre).pull fun r => pickL zV r is

theorem cmpK_of_O {is : List Int} {a b : List V} (h : cmpO is a b ≤ 0) : cmpK is a b ≤ 0 := by
  unfold cmpO at h
  split at h
  · exact h
  · omega

theorem cmpK_zero {is : List Int} {a b : List V} : cmpK is a b = 0 ↔ pickL zV a is = pickL zV b is := rowsCmp_zero _ _

theorem expL_srt (ord : List Int) : ∀ (b : List Ent), b.Pairwise (fun x y => cmpO ord x.row y.row ≤ 0) → SrtC (cmpO ord) (expL b)
  | [], _ => List.Pairwise.nil
  | e :: b, h => by
    obtain ⟨h1, h2⟩ := List.pairwise_cons.1 h
    rw [expL_cons]
    refine List.pairwise_append.2 ⟨List.pairwise_replicate.2 (.inr ?_), expL_srt ord b h2, fun x hx y hy => ?_⟩
    · have := (isCmp_O ord).pre.refl e.row; omega
    · rw [(List.mem_replicate.1 hx).2]
      obtain ⟨e2, he2, rfl⟩ := expL_row hy
      exact h1 e2 he2

theorem expL_perm {a b : List Ent} (h : a.Perm b) : (expL a).Perm (expL b) := h.flatMap_right _

theorem expL_filter (p : List V → Bool) : ∀ b : List Ent, (expL b).filter p = expL (b.filter fun e => p e.row)
  | [] => rfl
  | e :: b => by
    rw [expL_cons, List.filter_append, expL_filter p b, List.filter_cons]
    by_cases h : p e.row
    · rw [if_pos h, expL_cons]
      congr 1
      exact List.filter_eq_self.2 fun x hx => by rw [(List.mem_replicate.1 hx).2]; exact h
    · rw [if_neg h]
      have : (List.replicate e.cnt.toNat e.row).filter p = [] := List.filter_eq_nil_iff.2 fun x hx => by rw [(List.mem_replicate.1 hx).2]; exact h
      rw [this, List.nil_append]

def srtEn (ord : List Int) (b : List Ent) : List Ent := srtC (fun x y => cmpO ord x.row y.row) b

theorem srtO_expL (ord : List Int) (b : List Ent) : srtO ord (expL b) = expL (srtEn ord b) :=
  ((srtC_eq (isCmp_O ord) (expL_srt ord _ (srtC_srtP ((isCmp_O ord).pre.pull Ent.row) b)) (expL_perm (srtC_perm b)))).symm

def Dist (b : List Ent) : Prop := b.Pairwise fun x y => x.row ≠ y.row

theorem Srt.dist {b : List Ent} (h : Srt b) : Dist b := List.Pairwise.imp (fun {x y} h1 e => by rw [(rowsCmp_zero _ _).2 e] at h1; omega) h

theorem Dist.perm {a b : List Ent} (h : Dist a) (hp : a.Perm b) : Dist b := hp.pairwise h fun h1 => Ne.symm h1

theorem fst_rep (row r : List V) (L : List (List V)) (h : r ≠ row) : ∀ c, fstI row (List.replicate c r ++ L) = c + fstI row L
  | 0 => by simp
  | c + 1 => by
    rw [List.replicate_succ, List.cons_append, fstI, if_neg (fun e => h ((rowsCmp_zero _ _).1 e)), fst_rep row r L h c]; omega

theorem fst_self (row : List V) (L : List (List V)) (c : Nat) (hc : 0 < c) : fstI row (List.replicate c row ++ L) = 0 := by
  obtain ⟨k, rfl⟩ : ∃ k, c = k + 1 := ⟨c - 1, by omega⟩
  rw [List.replicate_succ, List.cons_append, fstI, if_pos ((rowsCmp_zero _ _).2 rfl)]

theorem run_at : ∀ (b : List Ent), Dist b → ∀ e ∈ b, ∀ n, n < e.cnt.toNat → (expL b)[fstI e.row (expL b) + n]? = some e.row
  | [], _, e, he, _, _ => by cases he
  | x :: b, hd, e, he, n, hn => by
    obtain ⟨h1, h2⟩ := List.pairwise_cons.1 hd
    rw [expL_cons]
    rcases List.mem_cons.1 he with rfl | he
    · rw [fst_self _ _ _ (by omega), Nat.zero_add, List.getElem?_append_left (by simpa using hn)]
      simp [List.getElem?_replicate, hn]
    · rw [fst_rep _ _ _ (h1 e he), List.getElem?_append_right (by simp; omega), List.length_replicate]
      rw [show x.cnt.toNat + fstI e.row (expL b) + n - x.cnt.toNat = fstI e.row (expL b) + n from by omega]
      exact run_at b h2 e he n hn

theorem run_map {γ : Type} : ∀ (b : List Ent) (G : Nat → γ), Dist b → (List.range (expL b).length).map G = b.flatMap fun e => (List.range e.cnt.toNat).map fun n => G (fstI e.row (expL b) + n)
  | [], _, _ => rfl
  | x :: b, G, hd => by
    obtain ⟨h1, h2⟩ := List.pairwise_cons.1 hd
    rw [expL_cons, List.length_append, List.length_replicate, List.range_add, List.map_append, List.map_map, List.flatMap_cons]
    congr 1
    · refine List.map_congr_left fun n hn => ?_
      have hn := List.mem_range.1 hn
      rw [fst_self _ _ _ (by omega), Nat.zero_add]
    · have ih := run_map b (fun i => G (x.cnt.toNat + i)) h2
      rw [show (G ∘ fun x_1 => x.cnt.toNat + x_1) = fun i => G (x.cnt.toNat + i) from rfl, ih, List.flatMap_def, List.flatMap_def]
      congr 1
      refine List.map_congr_left fun e he => ?_
      refine List.map_congr_left fun n _ => ?_
      rw [fst_rep _ _ _ (h1 e he)]
      congr 1; omega

theorem posR_facts (ord : List Int) (O : List (List V)) (x : List V) : ∀ k, k ≤ O.length → (∀ i y, posR ord O x k ≤ i → i < k → O[i]? = some y → cmpK ord y x > 0) ∧ (0 < posR ord O x k → ∃ y, O[posR ord O x k - 1]? = some y ∧ cmpK ord y x ≤ 0)
  | 0, _ => ⟨fun i y _ h => by omega, fun h => by rw [posR] at h; omega⟩
  | k + 1, hk => by
    obtain ⟨h1, h2⟩ := posR_facts ord O x k (by omega)
    have hg : O[k]? = some O[k] := List.getElem?_eq_getElem (by omega)
    have hgd : O.getD k [] = O[k] := by rw [List.getD_eq_getElem?_getD, hg]; rfl
    rw [posR, hgd]
    split
    · rename_i hc
      refine ⟨fun i y hi hik hy => ?_, h2⟩
      by_cases e : i = k
      · subst e; rw [hg] at hy; cases hy; exact hc
      · exact h1 i y hi (by omega) hy
    · rename_i hc
      exact ⟨fun i y hi hik => by omega, fun _ => ⟨O[k], by simpa using hg, by omega⟩⟩

theorem insR_srt (ord : List Int) (x : List V) (O : List (List V)) (hs : SrtC (cmpO ord) O) (ha : ∀ y ∈ O, rowsCmp y x ≤ 0) : SrtC (cmpO ord) (insR ord x O) := by
  obtain ⟨h1, h2⟩ := posR_facts ord O x O.length (Nat.le_refl _)
  have hle := posR_le ord O x O.length
  have hp := List.pairwise_iff_getElem.1 hs
  unfold insR
  generalize posR ord O x O.length = p at *
  have hlow : ∀ y ∈ O.take p, cmpO ord y x ≤ 0 := by
    intro y hy
    obtain ⟨i, hi⟩ := List.getElem?_of_mem hy
    have hil := (List.getElem?_eq_some_iff.1 hi).1
    rw [List.length_take] at hil
    rw [List.getElem?_take_of_lt (by omega)] at hi
    obtain ⟨z, hz, hzx⟩ := h2 (by omega)
    have hyz : cmpK ord y z ≤ 0 := by
      by_cases e : i = p - 1
      · subst e; rw [hi] at hz; cases hz; have := (pre_K ord).refl y; omega
      · have := hp i (p - 1) (by omega) (by omega) (by omega)
        rw [(List.getElem?_eq_some_iff.1 hi).2, (List.getElem?_eq_some_iff.1 hz).2] at this
        exact cmpK_of_O this
    have hyx := (pre_K ord).le y z x hyz hzx
    unfold cmpO
    split
    · exact hyx
    · exact ha y (List.mem_of_getElem? hi)
  have hhigh : ∀ y ∈ O.drop p, cmpO ord x y ≤ 0 := by
    intro y hy
    obtain ⟨i, hi⟩ := List.getElem?_of_mem hy
    rw [List.getElem?_drop] at hi
    have hc := h1 (p + i) y (by omega) (List.getElem?_eq_some_iff.1 hi).1 hi
    have := (pre_K ord).anti y x
    unfold cmpO
    rw [if_pos (by omega)]; omega
  refine List.pairwise_append.2 ⟨hs.sublist (List.take_sublist _ _), List.pairwise_cons.2 ⟨hhigh, hs.sublist (List.drop_sublist _ _)⟩, fun y hy z hz => ?_⟩
  rcases List.mem_cons.1 hz with rfl | hz
  · exact hlow y hy
  · exact (isCmp_O ord).pre.le _ _ _ (hlow y hy) (hhigh z hz)

theorem insR_perm (ord : List Int) (x : List V) (O : List (List V)) : (insR ord x O).Perm (x :: O) := by
  unfold insR
  refine List.perm_middle.trans ?_
  rw [List.take_append_drop]

theorem memG_facts (is ord : List Int) (row : List V) : ∀ (R O : List (List V)), SrtC (cmpO ord) O → R.Pairwise (fun x y => rowsCmp x y ≤ 0) → (∀ y ∈ O, ∀ x ∈ R, rowsCmp y x ≤ 0) →
    SrtC (cmpO ord) (memG is ord row O R) ∧ (memG is ord row O R).Perm (O ++ R.filter fun r => cmpK is r row == 0)
  | [], O, h, _, _ => ⟨h, by rw [memG]; simp⟩
  | x :: R, O, h, ha, hO => by
    obtain ⟨a1, a2⟩ := List.pairwise_cons.1 ha
    rw [memG]
    by_cases hc : cmpK is x row = 0
    · rw [if_pos hc]
      obtain ⟨g1, g2⟩ := memG_facts is ord row R (insR ord x O) (insR_srt ord x O h fun y hy => hO y hy x (List.mem_cons_self ..)) a2 (fun y hy z hz => by
        rcases List.mem_cons.1 ((insR_perm ord x O).mem_iff.1 hy) with rfl | hy
        · exact a1 z hz
        · exact hO y hy z (List.mem_cons_of_mem _ hz))
      refine ⟨g1, g2.trans ?_⟩
      rw [List.filter_cons, if_pos (by simpa using hc)]
      exact ((insR_perm ord x O).append_right _).trans List.perm_middle.symm
    · rw [if_neg hc]
      obtain ⟨g1, g2⟩ := memG_facts is ord row R O h a2 (fun y hy z hz => hO y hy z (List.mem_cons_of_mem _ hz))
      refine ⟨g1, ?_⟩
      rw [List.filter_cons, if_neg (by simpa using hc)]
      exact g2

theorem memR_eq (is ord : List Int) (row : List V) {R : List (List V)} (h : R.Pairwise fun x y => rowsCmp x y ≤ 0) : memR is ord row R = srtO ord (R.filter fun r => cmpK is r row == 0) := by
  obtain ⟨g1, g2⟩ := memG_facts is ord row R [] List.Pairwise.nil h (fun y hy => by cases hy)
  exact srtC_eq (isCmp_O ord) g1 (by rw [List.nil_append] at g2; exact g2)

theorem rank_eq (ord : List Int) (l : List (List V)) (hs : SrtC (cmpO ord) l) : ∀ p, p < l.length → rkQ ord l (p + 1) = rkR ord l p := by
  have hp := List.pairwise_iff_getElem.1 hs
  have le : ∀ i j (hi : i < l.length) (hj : j < l.length), i ≤ j → cmpK ord l[i] l[j] ≤ 0 := fun i j hi hj h => by
    by_cases e : i = j
    · subst e; have := (pre_K ord).refl l[i]; omega
    · exact cmpK_of_O (hp i j hi hj (by omega))
  have gd : ∀ i (hi : i < l.length), l.getD i [] = l[i] := fun i hi => by rw [List.getD_eq_getElem?_getD, List.getElem?_eq_getElem hi]; rfl
  intro p
  induction p with
  | zero =>
    intro h
    have : (l.filter fun r => decide (cmpK ord r (l.getD 0 []) < 0)) = [] := List.filter_eq_nil_iff.2 fun r hr hc => by
      obtain ⟨i, hi⟩ := List.getElem?_of_mem hr
      obtain ⟨hil, rfl⟩ := List.getElem?_eq_some_iff.1 hi
      rw [gd 0 h] at hc
      have h1 := le 0 i h hil (Nat.zero_le _)
      have h2 := (pre_K ord).anti l[0] l[i]
      simp at hc; omega
    rw [rkR, this]; rfl
  | succ p ih =>
    intro h
    have ih := ih (by omega)
    have h1 := le p (p + 1) (by omega) h (by omega)
    rw [rkQ, gd p (by omega), gd (p + 1) h]
    by_cases hc : cmpK ord l[p] l[p + 1] = 0
    · rw [if_neg (by simp [hc]), ih, rkR, rkR, gd p (by omega), gd (p + 1) h]
      have e := cmpK_zero.1 hc
      have : ∀ r, cmpK ord r l[p] = cmpK ord r l[p + 1] := fun r => by rw [cmpK, cmpK, e]
      simp only [this]
    · rw [if_pos hc, rkR, gd (p + 1) h]
      have hlt : cmpK ord l[p] l[p + 1] < 0 := by omega
      have key : (l.filter fun r => decide (cmpK ord r l[p + 1] < 0)) = l.take (p + 1) := by
        have e0 : (l.filter fun r => decide (cmpK ord r l[p + 1] < 0)) = ((l.take (p + 1) ++ l.drop (p + 1)).filter fun r => decide (cmpK ord r (l[p + 1]) < 0)) := by rw [List.take_append_drop]
        rw [e0, List.filter_append]
        have e1 : (l.take (p + 1)).filter (fun r => decide (cmpK ord r (l[p + 1]) < 0)) = l.take (p + 1) := List.filter_eq_self.2 fun r hr => by
          obtain ⟨i, hi⟩ := List.getElem?_of_mem hr
          have hil := (List.getElem?_eq_some_iff.1 hi).1
          rw [List.length_take] at hil
          rw [List.getElem?_take_of_lt (by omega)] at hi
          obtain ⟨_, rfl⟩ := List.getElem?_eq_some_iff.1 hi
          have h3 := le i p (by omega) (by omega) (by omega)
          have h4 := (pre_K ord).le _ _ _ h3 (Int.le_of_lt hlt)
          have h5 : cmpK ord l[i] l[p + 1] ≠ 0 := fun e => by
            have a1 := (pre_K ord).anti l[i] l[p + 1]
            have := (pre_K ord).le l[p + 1] l[i] l[p] (by omega) h3
            have a2 := (pre_K ord).anti l[p] l[p + 1]
            omega
          simp; omega
        have e2 : (l.drop (p + 1)).filter (fun r => decide (cmpK ord r (l[p + 1]) < 0)) = [] := List.filter_eq_nil_iff.2 fun r hr hd => by
          obtain ⟨i, hi⟩ := List.getElem?_of_mem hr
          rw [List.getElem?_drop] at hi
          obtain ⟨hil, rfl⟩ := List.getElem?_eq_some_iff.1 hi
          have h3 := le (p + 1) (p + 1 + i) h hil (by omega)
          have h4 := (pre_K ord).anti l[p + 1] l[p + 1 + i]
          simp at hd; omega
        rw [e1, e2, List.append_nil]
      rw [key, List.length_take]
      omega

theorem byt_fpL (r : List V) : Byt (fpL r) := by
  intro x hx
  obtain ⟨v, _, hv⟩ := List.mem_flatMap.1 hx
  exact byt_encB [v] x hv

theorem fpL_inj : ∀ (p q : List V), p.length = q.length → p.all validB = true → q.all validB = true → fpL p = fpL q → p = q
  | [], [], _, _, _, _ => rfl
  | [], _ :: _, h, _, _, _ => by simp at h
  | _ :: _, [], h, _, _, _ => by simp at h
  | v :: p, w :: q, hl, hp, hq, h => by
    simp only [List.all_cons, Bool.and_eq_true] at hp hq
    have e1 : fpL (v :: p) = encB [v] ++ fpL p := by simp [fpL]
    have e2 : fpL (w :: q) = encB [w] ++ fpL q := by simp [fpL]
    rw [e1, e2] at h
    have hvw : v = w := by
      rcases List.append_eq_append_iff.1 h with ⟨t, h1, _⟩ | ⟨t, h1, _⟩
      · have := encB_prefix (rs := [v]) (ss := [w]) (by simp) (by simp) (by simpa using hp.1) (by simpa using hq.1) h1
        simpa using this
      · have := encB_prefix (rs := [w]) (ss := [v]) (by simp) (by simp) (by simpa using hq.1) (by simpa using hp.1) h1
        simpa using this.symm
    subst hvw
    rw [fpL_inj p q (by simpa using hl) hp.2 hq.2 (List.append_cancel_left h)]

theorem keyB_iff (is : List Int) {r s : List V} (hr : r.all validB = true) (hs : s.all validB = true) : keyB is r = keyB is s ↔ cmpK is r s = 0 := by
  rw [cmpK_zero]
  refine ⟨fun h => ?_, fun h => by rw [keyB, keyB, h]⟩
  refine fpL_inj _ _ (by rw [pickL_length, pickL_length]) (pick_valid hr is) (pick_valid hs is) (u8L_inj (byt_fpL _) (byt_fpL _) ?_)
  have h1 : (strB (fpL (pickL zV r is))).data.toList = (strB (fpL (pickL zV s is))).data.toList := by rw [show strB (fpL (pickL zV r is)) = strB (fpL (pickL zV s is)) from h]
  simpa [strB, u8L] using h1

end Go.AW

namespace Go.AW
variable [Draws]
def valsR (ord : List Int) (l : List (List V)) (p : Nat) : List Itm → List Int → List V
  | x :: xs, a :: asv => valR x l ord a p :: valsR ord l p xs asv
  | _, _ => []

def rowX (its : List Itm) (asv ord : List Int) (row : List V) (l : List (List V)) (p : Nat) : Ent := ⟨row ++ valsR ord l p its asv, 1⟩

def outE (its : List Itm) (is ord asv : List Int) (R : List (List V)) (e : Ent) : List Ent :=
  (List.range e.cnt.toNat).map fun n => rowX its asv ord e.row (memR is ord e.row R) (fstI e.row (memR is ord e.row R) + n)

def outR (its : List Itm) (is ord asv : List Int) (R : List (List V)) (b : List Ent) : List Ent := b.flatMap (outE its is ord asv R)

theorem valR_eq (x : Itm) {l : List (List V)} {ord : List Int} (a : Int) {p : Nat} (hs : SrtC (cmpO ord) l) (hp : p < l.length) : valR x l ord a p = winV x l ord a p := by
  unfold valR
  split
  · rename_i h; simp [winV, h, rank_eq ord l hs p hp]
  · rfl

theorem cols_vals {l : List (List V)} {ord : List Int} {p : Nat} (hs : SrtC (cmpO ord) l) (hp : p < l.length) : ∀ (its : List Itm) (asv : List Int), (colsW ord l its asv).map (fun c => c.getD p zV) = valsR ord l p its asv
  | [], _ => by simp [colsW, valsR]
  | _ :: _, [] => by simp [colsW, valsR]
  | x :: xs, a :: asv => by
    rw [colsW, valsR, List.map_cons, cols_vals hs hp xs asv, List.getD_eq_getElem?_getD, colW_get x ord a hp, valR_eq x a hs hp]; rfl

theorem expL_ascR : ∀ (b : List Ent), Srt b → (expL b).Pairwise fun x y => rowsCmp x y ≤ 0
  | [], _ => List.Pairwise.nil
  | e :: b, h => by
    obtain ⟨h1, h2⟩ := List.pairwise_cons.1 h
    rw [expL_cons]
    refine List.pairwise_append.2 ⟨List.pairwise_replicate.2 (.inr (by rw [(rowsCmp_zero _ _).2 rfl]; exact Int.le_refl _)), expL_ascR b h2, fun x hx y hy => ?_⟩
    rw [(List.mem_replicate.1 hx).2]
    obtain ⟨e2, he2, rfl⟩ := expL_row hy
    exact Int.le_of_lt (h1 e2 he2)

theorem dist_part {b : List Ent} (hs : Srt b) (ord : List Int) (p : Ent → Bool) : Dist (srtEn ord (b.filter p)) :=
  Dist.perm (List.Pairwise.sublist List.filter_sublist hs.dist) (srtC_perm _).symm

theorem mem_runs {b : List Ent} (is ord : List Int) (hs : Srt b) (row : List V) : memR is ord row (expL b) = expL (srtEn ord (b.filter fun e => cmpK is e.row row == 0)) := by
  rw [memR_eq is ord row (expL_ascR b hs), expL_filter, srtO_expL]

theorem mem_at {b : List Ent} (is ord : List Int) (hs : Srt b) {e : Ent} (he : e ∈ b) {n : Nat} (hn : n < e.cnt.toNat) :
    (memR is ord e.row (expL b))[fstI e.row (memR is ord e.row (expL b)) + n]? = some e.row := by
  rw [mem_runs is ord hs]
  refine run_at _ ?_ e ?_ n hn
  · exact dist_part hs _ _
  · exact srtC_mem.2 (List.mem_filter.2 ⟨he, by simpa using (pre_K is).refl e.row⟩)

theorem mem_srt {b : List Ent} (is ord : List Int) (hs : Srt b) (row : List V) : SrtC (cmpO ord) (memR is ord row (expL b)) := by
  rw [memR_eq is ord row (expL_ascR b hs)]
  exact srtC_srt (isCmp_O ord) _

theorem mem_len {b : List Ent} (is ord : List Int) (hs : Srt b) (row : List V) : (memR is ord row (expL b)).length ≤ (expL b).length := by
  rw [memR_eq is ord row (expL_ascR b hs), srtO, srtC_length]
  exact List.length_filter_le _ _

theorem flatMap_perm {α β : Type} {f g : α → List β} : ∀ (l : List α), (∀ x ∈ l, (f x).Perm (g x)) → (l.flatMap f).Perm (l.flatMap g)
  | [], _ => .refl _
  | x :: l, h => by
    rw [List.flatMap_cons, List.flatMap_cons]
    exact (h x (List.mem_cons_self ..)).append (flatMap_perm l fun y hy => h y (List.mem_cons_of_mem _ hy))

theorem out_perm {b : List Ent} (its : List Itm) (is ord asv : List Int) (hs : Srt b) (hv : ∀ e ∈ b, e.row.all validB = true) (hz : ∀ e ∈ b, 0 < e.cnt) :
    (outW its asv ord (parL is ord (expL b))).Perm (outR its is ord asv (expL b) b) := by
  have hvR : ∀ r ∈ expL b, r.all validB = true := fun r hr => by obtain ⟨e, he, rfl⟩ := expL_row hr; exact hv e he
  obtain ⟨h1, h2, h3⟩ := kyS_facts is (expL b) (expL b).length
  rw [List.take_length] at h1 h2 h3
  
  have part : ∀ k ∈ kyS is (expL b), (outP its asv ord (srtO ord ((expL b).filter fun r => keyB is r == k))).Perm ((b.filter fun e => keyB is e.row == k).flatMap (outE its is ord asv (expL b))) := by
    intro k hk
    rw [expL_filter, srtO_expL]
    have hd : Dist (srtEn ord (b.filter fun e => keyB is e.row == k)) := dist_part hs _ _
    rw [outP, run_map _ _ hd]
    refine ((srtC_perm _).flatMap_right _).trans ?_
    refine flatMap_perm _ fun e he => ?_
    obtain ⟨heb, hek⟩ := List.mem_filter.1 he
    have hek : keyB is e.row = k := by simpa using hek
    have hm : memR is ord e.row (expL b) = expL (srtEn ord (b.filter fun e => keyB is e.row == k)) := by
      rw [mem_runs is ord hs]
      congr 2
      refine List.filter_congr fun x hx => ?_
      rw [Bool.eq_iff_iff]
      simp only [beq_iff_eq, ← hek]
      exact (keyB_iff is (hv x hx) (hv e heb)).symm
    have hE : outE its is ord asv (expL b) e = (List.range e.cnt.toNat).map fun n => rowX its asv ord e.row (expL (srtEn ord (b.filter fun e => keyB is e.row == k))) (fstI e.row (expL (srtEn ord (b.filter fun e => keyB is e.row == k))) + n) := by
      rw [outE, hm]
    rw [hE]
    refine List.Perm.of_eq (List.map_congr_left fun n hn => ?_)
    have hn := List.mem_range.1 hn
    have hat := mem_at is ord hs heb hn
    have hst := mem_srt is ord hs e.row
    rw [hm] at hat hst
    have hlt := (List.getElem?_eq_some_iff.1 hat).1
    rw [rowW, rowX, cols_vals hst hlt, List.getD_eq_getElem?_getD, hat]; rfl
  have e1 : outW its asv ord (parL is ord (expL b)) = (kyS is (expL b)).flatMap fun k => outP its asv ord (srtO ord ((expL b).filter fun r => keyB is r == k)) := by
    rw [outW, parL, grpsK, List.map_map, List.flatMap_map]; rfl
  rw [e1]
  refine (flatMap_perm _ part).trans ?_
  have e2 : ((kyS is (expL b)).flatMap fun k => (b.filter fun e => keyB is e.row == k).flatMap (outE its is ord asv (expL b))) = (((kyS is (expL b)).map fun k => b.filter fun e => keyB is e.row == k).flatten).flatMap (outE its is ord asv (expL b)) := by
    rw [← List.flatMap_def, List.flatMap_assoc]
  rw [e2]
  refine (groups_perm (fun e : Ent => keyB is e.row) _ b h1 fun e he => h2 e.row ?_).flatMap_right _
  exact List.mem_flatMap.2 ⟨e, he, List.mem_replicate.2 ⟨by have := hz e he; omega, rfl⟩⟩

end Go.AW

namespace Go.AW
variable [Draws]
attribute [local irreducible] ACalls
theorem expP_ok {b : List Ent} (h : (expP b).2 = 0) : bagB b = 0 ∧ (∀ e ∈ b, 0 < e.cnt) ∧ (expP b).1 = expL b := by
  unfold expP at h ⊢
  split at h
  · exact absurd h (by assumption)
  · rename_i h1
    have h1 := nz0 h1
    split at h
    · rename_i h2
      split at h
      · cases h
      · rename_i h3
        refine ⟨h1, fun e he => ?_, by rw [if_neg (by simp [h1]), if_pos h2, if_neg h3]⟩
        have := List.all_eq_true.1 h2 e he
        simpa [posE] using this
    · cases h

theorem itemE_win {x : Itm} {a : Int} {R : List (List V)} (h : itemE x a R = 0) : winB x.f = true := by
  unfold itemE at h
  split at h
  · cases h
  · rename_i h1; simpa using h1

theorem valsR_length (ord : List Int) (l : List (List V)) (p : Nat) : ∀ (its : List Itm) (asv : List Int), its.length = asv.length → (valsR ord l p its asv).length = its.length
  | [], _, _ => by simp [valsR]
  | _ :: _, [], h => by simp at h
  | x :: xs, a :: asv, h => by rw [valsR, List.length_cons, List.length_cons, valsR_length ord l p xs asv (by simpa using h)]

theorem valsR_get (ord : List Int) (l : List (List V)) (p : Nat) : ∀ (its : List Itm) (asv : List Int) (j : Nat) (x : Itm) (a : Int), its[j]? = some x → asv[j]? = some a → (valsR ord l p its asv)[j]? = some (valR x l ord a p)
  | [], _, _, _, _, h, _ => by simp at h
  | _ :: _, [], _, _, _, _, h => by simp at h
  | y :: ys, c :: cs, 0, x, a, h1, h2 => by simp at h1 h2; subst h1 h2; rfl
  | y :: ys, c :: cs, j + 1, x, a, h1, h2 => by
    rw [valsR, List.getElem?_cons_succ]
    exact valsR_get ord l p ys cs j x a (by simpa using h1) (by simpa using h2)

def longB (e : Ent) : Bool := decide (12 < e.row.length)

def refP (its : List Itm) (is ord asv : List Int) (b : List Ent) : List Ent × Int :=
  if (expP b).2 ≠ 0 then ([], (expP b).2) else if chkE its asv (expP b).1 ≠ 0 then ([], chkE its asv (expP b).1) else
  if (outR its is ord asv (expP b).1 b).any longB = true then ([], 2) else sumP (outR its is ord asv (expP b).1 b)

theorem outE_length (its : List Itm) (is ord asv : List Int) (R : List (List V)) (e : Ent) : (outE its is ord asv R e).length = e.cnt.toNat := by rw [outE, List.length_map, List.length_range]

theorem outR_length (its : List Itm) (is ord asv : List Int) (R : List (List V)) : ∀ b, (outR its is ord asv R b).length = (expL b).length
  | [] => rfl
  | e :: b => by
    have := outR_length its is ord asv R b
    rw [outR] at this ⊢
    rw [List.flatMap_cons, List.length_append, this, outE_length, expL_cons, List.length_append, List.length_replicate]

theorem mem_rows (is ord : List Int) (row : List V) (R : List (List V)) {r : List V} (h : r ∈ memR is ord row R) : r ∈ R := by
  rcases memG_mem is ord row R [] r h with h1 | h1
  · cases h1
  · exact h1

theorem outR_cnt {its : List Itm} {is ord asv : List Int} {R : List (List V)} {b : List Ent} {y : Ent} (h : y ∈ outR its is ord asv R b) : y.cnt = 1 := by
  obtain ⟨e, _, h1⟩ := List.mem_flatMap.1 h
  obtain ⟨n, _, rfl⟩ := List.mem_map.1 h1
  rfl

theorem outR_ok {its : List Itm} {is ord asv : List Int} {R : List (List V)} {b : List Ent} (ha : (outR its is ord asv R b).any longB = false) {y : Ent} (h : y ∈ outR its is ord asv R b) : EntOk y := by
  have h1 := outR_cnt h
  have h2 := List.any_eq_false.1 ha y h
  simp [longB] at h2
  exact ⟨h2, by omega, by omega⟩

theorem resR_tuple (l : List Ent) : ∃ u v, resR l = .tuple [u, v] ∧ u.closed = true ∧ v.closed = true := by
  unfold resR
  split
  · exact ⟨_, _, rfl, rfl, rfl⟩
  · exact ⟨_, _, rfl, rfl, rfl⟩

set_option maxHeartbeats 2000000 in
set_option maxRecDepth 20000 in
theorem ref17_Apply_spec {P : Program} (F : F_warehouseref17_Apply P)
    (e1 e2 e3 e4 e5 : Bool) (its : List Itm) (is ord asv : List Int) (b : List Ent) (hI : its.length ≤ 1000) (hi : is.length ≤ 10000) (ho : ord.length ≤ 10000) (hA : asv.length ≤ 1000000) (H : List AObj) :
    ACalls P F.id [.list e1 5 (imC its), .list e2 1 (iC is), .list e3 1 (iC ord), .list e4 1 (iC asv), .list e5 2 (eC b)] H (fun r H' => r = tR (refP its is ord asv b) ∧ H' = H) := by
  refine ACalls.pure rfl (acalls_of_body F.has ?_)
  have hEx := ref6_Expand_w F.warehouseref6_Expand e5 b
  have hRl := expP_len b
  have hRr := expP_row b
  have hRv := expP_valid b
  have hok := fun h => expP_ok (b := b) h
  rw [refP]
  generalize hp : expP b = p at *
  obtain ⟨R, E0⟩ := p
  simp only [] at hRl hRr hRv hok ⊢
  (conv => whnf); refine ACalls.use (hEx _) ?_
  (conv => whnf); refine recA (fun h0 => ?_) (fun h0 => ?_)
  · replace h0 : (!(E0 == 0)) = true := h0
    simp at h0
    conv => whnf
    rw [if_pos h0, tR, if_pos h0]
    exact pub2 (.closed _ rfl) (.closed _ rfl)
  replace h0 : (!(E0 == 0)) = false := h0
  simp at h0
  rw [if_neg (by simp [h0])]
  obtain ⟨hb0, hpos, hRe⟩ := hok h0
  (conv => whnf); refine recA (fun hn => ?_) (fun hn => ?_)
  · simp [imC_length, iC_length] at hn
    conv => whnf
    have hc : chkE its asv R = 8 := by rw [chkE, if_pos (by omega)]
    rw [if_pos (by rw [hc]; decide), tR, if_pos (by simp [hc]), hc]
    exact pub2 (.closed _ rfl) (.closed _ rfl)
  simp [imC_length, iC_length] at hn
  have hlen : its.length = asv.length := by omega
  conv => whnf
  refine ⟨fun m ρ H1 => ∃ k : Nat, k + m = its.length ∧ chkE its asv R = itemsE R (its.drop k) (asv.drop k) ∧ H1 = [] ∧ Sv 126 [(0, .list e1 5 (imC its)), (1, .list e2 1 (iC is)), (2, .list e3 1 (iC ord)), (3, .list e4 1 (iC asv)), (4, .list e5 2 (eC b)), (12, .list false 1 (rwC R)), (14, .int .i64 k)] ρ, its.length, [], ?_, ?_⟩
  · exact ⟨0, by omega, by rw [chkE, if_neg (by omega)]; rfl, rfl, Sv.intro rfl ⟨rfl, rfl, rfl, rfl, rfl, rfl, rfl, trivial⟩⟩
  rintro m ρ H1 ⟨k, hk, hg, rfl, d, rfl⟩
  (conv => whnf); refine recA (fun hlt => ?_) (fun hlt => ?_)
  · simp [imC_length] at hlt
    obtain ⟨x, hx, hxd, hxm⟩ := get_drop hlt
    obtain ⟨a, ha, had, _⟩ := get_drop (show k < asv.length by omega)
    have hgo := itemsE_drop (R := R) hxd had
    rw [← hg] at hgo
    (conv => whnf); refine And.intro (by omega) ?_
    (conv => whnf); refine recO (imC_at hx) ?_
    (conv => whnf); refine And.intro (by omega) ?_
    (conv => whnf); refine recO (iC_at ha) ?_
    (conv => whnf); refine ⟨_, ref17_item_spec F.warehouseref17_item false x a R (by omega) (fun r hr => by have := hRr r hr; omega) _, ?_⟩
    (conv => whnf); refine recA (fun hc => ?_) (fun hc => ?_)
    · replace hc : (!(itemE x a R == 0)) = true := hc
      simp at hc
      rw [if_pos hc] at hgo
      conv => whnf
      rw [if_pos (by rw [hgo]; exact hc), tR, if_pos (by simp only []; rw [hgo]; exact hc), hgo]
      exact pub2 (.closed _ rfl) (.closed _ rfl)
    · replace hc : (!(itemE x a R == 0)) = false := hc
      simp at hc
      rw [if_neg (by simp [hc])] at hgo
      conv => whnf
      refine ⟨m - 1, by omega, Gp.none rfl ?_ fun ρ1 h => ⟨k + 1, by omega, hgo, rfl, h⟩⟩
      exact ⟨clL .., clL .., clL .., clL .., clL .., clL .., pub_int (wrapI _ (by omega) (by omega)), trivial⟩
  simp [imC_length] at hlt
  have hchk : chkE its asv R = 0 := by rw [hg, List.drop_eq_nil_of_le hlt, itemsE]; simp
  clear hg
  obtain ⟨_, hitem⟩ := chkE_zero hchk
  rw [if_neg (by simp [hchk])]
  have hsb := ((bagB_iff b).1 hb0).2.2
  have hbl := ((bagB_iff b).1 hb0).1
  have hrow := fun e he => bag_rowOk hb0 e he
  subst hRe
  have hOl : ∀ q, (outR its is ord asv (expL b) (b.take q)).length ≤ 4096 := fun q => by
    have h1 : (expL (b.take q)).length + (expL (b.drop q)).length = (expL b).length := by rw [← List.length_append, ← expL_append, List.take_append_drop]
    rw [outR_length]; omega
  conv => whnf
  refine ⟨fun m ρ H1 => ∃ k : Nat, k + m = b.length ∧ (outR its is ord asv (expL b) (b.take k)).any longB = false ∧ H1 = [.arr 2 (eC (outR its is ord asv (expL b) (b.take k)))] ∧ Sv 126 [(0, .list e1 5 (imC its)), (1, .list e2 1 (iC is)), (2, .list e3 1 (iC ord)), (3, .list e4 1 (iC asv)), (4, .list e5 2 (eC b)), (12, .list false 1 (rwC (expL b))), (16, .sl 0 (outR its is ord asv (expL b) (b.take k)).length 0 (outR its is ord asv (expL b) (b.take k)).length), (17, .int .i64 k)] ρ, b.length, [(16, 2)], ?_, ?_⟩
  · exact ⟨0, by omega, rfl, rfl, Sv.intro rfl ⟨rfl, rfl, rfl, rfl, rfl, rfl, rfl, rfl, trivial⟩⟩
  rintro m ρ H1 ⟨k, hk, hany, rfl, d, rfl⟩
  (conv => whnf); refine recA (fun hlt => ?_) (fun hlt => ?_)
  · simp [eC_length] at hlt
    obtain ⟨e, he, hed, hem⟩ := get_drop hlt
    have hec := hpos e hem
    have hrw := hrow e hem
    have hel : e.row.length ≤ 1000 := by have := hrw.1; omega
    have hcn : e.cnt.toNat ≤ 4096 := by
      have h1 := hOl (k + 1)
      rw [List.take_add_one, he, outR, List.flatMap_append, List.length_append] at h1
      simp [outE_length] at h1
      omega
    have hO : outR its is ord asv (expL b) (b.take (k + 1)) = outR its is ord asv (expL b) (b.take k) ++ outE its is ord asv (expL b) e := by rw [List.take_add_one, he, outR, outR, List.flatMap_append]; simp
    have hO1 := hOl (k + 1)
    rw [hO, List.length_append, outE_length] at hO1
    have hml := mem_len is ord hsb e.row
    have hmv : ∀ r ∈ memR is ord e.row (expL b), r.length ≤ 1000 ∧ r.all validB = true := fun r hr => ⟨by have := hRr r (mem_rows is ord e.row _ hr); omega, hRv r (mem_rows is ord e.row _ hr)⟩
    have hmb : ∀ y, y ∈ outE its is ord asv (expL b) e → y ∈ outR its is ord asv (expL b) b := fun y hy => List.mem_flatMap.2 ⟨e, hem, hy⟩
    (conv => whnf); refine And.intro (by omega) ?_
    (conv => whnf); refine recO (eC_at he) ?_
    (conv => whnf); refine ACalls.use (ref17_members_spec F.warehouseref17_members false false e2 e3 (expL b) e.row is ord hRl (fun r hr => by have := hRr r hr; omega) hel hi ho _) ?_
    conv => whnf
    refine ⟨fun m' ρ H1 => ∃ n : Nat, n + m' = e.cnt.toNat ∧ (outR its is ord asv (expL b) (b.take k) ++ (outE its is ord asv (expL b) e).take n).any longB = false ∧ H1 = [.arr 2 (eC (outR its is ord asv (expL b) (b.take k) ++ (outE its is ord asv (expL b) e).take n))] ∧ Sv 126 [(0, .list e1 5 (imC its)), (1, .list e2 1 (iC is)), (2, .list e3 1 (iC ord)), (3, .list e4 1 (iC asv)), (4, .list e5 2 (eC b)), (12, .list false 1 (rwC (expL b))), (16, .sl 0 (outR its is ord asv (expL b) (b.take k) ++ (outE its is ord asv (expL b) e).take n).length 0 (outR its is ord asv (expL b) (b.take k) ++ (outE its is ord asv (expL b) e).take n).length), (17, .int .i64 k), (18, .list false 1 (rwC (memR is ord e.row (expL b)))), (19, .int .i64 n)] ρ, e.cnt.toNat, [], ?_, ?_⟩
    · exact ⟨0, by omega, by simpa using hany, by simp, Sv.intro rfl ⟨rfl, rfl, rfl, rfl, rfl, rfl, slEq (by simp) (by simp), rfl, rfl, rfl, trivial⟩⟩
    rintro m' ρ H1 ⟨n, hn2, hany2, rfl, d, rfl⟩
    (conv => whnf); refine And.intro (by omega) ?_
    (conv => whnf); refine recO (eC_at he) ?_
    (conv => whnf); refine recA (fun hlt2 => ?_) (fun hlt2 => ?_)
    · simp at hlt2
      have hnc : n < e.cnt.toNat := by omega
      have hat := mem_at is ord hsb hem hnc
      have hPl := (List.getElem?_eq_some_iff.1 hat).1
      have hOn : (outE its is ord asv (expL b) e)[n]? = some (rowX its asv ord e.row (memR is ord e.row (expL b)) (fstI e.row (memR is ord e.row (expL b)) + n)) := by rw [outE, List.getElem?_map, List.getElem?_range hnc]; rfl
      have hplc : plcR (memR is ord e.row (expL b)) e.row n = ((fstI e.row (memR is ord e.row (expL b)) + n : Nat) : Int) := by rw [plcR, if_pos (by omega)]; omega
      have hvl := valsR_length ord (memR is ord e.row (expL b)) (fstI e.row (memR is ord e.row (expL b)) + n) its asv hlen
      (conv => whnf); refine And.intro (by omega) ?_
      (conv => whnf); refine recO (eC_at he) ?_
      (conv => whnf); refine ACalls.use (ref17_place_spec F.warehouseref17_place false false (memR is ord e.row (expL b)) e.row n (by omega) (by omega) (fun r hr => by have := (hmv r hr).1; omega) _) ?_
      rw [hplc]
      (conv => whnf); refine And.intro (by omega) ?_
      (conv => whnf); refine recO (eC_at he) ?_
      (conv => whnf); refine And.intro (⟨roomMul (by rw [vC_length]; omega) (by omega), roomB_le (by rw [vC_length]; omega)⟩) ?_
      conv => whnf
      refine ⟨fun m3 ρ H1 => ∃ j : Nat, j + m3 = its.length ∧ H1 = [.arr 2 (eC (outR its is ord asv (expL b) (b.take k) ++ (outE its is ord asv (expL b) e).take n)), .arr 3 (vC (e.row ++ (valsR ord (memR is ord e.row (expL b)) (fstI e.row (memR is ord e.row (expL b)) + n) its asv).take j))] ∧ Sv 126 [(0, .list e1 5 (imC its)), (1, .list e2 1 (iC is)), (2, .list e3 1 (iC ord)), (3, .list e4 1 (iC asv)), (4, .list e5 2 (eC b)), (12, .list false 1 (rwC (expL b))), (16, .sl 0 (outR its is ord asv (expL b) (b.take k) ++ (outE its is ord asv (expL b) e).take n).length 0 (outR its is ord asv (expL b) (b.take k) ++ (outE its is ord asv (expL b) e).take n).length), (17, .int .i64 k), (18, .list false 1 (rwC (memR is ord e.row (expL b)))), (19, .int .i64 n), (20, .int .i64 ((fstI e.row (memR is ord e.row (expL b)) + n : Nat) : Int)), (21, .sl 1 (e.row.length + j) 0 (e.row.length + j)), (22, .int .i64 j)] ρ, its.length, [], ?_, ?_⟩
      · exact ⟨0, by omega, by simp, Sv.intro rfl ⟨rfl, rfl, rfl, rfl, rfl, rfl, rfl, rfl, rfl, rfl, rfl, slEq (vC_length _) (vC_length _), rfl, trivial⟩⟩
      rintro m3 ρ H1 ⟨j, hj, rfl, d, rfl⟩
      have hrl3 : (e.row ++ (valsR ord (memR is ord e.row (expL b)) (fstI e.row (memR is ord e.row (expL b)) + n) its asv).take j).length = e.row.length + j := by rw [List.length_append, List.length_take]; omega
      by_cases hlt3 : j < its.length
      · have hz1 := get_drop hlt3
        obtain ⟨x, hz2⟩ := hz1
        have hx := hz2.1
        have hz3 := get_drop (show j < asv.length by omega)
        obtain ⟨a, hz4⟩ := hz3
        have ha := hz4.1
        have hit := hitem j x a hx ha
        have hvg := valsR_get ord (memR is ord e.row (expL b)) (fstI e.row (memR is ord e.row (expL b)) + n) its asv j x a hx ha
        have hvT : (valsR ord (memR is ord e.row (expL b)) (fstI e.row (memR is ord e.row (expL b)) + n) its asv).take (j + 1) = (valsR ord (memR is ord e.row (expL b)) (fstI e.row (memR is ord e.row (expL b)) + n) its asv).take j ++ [valR x (memR is ord e.row (expL b)) ord a (fstI e.row (memR is ord e.row (expL b)) + n)] := by rw [List.take_add_one, hvg]; rfl
        (conv => whnf); refine recT (by rw [imC_length]; simp; omega) ?_
        (conv => whnf); refine And.intro (by omega) ?_
        (conv => whnf); refine recO (imC_at hx) ?_
        (conv => whnf); refine And.intro (by omega) ?_
        (conv => whnf); refine recO (iC_at ha) ?_
        (conv => whnf); refine ⟨_, ref17_value_spec F.warehouseref17_value false e3 x (memR is ord e.row (expL b)) ord a (fstI e.row (memR is ord e.row (expL b)) + n) (itemE_win hit) (itemE_lag hit) hPl (by omega) hmv (by omega) _, ?_⟩
        (conv => whnf); refine recT (by rw [vC_length, hrl3]; exact Nat.beq_refl _) ?_
        (conv => whnf); refine And.intro (⟨roomMul (by simp; omega) (by omega), roomB_le (by simp; omega), rfl, by rw [vC_length, hrl3]⟩) ?_
        conv => whnf
        have hL : (vC (e.row ++ (valsR ord (memR is ord e.row (expL b)) (fstI e.row (memR is ord e.row (expL b)) + n) its asv).take j) ++ [valC (valR x (memR is ord e.row (expL b)) ord a (fstI e.row (memR is ord e.row (expL b)) + n))]).length = e.row.length + (j + 1) := by rw [List.length_append, vC_length, hrl3]; rfl
        refine ⟨m3 - 1, by omega, Gp.keep rfl ?_ fun ρ1 h => ⟨j + 1, by omega, ?_, h⟩⟩
        · exact ⟨rfl, rfl, rfl, rfl, rfl, rfl, rfl, rfl, rfl, rfl, rfl, slEq hL hL, intEq (wrapI _ (by omega) (by omega)), trivial⟩
        · have hfin : vC (e.row ++ (valsR ord (memR is ord e.row (expL b)) (fstI e.row (memR is ord e.row (expL b)) + n) its asv).take (j + 1)) = vC (e.row ++ (valsR ord (memR is ord e.row (expL b)) (fstI e.row (memR is ord e.row (expL b)) + n) its asv).take j) ++ [valC (valR x (memR is ord e.row (expL b)) ord a (fstI e.row (memR is ord e.row (expL b)) + n))] := by rw [hvT, ← List.append_assoc]; exact vC_append _ _
          rw [hfin]; rfl
      · have hTa : (valsR ord (memR is ord e.row (expL b)) (fstI e.row (memR is ord e.row (expL b)) + n) its asv).take j = valsR ord (memR is ord e.row (expL b)) (fstI e.row (memR is ord e.row (expL b)) + n) its asv := List.take_of_length_le (by omega)
        (conv => whnf); refine recF (by rw [imC_length]; simp; omega) ?_
        (conv => whnf); refine recT (by rw [vC_length, hrl3]; exact Nat.beq_refl _) ?_
        have hrl4 : (rowX its asv ord e.row (memR is ord e.row (expL b)) (fstI e.row (memR is ord e.row (expL b)) + n)).row.length = e.row.length + j := by rw [rowX, List.length_append, hvl]; omega
        have hrw4 : (⟨e.row ++ (valsR ord (memR is ord e.row (expL b)) (fstI e.row (memR is ord e.row (expL b)) + n) its asv).take j, 1⟩ : Ent) = rowX its asv ord e.row (memR is ord e.row (expL b)) (fstI e.row (memR is ord e.row (expL b)) + n) := by rw [hTa, rowX]
        have hpush : outR its is ord asv (expL b) (b.take k) ++ (outE its is ord asv (expL b) e).take (n + 1) = (outR its is ord asv (expL b) (b.take k) ++ (outE its is ord asv (expL b) e).take n) ++ [⟨e.row ++ (valsR ord (memR is ord e.row (expL b)) (fstI e.row (memR is ord e.row (expL b)) + n) its asv).take j, 1⟩] := by rw [List.take_add_one, hOn, hrw4, List.append_assoc]; rfl
        have hOl2 : (eC (outR its is ord asv (expL b) (b.take k) ++ (outE its is ord asv (expL b) e).take n) ++ [[AVal.sl 1 (e.row.length + j) 0 (e.row.length + j), .int .i64 1]]).length = (outR its is ord asv (expL b) (b.take k) ++ (outE its is ord asv (expL b) e).take (n + 1)).length := by rw [hpush, List.length_append, List.length_append, eC_length]; rfl
        have hOl3 : (outR its is ord asv (expL b) (b.take k) ++ (outE its is ord asv (expL b) e).take n).length ≤ 4096 := by rw [List.length_append, List.length_take, outE_length]; omega
        (conv => whnf); refine recA (fun hlong => ?_) (fun hlong => ?_)
        · simp at hlong
          have hbad : (outR its is ord asv (expL b) b).any longB = true := List.any_eq_true.2 ⟨_, hmb _ (List.mem_of_getElem? hOn), by rw [longB, hrl4]; simp; omega⟩
          conv => whnf
          rw [if_pos hbad]
          exact pub2 (.closed _ rfl) (.closed _ rfl)
        · simp at hlong
          have hany3 : (outR its is ord asv (expL b) (b.take k) ++ (outE its is ord asv (expL b) e).take (n + 1)).any longB = false := by
            rw [hpush, List.any_append, hany2, hrw4]
            simp [longB, hrl4]; omega
          (conv => whnf); refine recT (by rw [eC_length]; exact Nat.beq_refl _) ?_
          (conv => whnf); refine And.intro (⟨roomMul (by simp; simp at hOl3; omega) (by omega), roomB_le (by simp; simp at hOl3; omega), rfl, by rw [eC_length]⟩) ?_
          conv => whnf
          refine ⟨m' - 1, by omega, Gp.some (H1 := [.arr 2 (eC (outR its is ord asv (expL b) (b.take k) ++ (outE its is ord asv (expL b) e).take (n + 1)))]) [0] (by simp) ⟨⟨_, rfl, ?_⟩, trivial⟩ rfl ?_ fun ρ1 h => ⟨n + 1, by omega, hany3, rfl, h⟩⟩
          · rw [hpush]
            exact obPushI (outR its is ord asv (expL b) (b.take k) ++ (outE its is ord asv (expL b) e).take n) (e.row ++ (valsR ord (memR is ord e.row (expL b)) (fstI e.row (memR is ord e.row (expL b)) + n) its asv).take j) 1 (e.row.length + j) 1 [0] _ (by simp) rfl hrl3.symm
          · exact ⟨clL .., clL .., clL .., clL .., clL .., clL .., pubSl (k := 0) rfl rfl hOl2 hOl2, .closed _ rfl, clL .., pub_int (wrapI _ (by omega) (by omega)), trivial⟩
    · simp at hlt2
      have hnc : e.cnt.toNat ≤ n := by omega
      have hTn : (outE its is ord asv (expL b) e).take n = outE its is ord asv (expL b) e := List.take_of_length_le (by rw [outE_length]; omega)
      conv => whnf
      rw [hTn] at hany2
      refine ⟨m - 1, by omega, Gp.one 0 2 (eC (outR its is ord asv (expL b) (b.take k) ++ outE its is ord asv (expL b) e)) (by rw [hTn]; rfl) (pureEs_eC _) rfl ?_ fun ρ1 h => ⟨k + 1, by omega, by rw [hO]; exact hany2, by rw [hO], by rw [hO]; exact h⟩⟩
      exact ⟨clL .., clL .., clL .., clL .., clL .., clL .., by rw [hTn]; exact pubSl (k := 0) rfl rfl rfl rfl, pub_int (wrapI _ (by omega) (by omega)), trivial⟩
  · simp [eC_length] at hlt
    rw [List.take_of_length_le hlt] at hany
    have hO := hOl k
    rw [List.take_of_length_le hlt] at hO
    rw [if_neg (by simp [hany])]
    conv => whnf
    refine Ghost.none (n := 126) (live := [(16, .list false 2 (eC (outR its is ord asv (expL b) b)))]) rfl ⟨?_, trivial⟩ ?_
    · rw [List.take_of_length_le hlt]
      exact pubF rfl (eC_length _).symm (eC_length _).symm (pureEs_eC _)
    rintro ρ ⟨d, rfl⟩
    (conv => whnf); refine ACalls.use (ref6_Sum_spec F.warehouseref6_Sum false (outR its is ord asv (expL b) b) (by omega) (fun y hy => outR_ok hany hy) _) ?_
    obtain ⟨u, v, huv⟩ := resR_tuple (srtM (outR its is ord asv (expL b) b).length (outR its is ord asv (expL b) b))
    have hsum : tR (sumP (outR its is ord asv (expL b) b)) = .tuple [u, v] := by rw [sumP, ← resR_P, huv.1]
    rw [huv.1, hsum]
    conv => whnf
    exact pub2 (.closed _ huv.2.1) (.closed _ huv.2.2)

end Go.AW

namespace Go.AW
variable [Draws]
attribute [local irreducible] ACalls
theorem norR_tuple (l : List Ent) : ∃ u v, norR l = .tuple [u, v] ∧ u.closed = true ∧ v.closed = true := by
  unfold norR resR
  split
  · exact ⟨_, _, rfl, rfl, rfl⟩
  · split
    · exact ⟨_, _, rfl, rfl, rfl⟩
    · exact ⟨_, _, rfl, rfl, rfl⟩

theorem rowW_at {C l : List (List V)} {q j : Nat} {r : List V} (hr : l[q]? = some r) (hj : C.length ≤ j) : rowW C l q = ⟨r ++ (C.take j).map (fun c => c.getD q zV), 1⟩ := by
  rw [rowW, List.getD_eq_getElem?_getD, hr, List.take_of_length_le hj]; rfl

set_option maxHeartbeats 2000000 in
set_option maxRecDepth 20000 in
theorem window_Apply_spec {P : Program} (F : F_window_Apply P) (hR : SortR P F.window_partitions.slices_SortFunc_LLValue_LValue.id F.window_partitions.window_partitions_1.id) (hS : SortL P F.bag_Normalize)
    (e1 e2 e3 e4 e5 : Bool) (its : List Itm) (is ord asv : List Int) (b : List Ent) (hI : its.length ≤ 1000) (hi : is.length ≤ 10000) (ho : ord.length ≤ 10000) (hA : asv.length ≤ 1000000) (H : List AObj) :
    ACalls P F.id [.list e1 5 (imC its), .list e2 1 (iC is), .list e3 1 (iC ord), .list e4 1 (iC asv), .list e5 2 (eC b)] H (fun r H' => r = appR its is ord asv b ∧ H' = H) := by
  refine ACalls.pure rfl (acalls_of_body F.has ?_)
  have hEx := bag_Expand_w F.bag_Expand e5 b
  have hRl := expP_len b
  have hRr := expP_row b
  have hRv := expP_valid b
  rw [appR]
  generalize hp : expP b = p at *
  obtain ⟨R, E0⟩ := p
  simp only [] at hRl hRr hRv ⊢
  (conv => whnf); refine ACalls.use (hEx _) ?_
  (conv => whnf); refine recA (fun h0 => ?_) (fun h0 => ?_)
  · replace h0 : (!(E0 == 0)) = true := h0
    simp at h0
    conv => whnf
    rw [if_pos h0]
    exact pub2 (.closed _ rfl) (.closed _ rfl)
  replace h0 : (!(E0 == 0)) = false := h0
  simp at h0
  rw [if_neg (by simp [h0])]
  (conv => whnf); refine ACalls.use (window_check_spec F.window_check e1 e4 false its asv R (by omega) hA (by omega) (fun r hr => by have := hRr r hr; omega) _) ?_
  (conv => whnf); refine recA (fun hc => ?_) (fun hc => ?_)
  · replace hc : (!(chkE its asv R == 0)) = true := hc
    simp at hc
    conv => whnf
    rw [if_pos hc]
    exact pub2 (.closed _ rfl) (.closed _ rfl)
  replace hc : (!(chkE its asv R == 0)) = false := hc
  simp at hc
  rw [if_neg (by simp [hc])]
  obtain ⟨hla, hitem⟩ := chkE_zero hc
  have hrv : ∀ r ∈ R, r.length ≤ 1000 ∧ r.all validB = true := fun r hr => ⟨by have := hRr r hr; omega, hRv r hr⟩
  (conv => whnf); refine ACalls.use (partitions_spec F.window_partitions hR false e2 e3 R is ord hRl hrv hi (by omega) _) ?_
  have hpf := fun l hl => parL_facts (is := is) (ord := ord) (R := R) (l := l) hl
  have hperm := parL_perm is ord R
  have hGl : (parL is ord R).length ≤ 4096 := by
    rw [parL, List.length_map, grpsK, List.length_map]
    have := kyS_len is R
    omega
  generalize hG : parL is ord R = G at *
  have hflat : ∀ k, (G.take k).flatten.length ≤ 4096 := fun k => by
    have h1 := hperm.length_eq
    conv at h1 => lhs; rw [← List.take_append_drop k G, List.flatten_append, List.length_append]
    omega
  have hout : ∀ k, (outW its asv ord (G.take k)).length ≤ 4096 := fun k => by rw [outW_length]; exact hflat k
  conv => whnf
  refine ⟨fun m ρ H1 => ∃ k : Nat, k + m = G.length ∧ H1 = [.arr 2 (eC (outW its asv ord (G.take k)))] ∧ Sv 102 [(0, .list e1 5 (imC its)), (2, .list e3 1 (iC ord)), (3, .list e4 1 (iC asv)), (15, .sl 0 (outW its asv ord (G.take k)).length 0 (outW its asv ord (G.take k)).length), (43, .list false 1 (ppC G)), (44, .int .i64 G.length), (45, .int .i64 k)] ρ, G.length, [(15, 2)], ?_, ?_⟩
  · exact ⟨0, by omega, rfl, Sv.intro rfl ⟨rfl, rfl, rfl, rfl, rfl, intEq (by rw [ppC_length]), rfl, trivial⟩⟩
  rintro m ρ H1 ⟨k, hk, rfl, d, rfl⟩
  (conv => whnf); refine recA (fun hlt => ?_) (fun hlt => ?_)
  · simp at hlt
    obtain ⟨l, hl, hld, hlm⟩ := get_drop hlt
    obtain ⟨hl1, hl2⟩ := hpf l hlm
    have hlv : ∀ r ∈ l, r.length ≤ 1000 ∧ r.all validB = true := fun r hr => hrv r (hl2 r hr)
    have hCl := colsW_length ord l its asv hla
    (conv => whnf); refine And.intro (by omega) ?_
    (conv => whnf); refine recO (ppC_at hl) ?_
    conv => whnf
    refine ⟨fun m' ρ H1 => ∃ j : Nat, j + m' = its.length ∧ H1 = [.arr 2 (eC (outW its asv ord (G.take k))), .arr 1 (rwC ((colsW ord l its asv).take j))] ∧ Sv 102 [(0, .list e1 5 (imC its)), (2, .list e3 1 (iC ord)), (3, .list e4 1 (iC asv)), (15, .sl 0 (outW its asv ord (G.take k)).length 0 (outW its asv ord (G.take k)).length), (17, .list false 1 (rwC l)), (18, .sl 1 j 0 j), (43, .list false 1 (ppC G)), (44, .int .i64 G.length), (45, .int .i64 k), (49, .list e1 5 (imC its)), (50, .int .i64 its.length), (51, .int .i64 j)] ρ, its.length, [(18, 1)], ?_, ?_⟩
    · exact ⟨0, by omega, rfl, Sv.intro rfl ⟨rfl, rfl, rfl, rfl, rfl, rfl, rfl, rfl, rfl, rfl, intEq (by rw [imC_length]), rfl, trivial⟩⟩
    rintro m' ρ H1 ⟨j, hj, rfl, d, rfl⟩
    (conv => whnf); refine recA (fun hlt2 => ?_) (fun hlt2 => ?_)
    · simp at hlt2
      obtain ⟨x, hx, _, hxm⟩ := get_drop hlt2
      obtain ⟨a, ha, _, _⟩ := get_drop (show j < asv.length by omega)
      have hcj := colsW_get ord l its asv j x a hx ha
      have hTl : ((colsW ord l its asv).take j).length = j := by rw [List.length_take]; omega
      (conv => whnf); refine And.intro (by omega) ?_
      (conv => whnf); refine recO (imC_at hx) ?_
      (conv => whnf); refine And.intro (by omega) ?_
      (conv => whnf); refine recO (iC_at ha) ?_
      (conv => whnf); refine ⟨_, column_spec F.window_column false e3 x l ord a (by omega) hlv (by omega) (itemE_lag (hitem j x a hx ha)) _, ?_⟩
      (conv => whnf); refine recT (by rw [rwC_length, hTl]; exact Nat.beq_refl _) ?_
      (conv => whnf); refine And.intro (⟨roomMul (by simp; omega) (by omega), roomB_le (by simp; omega), rfl, by rw [rwC_length, hTl]⟩) ?_
      conv => whnf
      have hT : (colsW ord l its asv).take (j + 1) = (colsW ord l its asv).take j ++ [colW x l ord a] := by rw [List.take_add_one, hcj]; rfl
      have hL : (rwC ((colsW ord l its asv).take j) ++ [[AVal.list false 3 (vC (colW x l ord a))]]).length = j + 1 := by rw [List.length_append, rwC_length, hTl]; rfl
      refine ⟨m' - 1, by omega, Gp.first 2 [.arr 2 (eC (outW its asv ord (G.take k))), .arr 1 (rwC ((colsW ord l its asv).take (j + 1)))] (by rw [hT, rwC_append]; rfl) rfl (by simp [pureO, pureEs_eC, pureEs_rwC]) rfl ?_ fun ρ1 h => ⟨j + 1, by omega, rfl, h⟩⟩
      exact ⟨clL .., clL .., clL .., pubSl (k := 0) rfl rfl rfl rfl, clL .., pubSl (k := 1) rfl rfl hL hL, clL .., .closed _ rfl, .closed _ rfl, clL .., .closed _ rfl, pub_int (wrapI _ (by omega) (by omega)), trivial⟩
    · simp at hlt2
      rw [List.take_of_length_le (show (colsW ord l its asv).length ≤ j by omega)]
      have hCn : ∀ c ∈ colsW ord l its asv, c.length = l.length := colsW_len ord l its asv
      have hO : outW its asv ord (G.take (k + 1)) = outW its asv ord (G.take k) ++ outP its asv ord l := by rw [List.take_add_one, hl, outW, outW, List.flatMap_append]; simp
      have hOl := hout (k + 1)
      rw [hO, List.length_append] at hOl
      have hPl : (outP its asv ord l).length = l.length := by rw [outP, List.length_map, List.length_range]
      have hPt : ∀ q, ((outP its asv ord l).take q).length ≤ l.length := fun q => by rw [List.length_take]; omega
      have hPg : ∀ q, q < l.length → (outP its asv ord l)[q]? = some (rowW (colsW ord l its asv) l q) := fun q hq => by rw [outP, List.getElem?_map, List.getElem?_range hq]; rfl
      have hj2 : j = (colsW ord l its asv).length := by omega
      rw [hj2]
      conv => whnf
      refine ⟨fun m'' ρ H1 => ∃ q : Nat, q + m'' = l.length ∧ H1 = [.arr 2 (eC (outW its asv ord (G.take k) ++ (outP its asv ord l).take q)), .arr 1 (rwC (colsW ord l its asv))] ∧ Sv 102 [(0, .list e1 5 (imC its)), (2, .list e3 1 (iC ord)), (3, .list e4 1 (iC asv)), (15, .sl 0 (outW its asv ord (G.take k) ++ (outP its asv ord l).take q).length 0 (outW its asv ord (G.take k) ++ (outP its asv ord l).take q).length), (18, .sl 1 (colsW ord l its asv).length 0 (colsW ord l its asv).length), (43, .list false 1 (ppC G)), (44, .int .i64 G.length), (45, .int .i64 k), (68, .list false 1 (rwC l)), (69, .int .i64 l.length), (70, .int .i64 q)] ρ, l.length, [], ?_, ?_⟩
      · exact ⟨0, by omega, by simp, Sv.intro rfl ⟨rfl, rfl, rfl, slEq (by simp) (by simp), rfl, rfl, rfl, rfl, rfl, intEq (by rw [rwC_length]), rfl, trivial⟩⟩
      rintro m'' ρ H1 ⟨q, hq, rfl, d, rfl⟩
      (conv => whnf); refine recA (fun hlt3 => ?_) (fun hlt3 => ?_)
      · simp at hlt3
        obtain ⟨r, hr1, _, hrm⟩ := get_drop hlt3
        have hrl := (hlv r hrm).1
        (conv => whnf); refine And.intro (by omega) ?_
        (conv => whnf); refine recO (rwC_at hr1) ?_
        conv => whnf
        refine ACalls.mono (CloneV_own F.slices_Clone_LValue_Value false r (by omega) _) ?_
        rintro rr H2 (⟨rfl, hr0, rfl⟩ | ⟨rfl, rfl⟩)
        · (conv => whnf); refine recT (by rw [rwC_length]; exact Nat.beq_refl _) ?_
          conv => whnf
          refine ⟨fun m3 ρ H1 => ∃ j : Nat, j + m3 = (colsW ord l its asv).length ∧ H1 = [.arr 2 (eC (outW its asv ord (G.take k) ++ (outP its asv ord l).take q)), .arr 1 (rwC (colsW ord l its asv)), .arr 3 (vC (r ++ ((colsW ord l its asv).take j).map fun c => c.getD q zV))] ∧ Sv 102 [(0, .list e1 5 (imC its)), (2, .list e3 1 (iC ord)), (3, .list e4 1 (iC asv)), (15, .sl 0 (outW its asv ord (G.take k) ++ (outP its asv ord l).take q).length 0 (outW its asv ord (G.take k) ++ (outP its asv ord l).take q).length), (18, .sl 1 (colsW ord l its asv).length 0 (colsW ord l its asv).length), (21, .int .i64 q), (22, .sl 2 (r.length + j) 0 (r.length + j)), (43, .list false 1 (ppC G)), (44, .int .i64 G.length), (45, .int .i64 k), (68, .list false 1 (rwC l)), (69, .int .i64 l.length), (70, .int .i64 q), (77, .sl 1 (colsW ord l its asv).length 0 (colsW ord l its asv).length), (78, .int .i64 (colsW ord l its asv).length), (79, .int .i64 j)] ρ, (colsW ord l its asv).length, [(22, 3)], ?_, ?_⟩
          · exact ⟨0, by omega, by simp [vC, hr0], Sv.intro rfl ⟨rfl, rfl, rfl, rfl, rfl, rfl, slEq (by simp [hr0]) (by simp [hr0]), rfl, rfl, rfl, rfl, rfl, rfl, rfl, rfl, rfl, trivial⟩⟩
          rintro m3 ρ H1 ⟨j, hj3, rfl, d, rfl⟩
          (conv => whnf); refine recA (fun hlt4 => ?_) (fun hlt4 => ?_)
          · simp at hlt4
            (conv => whnf); refine recT (by rw [rwC_length]; exact Nat.beq_refl _) ?_
            (conv => whnf); refine And.intro (by omega) ?_
            (conv => whnf); refine recT (by rw [rwC_length]; exact Nat.beq_refl _) ?_
            conv => whnf
            have hz := get_drop hlt4
            obtain ⟨c, hz2⟩ := hz
            have hcg := hz2.1
            have hcm := hz2.2.2
            have hcl := hCn c hcm
            have hz3 := get_drop (show q < c.length by omega)
            obtain ⟨v, hz4⟩ := hz3
            have hv := hz4.1
            have hTj : ((colsW ord l its asv).take (j + 1)).map (fun c => c.getD q zV) = ((colsW ord l its asv).take j).map (fun c => c.getD q zV) ++ [v] := by
              rw [List.take_add_one, hcg, List.map_append]
              simp [List.getD_eq_getElem?_getD, hv]
            have hrl2 : (r ++ ((colsW ord l its asv).take j).map fun c => c.getD q zV).length = r.length + j := by rw [List.length_append, List.length_map, List.length_take]; omega
            (conv => whnf); refine recO (by rw [Nat.zero_add]; exact rwC_at hcg) ?_
            (conv => whnf); refine And.intro (by omega) ?_
            (conv => whnf); refine recO (vC_at hv) ?_
            (conv => whnf); refine recT (by rw [vC_length, hrl2]; exact Nat.beq_refl _) ?_
            (conv => whnf); refine And.intro (⟨roomMul (by simp; omega) (by omega), roomB_le (by simp; omega), rfl, by rw [vC_length, hrl2]⟩) ?_
            conv => whnf
            have hL : (vC (r ++ ((colsW ord l its asv).take j).map fun c => c.getD q zV) ++ [valC v]).length = r.length + (j + 1) := by rw [List.length_append, vC_length, hrl2]; rfl
            refine ⟨m3 - 1, by omega, Gp.keep rfl ?_ fun ρ1 h => ⟨j + 1, by omega, ?_, h⟩⟩
            · exact ⟨rfl, rfl, rfl, rfl, rfl, rfl, slEq hL hL, rfl, rfl, rfl, rfl, rfl, rfl, rfl, rfl, intEq (wrapI _ (by omega) (by omega)), trivial⟩
            · have hfin : vC (r ++ ((colsW ord l its asv).take (j + 1)).map fun c => c.getD q zV) = vC (r ++ ((colsW ord l its asv).take j).map fun c => c.getD q zV) ++ [valC v] := by rw [hTj, ← List.append_assoc]; exact vC_append _ _
              rw [hfin]; rfl
          · simp at hlt4
            have hrow := rowW_at (C := colsW ord l its asv) hr1 hlt4
            have hPq : outW its asv ord (G.take k) ++ (outP its asv ord l).take (q + 1) = (outW its asv ord (G.take k) ++ (outP its asv ord l).take q) ++ [⟨r ++ ((colsW ord l its asv).take j).map (fun c => c.getD q zV), 1⟩] := by
              rw [List.take_add_one, hPg q hlt3, hrow, List.append_assoc]; rfl
            have hrl3 : (r ++ ((colsW ord l its asv).take j).map fun c => c.getD q zV).length = r.length + j := by rw [List.length_append, List.length_map, List.length_take]; omega
            (conv => whnf); refine recT (by rw [eC_length]; exact Nat.beq_refl _) ?_
            (conv => whnf); refine And.intro (⟨roomMul (by simp; omega) (by omega), roomB_le (by simp; omega), rfl, by rw [eC_length]⟩) ?_
            conv => whnf
            have hOl2 : (eC (outW its asv ord (G.take k) ++ (outP its asv ord l).take q) ++ [[AVal.sl 2 (r.length + j) 0 (r.length + j), .int .i64 1]]).length = (outW its asv ord (G.take k) ++ (outP its asv ord l).take (q + 1)).length := by rw [hPq, List.length_append, List.length_append, eC_length]; rfl
            refine ⟨m'' - 1, by omega, Gp.some (H1 := [.arr 2 (eC (outW its asv ord (G.take k) ++ (outP its asv ord l).take (q + 1))), .arr 1 (rwC (colsW ord l its asv))]) [0, 1] (by simp) ⟨⟨_, rfl, ?_⟩, ⟨⟨_, rfl, .same _ _ (pureEs_rwC _)⟩, trivial⟩⟩ rfl ?_ fun ρ1 h => ⟨q + 1, by omega, rfl, h⟩⟩
            · rw [hPq]
              exact obPushI (outW its asv ord (G.take k) ++ (outP its asv ord l).take q) (r ++ ((colsW ord l its asv).take j).map fun c => c.getD q zV) 1 (r.length + j) 2 [0, 1] _ (by simp) rfl hrl3.symm
            · exact ⟨clL .., clL .., clL .., pubSl (k := 0) rfl rfl hOl2 hOl2, .keep 1 _ _ _ 1 rfl, clL .., .closed _ rfl, .closed _ rfl, clL .., .closed _ rfl, pub_int (wrapI _ (by omega) (by omega)), trivial⟩
        · (conv => whnf); refine recT (by rw [rwC_length]; exact Nat.beq_refl _) ?_
          conv => whnf
          refine ⟨fun m3 ρ H1 => ∃ j : Nat, j + m3 = (colsW ord l its asv).length ∧ H1 = [.arr 2 (eC (outW its asv ord (G.take k) ++ (outP its asv ord l).take q)), .arr 1 (rwC (colsW ord l its asv)), .arr 3 (vC (r ++ ((colsW ord l its asv).take j).map fun c => c.getD q zV))] ∧ Sv 102 [(0, .list e1 5 (imC its)), (2, .list e3 1 (iC ord)), (3, .list e4 1 (iC asv)), (15, .sl 0 (outW its asv ord (G.take k) ++ (outP its asv ord l).take q).length 0 (outW its asv ord (G.take k) ++ (outP its asv ord l).take q).length), (18, .sl 1 (colsW ord l its asv).length 0 (colsW ord l its asv).length), (21, .int .i64 q), (22, .sl 2 (r.length + j) 0 (r.length + j)), (43, .list false 1 (ppC G)), (44, .int .i64 G.length), (45, .int .i64 k), (68, .list false 1 (rwC l)), (69, .int .i64 l.length), (70, .int .i64 q), (77, .sl 1 (colsW ord l its asv).length 0 (colsW ord l its asv).length), (78, .int .i64 (colsW ord l its asv).length), (79, .int .i64 j)] ρ, (colsW ord l its asv).length, [], ?_, ?_⟩
          · exact ⟨0, by omega, by simp, Sv.intro rfl ⟨rfl, rfl, rfl, rfl, rfl, rfl, rfl, rfl, rfl, rfl, rfl, rfl, rfl, rfl, rfl, rfl, trivial⟩⟩
          rintro m3 ρ H1 ⟨j, hj3, rfl, d, rfl⟩
          (conv => whnf); refine recA (fun hlt4 => ?_) (fun hlt4 => ?_)
          · simp at hlt4
            (conv => whnf); refine recT (by rw [rwC_length]; exact Nat.beq_refl _) ?_
            (conv => whnf); refine And.intro (by omega) ?_
            (conv => whnf); refine recT (by rw [rwC_length]; exact Nat.beq_refl _) ?_
            conv => whnf
            have hz := get_drop hlt4
            obtain ⟨c, hz2⟩ := hz
            have hcg := hz2.1
            have hcm := hz2.2.2
            have hcl := hCn c hcm
            have hz3 := get_drop (show q < c.length by omega)
            obtain ⟨v, hz4⟩ := hz3
            have hv := hz4.1
            have hTj : ((colsW ord l its asv).take (j + 1)).map (fun c => c.getD q zV) = ((colsW ord l its asv).take j).map (fun c => c.getD q zV) ++ [v] := by
              rw [List.take_add_one, hcg, List.map_append]
              simp [List.getD_eq_getElem?_getD, hv]
            have hrl2 : (r ++ ((colsW ord l its asv).take j).map fun c => c.getD q zV).length = r.length + j := by rw [List.length_append, List.length_map, List.length_take]; omega
            (conv => whnf); refine recO (by rw [Nat.zero_add]; exact rwC_at hcg) ?_
            (conv => whnf); refine And.intro (by omega) ?_
            (conv => whnf); refine recO (vC_at hv) ?_
            (conv => whnf); refine recT (by rw [vC_length, hrl2]; exact Nat.beq_refl _) ?_
            (conv => whnf); refine And.intro (⟨roomMul (by simp; omega) (by omega), roomB_le (by simp; omega), rfl, by rw [vC_length, hrl2]⟩) ?_
            conv => whnf
            have hL : (vC (r ++ ((colsW ord l its asv).take j).map fun c => c.getD q zV) ++ [valC v]).length = r.length + (j + 1) := by rw [List.length_append, vC_length, hrl2]; rfl
            refine ⟨m3 - 1, by omega, Gp.keep rfl ?_ fun ρ1 h => ⟨j + 1, by omega, ?_, h⟩⟩
            · exact ⟨rfl, rfl, rfl, rfl, rfl, rfl, slEq hL hL, rfl, rfl, rfl, rfl, rfl, rfl, rfl, rfl, intEq (wrapI _ (by omega) (by omega)), trivial⟩
            · have hfin : vC (r ++ ((colsW ord l its asv).take (j + 1)).map fun c => c.getD q zV) = vC (r ++ ((colsW ord l its asv).take j).map fun c => c.getD q zV) ++ [valC v] := by rw [hTj, ← List.append_assoc]; exact vC_append _ _
              rw [hfin]; rfl
          · simp at hlt4
            have hrow := rowW_at (C := colsW ord l its asv) hr1 hlt4
            have hPq : outW its asv ord (G.take k) ++ (outP its asv ord l).take (q + 1) = (outW its asv ord (G.take k) ++ (outP its asv ord l).take q) ++ [⟨r ++ ((colsW ord l its asv).take j).map (fun c => c.getD q zV), 1⟩] := by
              rw [List.take_add_one, hPg q hlt3, hrow, List.append_assoc]; rfl
            have hrl3 : (r ++ ((colsW ord l its asv).take j).map fun c => c.getD q zV).length = r.length + j := by rw [List.length_append, List.length_map, List.length_take]; omega
            (conv => whnf); refine recT (by rw [eC_length]; exact Nat.beq_refl _) ?_
            (conv => whnf); refine And.intro (⟨roomMul (by simp; omega) (by omega), roomB_le (by simp; omega), rfl, by rw [eC_length]⟩) ?_
            conv => whnf
            have hOl2 : (eC (outW its asv ord (G.take k) ++ (outP its asv ord l).take q) ++ [[AVal.sl 2 (r.length + j) 0 (r.length + j), .int .i64 1]]).length = (outW its asv ord (G.take k) ++ (outP its asv ord l).take (q + 1)).length := by rw [hPq, List.length_append, List.length_append, eC_length]; rfl
            refine ⟨m'' - 1, by omega, Gp.some (H1 := [.arr 2 (eC (outW its asv ord (G.take k) ++ (outP its asv ord l).take (q + 1))), .arr 1 (rwC (colsW ord l its asv))]) [0, 1] (by simp) ⟨⟨_, rfl, ?_⟩, ⟨⟨_, rfl, .same _ _ (pureEs_rwC _)⟩, trivial⟩⟩ rfl ?_ fun ρ1 h => ⟨q + 1, by omega, rfl, h⟩⟩
            · rw [hPq]
              exact obPushI (outW its asv ord (G.take k) ++ (outP its asv ord l).take q) (r ++ ((colsW ord l its asv).take j).map fun c => c.getD q zV) 1 (r.length + j) 2 [0, 1] _ (by simp) rfl hrl3.symm
            · exact ⟨clL .., clL .., clL .., pubSl (k := 0) rfl rfl hOl2 hOl2, .keep 1 _ _ _ 1 rfl, clL .., .closed _ rfl, .closed _ rfl, clL .., .closed _ rfl, pub_int (wrapI _ (by omega) (by omega)), trivial⟩
      · simp at hlt3
        rw [List.take_of_length_le (show (outP its asv ord l).length ≤ q by omega)] 
        conv => whnf
        refine ⟨m - 1, by omega, Gp.one 0 2 (eC (outW its asv ord (G.take k) ++ outP its asv ord l)) rfl (pureEs_eC _) rfl ?_ fun ρ1 h => ⟨k + 1, by omega, by rw [hO], by rw [hO]; exact h⟩⟩
        exact ⟨clL .., clL .., clL .., pubSl (k := 0) rfl rfl rfl rfl, clL .., .closed _ rfl, pub_int (wrapI _ (by omega) (by omega)), trivial⟩
  · simp at hlt
    have hkG : k = G.length := by omega
    have hTk : G.take k = G := List.take_of_length_le hlt
    have hO := hout k
    conv => whnf
    refine Ghost.none (n := 102) (live := [(15, .list false 2 (eC (outW its asv ord G)))]) rfl ⟨?_, trivial⟩ ?_
    · rw [hTk]
      exact pubF rfl (eC_length _).symm (eC_length _).symm (pureEs_eC _)
    rintro ρ ⟨d, rfl⟩
    rw [hTk] at hO
    (conv => whnf); refine ACalls.use (bag_Normalize_spec F.bag_Normalize hS false (outW its asv ord G) (by omega) _) ?_
    obtain ⟨u, v, huv⟩ := norR_tuple (outW its asv ord G)
    rw [huv.1]
    conv => whnf
    exact pub2 (.closed _ huv.2.1) (.closed _ huv.2.2)

end Go.AW

namespace Go.AW
variable [Draws]
theorem numV_valid (n : Int) : validB (numV n) = true := by
  unfold numV
  split
  · exact zV_valid
  · rename_i h
    simp [validB, bs]; omega

theorem atW_valid {l : List (List V)} (h : ∀ r ∈ l, r.all validB = true) (p a : Int) : validB (atW l p a) = true := by
  unfold atW
  split
  · rename_i hp
    refine celV_valid ?_ a
    have hlt : p.toNat < l.length := by omega
    rw [List.getD_eq_getElem?_getD, List.getElem?_eq_getElem hlt]
    exact h _ (List.getElem_mem _)
  · exact zV_valid

theorem valR_valid (x : Itm) {l : List (List V)} (h : ∀ r ∈ l, r.all validB = true) (ord : List Int) (a : Int) (p : Nat) : validB (valR x l ord a p) = true := by
  unfold valR winV
  repeat' split
  all_goals first | exact numV_valid _ | exact zV_valid | exact atW_valid h _ _

theorem valsR_valid (ord : List Int) {l : List (List V)} (h : ∀ r ∈ l, r.all validB = true) (p : Nat) : ∀ (its : List Itm) (asv : List Int), (valsR ord l p its asv).all validB = true
  | [], _ => by simp [valsR]
  | _ :: _, [] => by simp [valsR]
  | x :: xs, a :: asv => by rw [valsR, List.all_cons, valR_valid x h, valsR_valid ord h p xs asv]; rfl

theorem outR_valid {its : List Itm} {is ord asv : List Int} {R : List (List V)} {b : List Ent} (hR : ∀ r ∈ R, r.all validB = true) (hb : ∀ e ∈ b, e.row.all validB = true) {y : Ent} (h : y ∈ outR its is ord asv R b) : y.row.all validB = true := by
  obtain ⟨e, he, h1⟩ := List.mem_flatMap.1 h
  obtain ⟨n, _, rfl⟩ := List.mem_map.1 h1
  rw [rowX, List.all_append, hb e he, valsR_valid ord (fun r hr => hR r (mem_rows is ord e.row R hr))]; rfl

theorem fit_one {y : Ent} (hc : y.cnt = 1) (hv : y.row.all validB = true) : fitB y = if longB y = true then 2 else 0 := by
  unfold fitB longB
  rw [hc, hv]
  by_cases h : 12 < y.row.length
  · rw [if_pos (.inl h), if_pos (by simpa using h)]
  · rw [if_neg (by omega), if_pos rfl, if_neg (by simpa using h)]

theorem frmE_long : ∀ (l : List Ent), (∀ y ∈ l, fitB y = if longB y = true then 2 else 0) → frmE l = if l.any longB = true then 2 else 0
  | [], _ => rfl
  | x :: l, h => by
    rw [frmE, h x (List.mem_cons_self ..), frmE_long l fun y hy => h y (List.mem_cons_of_mem _ hy), List.any_cons]
    by_cases hx : longB x = true
    · rw [if_pos hx, hx]; simp
    · have hx : longB x = false := by simpa using hx
      rw [if_neg (by simp [hx]), hx]; simp

theorem any_perm {α : Type} {p : α → Bool} {a b : List α} (h : a.Perm b) : a.any p = b.any p := by
  rw [Bool.eq_iff_iff, List.any_eq_true, List.any_eq_true]
  exact ⟨fun ⟨x, hx, hp⟩ => ⟨x, h.mem_iff.1 hx, hp⟩, fun ⟨x, hx, hp⟩ => ⟨x, h.mem_iff.2 hx, hp⟩⟩

theorem app_ref (its : List Itm) (is ord asv : List Int) (b : List Ent) : appR its is ord asv b = tR (refP its is ord asv b) := by
  unfold appR refP
  by_cases h0 : (expP b).2 ≠ 0
  · rw [if_pos h0, if_pos h0, tR, if_pos h0]
  rw [if_neg h0, if_neg h0]
  by_cases hc : chkE its asv (expP b).1 ≠ 0
  · rw [if_pos hc, if_pos hc, tR, if_pos hc]
  rw [if_neg hc, if_neg hc]
  obtain ⟨hb0, hpos, hR⟩ := expP_ok (nz0 h0)
  have hvb : ∀ e ∈ b, e.row.all validB = true := fun e he => (bag_rowOk hb0 e he).2
  have hvR := expP_valid b
  have hp := out_perm its is ord asv (bag_srt hb0) hvb hpos
  rw [← hR] at hp
  have hfit : ∀ y ∈ outW its asv ord (parL is ord (expP b).1), fitB y = if longB y = true then 2 else 0 := fun y hy => by
    have hy := hp.mem_iff.1 hy
    exact fit_one (outR_cnt hy) (outR_valid hvR hvb hy)
  rw [norR_P, norP, frmE_long _ hfit, any_perm hp]
  by_cases hl : (outR its is ord asv (expP b).1 b).any longB = true
  · simp [hl]
  · have hl : (outR its is ord asv (expP b).1 b).any longB = false := by simpa using hl
    simp only [hl]
    have := sumP_ext (cntL_perm hp)
    simp [this]

theorem refP_good (its : List Itm) (is ord asv : List Int) (b : List Ent) : Good (refP its is ord asv b) := by
  unfold refP
  split
  · exact good_err _
  · rename_i h0
    split
    · exact good_err _
    · split
      · exact good_err _
      · rename_i hl
        obtain ⟨hb0, _, _⟩ := expP_ok (nz0 h0)
        refine sumP_good fun y hy => ⟨?_, outR_valid (expP_valid b) (fun e he => (bag_rowOk hb0 e he).2) hy⟩
        exact (outR_ok (by simpa using hl) hy).1

section
variable {P : Program}
theorem window_Apply_w (F : F_window_Apply P) (hR : SortR P F.window_partitions.slices_SortFunc_LLValue_LValue.id F.window_partitions.window_partitions_1.id) (hS : SortL P F.bag_Normalize)
    (e1 e2 e3 e4 e5 : Bool) (its : List Itm) (is ord asv : List Int) (b : List Ent) (hI : its.length ≤ 1000) (hi : is.length ≤ 10000) (ho : ord.length ≤ 10000) (hA : asv.length ≤ 1000000) (H : List AObj) :
    ACalls P F.id [.list e1 5 (imC its), .list e2 1 (iC is), .list e3 1 (iC ord), .list e4 1 (iC asv), .list e5 2 (eC b)] H (fun r H' => r = rV (refP its is ord asv b) ∧ H' = H) :=
  (window_Apply_spec F hR hS e1 e2 e3 e4 e5 its is ord asv b hI hi ho hA H).goodW (app_ref its is ord asv b) (refP_good its is ord asv b)

theorem ref17_Apply_w (F : F_warehouseref17_Apply P) (e1 e2 e3 e4 e5 : Bool) (its : List Itm) (is ord asv : List Int) (b : List Ent) (hI : its.length ≤ 1000) (hi : is.length ≤ 10000) (ho : ord.length ≤ 10000) (hA : asv.length ≤ 1000000) (H : List AObj) :
    ACalls P F.id [.list e1 5 (imC its), .list e2 1 (iC is), .list e3 1 (iC ord), .list e4 1 (iC asv), .list e5 2 (eC b)] H (fun r H' => r = rV (refP its is ord asv b) ∧ H' = H) :=
  (ref17_Apply_spec F e1 e2 e3 e4 e5 its is ord asv b hI hi ho hA H).goodW rfl (refP_good its is ord asv b)

end
end Go.AW

namespace Go.AW
variable [Draws]
attribute [local irreducible] ACalls
def itmN (x : Itm) : List AVal := [.str x.nm, .int .i64 x.f, .str x.cl, .int .i64 x.n, .nil]

def imN (l : List Itm) : List (List AVal) := l.map itmN

theorem wk_items (b : Bool) (l : List Itm) (h : ∀ x ∈ l, x.es = []) : WkD (.list b 5 (imN l)) (.list b 5 (imC l)) := by
  refine .list b b 5 _ _ (fun h => h) (by simp [imN, imC]) (fun i e f h1 h2 => ?_) (fun i j f c h1 h2 => ?_) (fun i j e f d c h1 h2 h3 h4 => ?_)
  · rw [imN, List.getElem?_map] at h1
    rw [imC, List.getElem?_map] at h2
    cases hx : l[i]? with
    | none => rw [hx] at h1; cases h1
    | some x => rw [hx] at h1 h2; cases h1; cases h2; rfl
  · rw [imC, List.getElem?_map] at h1
    cases hx : l[i]? with
    | none => rw [hx] at h1; cases h1
    | some x =>
      rw [hx] at h1; cases h1
      exact List.all_eq_true.1 (itmC_cell x) c (List.mem_of_getElem? h2)
  · rw [imN, List.getElem?_map] at h1
    rw [imC, List.getElem?_map] at h2
    cases hx : l[i]? with
    | none => rw [hx] at h1; cases h1
    | some x =>
      rw [hx] at h1 h2; cases h1; cases h2
      match j, h3, h4 with
      | 0, h3, h4 => cases h3; cases h4; exact .refl _
      | 1, h3, h4 => cases h3; cases h4; exact .refl _
      | 2, h3, h4 => cases h3; cases h4; exact .refl _
      | 3, h3, h4 => cases h3; cases h4; exact .refl _
      | 4, h3, h4 =>
        cases h3; cases h4
        rw [h x (List.mem_of_getElem? hx)]
        exact .nil _ _
      | j + 5, h3, h4 => simp [itmN] at h3

def itm0 (f n : Int) : Itm := ⟨bs [], f, bs [], n, false, 0, []⟩

def oneV (n : Int) : V := ⟨2, n, bs []⟩

def kn18 : List Ent := [⟨[oneV 1], 2⟩, ⟨[oneV 2], 1⟩]

theorem kn18_ref : refP [itm0 9 0, itm0 8 0] [] [0] [-1, -1] kn18 = ([⟨[oneV 1, oneV 1, oneV 1], 1⟩, ⟨[oneV 1, oneV 1, oneV 2], 1⟩, ⟨[oneV 2, oneV 3, oneV 3], 1⟩], 0) := by kernel_rfl

abbrev SortW (P : Program) (F : F_window_Apply P) : Prop := SortR P F.window_partitions.slices_SortFunc_LLValue_LValue.id F.window_partitions.window_partitions_1.id

set_option maxRecDepth 20000 in
theorem known18_spec {P : Program} (F : F_warehouselaw18_known P) (hS : SortL P F.window_Apply.bag_Normalize) (hQ : SortW P F.window_Apply) (H : List AObj) :
    ACalls P F.id [] H (fun r H' => r = .bool true ∧ H' = H) := by
  refine ACalls.pure rfl (acalls_of_body F.has ?_)
  have ha := fun H => window_Apply_w F.window_Apply hQ hS true false true true false [itm0 9 0, itm0 8 0] [] [0] [-1, -1] kn18 (by decide) (by decide) (by decide) (by decide) H
  rw [kn18_ref] at ha
  have hb := fun H => ACalls.weakD (args := [.list true 5 (imN [itm0 9 0, itm0 8 0]), .nil, .list true 1 (iC [0]), .list true 1 (iC [-1, -1]), .list true 2 [[.list true 3 (vC [oneV 1]), .int .i64 2], [.list true 3 (vC [oneV 2]), .int .i64 1]]]) (ha H) (.cons (wk_items _ _ (by intro x hx; simp at hx; rcases hx with rfl | rfl <;> rfl)) (.cons (.nil _ _) (.cons (.refl _) (.cons (.refl _) (.cons (eT_wk true kn18) .nil)))))
  (conv => whnf); refine ACalls.use (hb _) ?_
  repeat ((conv => whnf); refine And.intro (by decide) ?_)
  conv => whnf
  exact .closed _ rfl

end Go.AW

namespace Go.AW
variable [Draws]
attribute [local irreducible] ACalls
theorem pureEs_imN (l : List Itm) : pureEs (imN l) = true := by simp [pureEs, imN, itmN, AVal.isPure]

theorem Row_frz {P : Program} (F : F_warehousebase_Row P) (e1 e2 : Bool) (cs : List Col) (l : List Int) (i : Int) (hc : cs.length ≤ 1000) (hi : 0 ≤ i ∧ i ≤ 1000000) (H : List AObj) :
    ACalls P F.id [.list e1 3 (cC cs), .list e2 1 (iC l), .int .i64 i] H (fun r H' => r = .list false 3 (vC (rowC cs l i)) ∧ H' = H) :=
  ACalls.frz1 (by simp [AVal.closed, AVal.isPure]) (Row_raw F e1 e2 cs l i hc hi) (by rw [vC_length, rowC_length]) (pureEs_vC _)

def cntG (l : List Int) (i : Int) : Int := if (atV l (5 * i + 4)).tmod 5 = 0 then 1 + ((atV l (5 * i + 4)).tdiv 5).tmod 3 else 1

def entG (cs : List Col) (l : List Int) (i : Nat) : Ent := ⟨rowC cs l (5 * (i : Int)), cntG l i⟩

def rowsG (cs : List Col) (l : List Int) (n : Nat) : List Ent := (List.range n).map (entG cs l)

theorem rowsG_length (cs : List Col) (l : List Int) (n : Nat) : (rowsG cs l n).length = n := by simp [rowsG]

theorem rowsG_snoc (cs : List Col) (l : List Int) (n : Nat) : rowsG cs l (n + 1) = rowsG cs l n ++ [entG cs l n] := by simp [rowsG, List.range_succ]

theorem atV_nn (l : List Int) (i : Int) : 0 ≤ atV l i ∧ atV l i ≤ 200000 := by
  have h0 : 0 ≤ and64 i 65535 ∧ and64 i 65535 ≤ 65535 := by rw [and_ffff]; omega
  unfold atV
  split
  · omega
  · rename_i h
    generalize hx : l.getD ((and64 i 65535).tmod l.length).toNat 0 = x
    have h1 : 0 ≤ and64 x 65535 ∧ and64 x 65535 ≤ 65535 := by rw [and_ffff]; omega
    have h2 : 0 ≤ (and64 i 65535).tdiv l.length ∧ (and64 i 65535).tdiv l.length ≤ 65535 := by
      have e : (and64 i 65535).tdiv l.length = (and64 i 65535) / (l.length : Int) := Int.tdiv_eq_ediv_of_nonneg h0.1
      rw [e]
      refine ⟨Int.ediv_nonneg h0.1 (by omega), ?_⟩
      exact Int.le_trans (Int.ediv_le_self _ h0.1) h0.2
    rw [wrapI ((and64 i 65535).tdiv l.length) (by omega) (by omega), wrapI _ (by omega) (by omega)]
    omega

theorem cntG_pos (l : List Int) (i : Int) : 1 ≤ cntG l i ∧ cntG l i ≤ 3 := by
  have h := atV_nn l (5 * i + 4)
  unfold cntG
  split
  · have e1 : (atV l (5 * i + 4)).tdiv 5 = atV l (5 * i + 4) / 5 := Int.tdiv_eq_ediv_of_nonneg h.1
    have e2 : (atV l (5 * i + 4) / 5).tmod 3 = (atV l (5 * i + 4) / 5) % 3 := Int.tmod_eq_emod_of_nonneg (by omega)
    rw [e1, e2]; omega
  · omega

def cs18 : List Col := [⟨bs [97], 2, true⟩, ⟨bs [98], 3, false⟩, ⟨bs [99], 2, true⟩]

def tab18 (l : List Int) (n : Nat) : List Ent := (norP (rowsG cs18 l n)).1

def plc18 (n : Int) : List Int := [[], [0], [1], [2], [0, 1], [1, 2], [2, 0], [1, 7]].getD (and64 n 7).toNat []

theorem plc18_len (n : Int) : (plc18 n).length ≤ 2 := by
  obtain ⟨k, hk, e⟩ := and7 n
  rw [plc18, e]
  match k, hk with
  | 0, _ => decide
  | 1, _ => decide
  | 2, _ => decide
  | 3, _ => decide
  | 4, _ => decide
  | 5, _ => decide
  | 6, _ => decide
  | 7, _ => decide
  | k + 8, h => omega

theorem wkTF (x y : Bool) (h : y = true → x = true) (l : List Int) : WkD (.list x 1 (iC l)) (.list y 1 (iC l)) := by
  refine .list x y 1 _ _ h rfl (fun i e f h1 h2 => by rw [h1] at h2; cases h2; rfl) (fun i j f c h1 h2 => ?_) (fun i j e f d c h1 h2 h3 h4 => by rw [h1] at h2; cases h2; rw [h3] at h4; cases h4; exact .refl _)
  exact AVal.isCell_of_isPure (pureEs_get (pureEs_iC l) h1 h2)

def plcC : List (List AVal) := [[.nil], [.list true 1 (iC [0])], [.list true 1 (iC [1])], [.list true 1 (iC [2])], [.list true 1 (iC [0, 1])], [.list true 1 (iC [1, 2])], [.list true 1 (iC [2, 0])], [.list true 1 (iC [1, 7])]]

theorem plcC_at (n : Int) : ∃ X : AVal, plcC[(and64 n 7).toNat]? = some [X] ∧ X.closed = true ∧ WkD X (.list false 1 (iC (plc18 n))) := by
  obtain ⟨k, hk, e⟩ := and7 n
  rw [plc18, e]
  rcases k with _ | _ | _ | _ | _ | _ | _ | _ | k
  · exact ⟨_, rfl, rfl, .nil _ _⟩
  · exact ⟨_, rfl, rfl, wkTF _ _ (by simp) [0]⟩
  · exact ⟨_, rfl, rfl, wkTF _ _ (by simp) [1]⟩
  · exact ⟨_, rfl, rfl, wkTF _ _ (by simp) [2]⟩
  · exact ⟨_, rfl, rfl, wkTF _ _ (by simp) [0, 1]⟩
  · exact ⟨_, rfl, rfl, wkTF _ _ (by simp) [1, 2]⟩
  · exact ⟨_, rfl, rfl, wkTF _ _ (by simp) [2, 0]⟩
  · exact ⟨_, rfl, rfl, wkTF _ _ (by simp) [1, 7]⟩
  · omega

theorem places18_spec {P : Program} (F : F_warehouselaw18_places P) (n : Int) (H : List AObj) :
    ACalls P F.id [.int .i64 n] H (fun r H' => r = .list false 1 (iC (plc18 n)) ∧ H' = H) := by
  obtain ⟨X, hX, hcl, hwk⟩ := plcC_at n
  have hnn : 0 ≤ and64 n 7 := by rw [and_7]; omega
  refine ACalls.weakRD (Q := fun r H' => r = X ∧ H' = H) (ACalls.pure rfl (acalls_of_body F.has ?_)) (by rintro r H' ⟨rfl, rfl⟩; exact ⟨_, hwk, rfl, rfl⟩)
  conv => whnf
  refine And.intro hnn ?_
  (conv => whnf); refine recO (hX) ?_
  conv => whnf
  exact .closed _ hcl

def fun18 : List Int := [1, 3, 8, 9, 10, 11, 12, 13]

def k18 (m : Int) (i : Nat) : Int := m.fdiv (2 ^ (2 + 6 * i))

def itm18 (m : Int) (i : Nat) : Itm := itm0 (fun18.getD (and64 (k18 m i) 7).toNat 0) (if fun18.getD (and64 (k18 m i) 7).toNat 0 = 10 ∨ fun18.getD (and64 (k18 m i) 7).toNat 0 = 11 then 1 + and64 ((k18 m i).fdiv (2 ^ 3)) 3 else 0)

def arg18 (m : Int) (i : Nat) : Int := 2 * and64 ((k18 m i).fdiv (2 ^ 4)) 1

def cnt18 (m : Int) : Nat := (1 + and64 m 1 + and64 (m.fdiv (2 ^ 1)) 1).toNat

def its18 (m : Int) : List Itm := (List.range (cnt18 m)).map (itm18 m)

def ags18 (m : Int) : List Int := (List.range (cnt18 m)).map (arg18 m)

theorem cnt18_le (m : Int) : 1 ≤ cnt18 m ∧ cnt18 m ≤ 3 := by
  unfold cnt18
  rw [and_1, and_1]; omega

theorem its18_length (m : Int) : (its18 m).length = cnt18 m := by simp [its18]

theorem ags18_length (m : Int) : (ags18 m).length = cnt18 m := by simp [ags18]

theorem fun18_at (k : Int) : (iC fun18)[(and64 k 7).toNat]? = some [.int .i64 (fun18.getD (and64 k 7).toNat 0)] := by
  have h : (and64 k 7).toNat < 8 := by rw [and_7]; omega
  exact iC_get h

theorem items18_raw {P : Program} (F : F_warehouselaw18_items P) (m : Int) :
    ACalls P F.id [.int .i64 m] [] (fun r H' => r = .tuple [.sl 0 (cnt18 m) 0 (cnt18 m), .sl 1 (cnt18 m) 0 (cnt18 m)] ∧ ∃ G, H' = [.arr 5 (imN (its18 m)), .arr 1 (iC (ags18 m))] ++ G) := by
  refine acalls_of_body F.has ?_
  conv => whnf
  refine ⟨fun q ρ H1 => ∃ k : Nat, k + q = cnt18 m ∧ H1 = [.arr 5 (imN ((List.range k).map (itm18 m))), .arr 1 (iC ((List.range k).map (arg18 m)))] ∧ Sv 60 [(0, .int .i64 m), (4, .sl 0 k 0 k), (5, .sl 1 k 0 k), (6, .list true 1 (iC fun18)), (7, .int .i64 k)] ρ, cnt18 m, [(4, 5), (5, 1)], ?_, ?_⟩
  · exact ⟨0, by omega, rfl, Sv.intro rfl ⟨rfl, rfl, rfl, rfl, rfl, trivial⟩⟩
  rintro q ρ H1 ⟨k, hk, rfl, d, rfl⟩
  have h01 : ∀ a : Int, 0 ≤ and64 a 1 ∧ and64 a 1 ≤ 1 := fun a => by rw [and_1]; omega
  have h03 : ∀ a : Int, 0 ≤ and64 a 3 ∧ and64 a 3 ≤ 3 := fun a => by rw [and_3]; omega
  have h07 : ∀ a : Int, 0 ≤ and64 a 7 ∧ and64 a 7 ≤ 7 := fun a => by rw [and_7]; omega
  have ec : IntKind.i64.wrap (IntKind.i64.wrap (1 + and64 m 1) + and64 (m.fdiv (2 ^ 1)) 1) = cnt18 m := by
    have h1 := h01 m
    have h2 := h01 (m.fdiv (2 ^ 1))
    rw [wrapI (1 + and64 m 1) (by omega) (by omega), wrapI _ (by omega) (by omega), cnt18]; omega
  have hcl := cnt18_le m
  (conv => whnf); refine And.intro (by decide) ?_
  (conv => whnf); refine recA (fun hlt => ?_) (fun hlt => ?_)
  · replace hlt : decide ((k : Int) < IntKind.i64.wrap (IntKind.i64.wrap (1 + and64 m 1) + and64 (m.fdiv (2 ^ 1)) 1)) = true := hlt
    rw [ec] at hlt
    simp at hlt
    have eb : IntKind.u64.wrap (IntKind.i64.wrap (2 + IntKind.i64.wrap (6 * (k : Int)))) = 2 + 6 * (k : Int) := by
      rw [wrapI (6 * (k : Int)) (by omega) (by omega), wrapI _ (by omega) (by omega)]
      simp [IntKind.wrap, IntKind.bits, IntKind.signed]; omega
    conv => whnf
    rw [eb]
    have ek : m.fdiv (2 ^ (min (2 + 6 * (k : Int)).toNat IntKind.i64.bits)) = k18 m k := by
      rw [k18, show min (2 + 6 * (k : Int)).toNat IntKind.i64.bits = 2 + 6 * k from by show min _ 64 = _; omega]
    rw [ek]
    generalize hK : k18 m k = K
    have hF : and64 (k18 m k) 7 = and64 K 7 := by rw [hK]
    refine And.intro (by omega) ?_
    conv => whnf
    refine And.intro (h07 K).1 ?_
    (conv => whnf); refine recO (fun18_at K) ?_
    have hfl : ∀ f x, fun18.getD (and64 K 7).toNat 0 = f → (if f = 10 ∨ f = 11 then 1 + and64 (K.fdiv (2 ^ 3)) 3 else 0) = x → imN ((List.range (k + 1)).map (itm18 m)) = imN ((List.range k).map (itm18 m)) ++ [itmN (itm0 f x)] := by
      intro f x h1 h2
      rw [List.range_succ, List.map_append, imN, List.map_append]
      simp only [List.map_cons, List.map_nil, itm18, hK, h1, h2]
      rfl
    have hal : iC ((List.range (k + 1)).map (arg18 m)) = iC ((List.range k).map (arg18 m)) ++ [[.int .i64 (2 * and64 (K.fdiv (2 ^ 4)) 1)]] := by
      rw [List.range_succ, List.map_append, iC, List.map_append]
      simp only [List.map_cons, List.map_nil, arg18, hK]
      rfl
    have hl1 : (imN ((List.range k).map (itm18 m))).length = k := by simp [imN]
    have hl2 : (iC ((List.range k).map (arg18 m))).length = k := by simp [iC]
    generalize hf : fun18.getD (and64 K 7).toNat 0 = f at *
    have e6 : ∀ x : Int, 0 ≤ x → x ≤ 1 → IntKind.i64.wrap (2 * x) = 2 * x := fun x h1 h2 => wrapI _ (by omega) (by omega)
    have hm1 := h01 (K.fdiv (2 ^ 4))
    by_cases h10 : f = 10 ∨ f = 11
    · have hm3 := h03 (K.fdiv (2 ^ 3))
      have e7 : IntKind.i64.wrap (1 + and64 (K.fdiv (2 ^ 3)) 3) = 1 + and64 (K.fdiv (2 ^ 3)) 3 := wrapI _ (by omega) (by omega)
      have hfl2 := hfl f (IntKind.i64.wrap (1 + and64 (K.fdiv (2 ^ 3)) 3)) rfl (by rw [if_pos h10, e7])
      rcases h10 with h10 | h10
      all_goals
        repeat ((conv => whnf); first | refine And.intro (by omega) ?_ | refine recT (by first | rfl | (simp; done) | (simp; omega)) ?_ | refine recF (by first | rfl | (simp; done) | (simp; omega)) ?_)
        (conv => whnf)
        refine And.intro ⟨by show _ ≤ 1099511627776; simp; omega, by show _ ≤ 1099511627776; simp; omega, rfl, hl1.symm⟩ ?_
        (conv => whnf); refine And.intro (by decide) ?_
        (conv => whnf); refine recT (by rw [hl2]; exact Nat.beq_refl _) ?_
        (conv => whnf)
        refine And.intro ⟨by show _ ≤ 1099511627776; simp; omega, by show _ ≤ 1099511627776; simp; omega, rfl, hl2.symm⟩ ?_
        (conv => whnf)
        have hL1 : ∀ y : List AVal, (imN ((List.range k).map (itm18 m)) ++ [y]).length = k + 1 := fun y => by rw [List.length_append, hl1]; rfl
        have hL2 : ∀ y : List AVal, (iC ((List.range k).map (arg18 m)) ++ [y]).length = k + 1 := fun y => by rw [List.length_append, hl2]; rfl
        refine ⟨q - 1, by omega, Gp.first 2 [.arr 5 (imN ((List.range (k + 1)).map (itm18 m))), .arr 1 (iC ((List.range (k + 1)).map (arg18 m)))] ?_ rfl (by simp [pureO, pureEs_iC, pureEs_imN]) rfl ?_ fun ρ1 h => ⟨k + 1, by omega, rfl, h⟩⟩
        · rw [hfl2, hal, ← e6 _ hm1.1 hm1.2]; rfl
        · exact ⟨.closed _ rfl, pubSl (k := 0) rfl rfl (hL1 _) (hL1 _), pubSl (k := 1) rfl rfl (hL2 _) (hL2 _), clL .., pub_int (wrapI _ (by omega) (by omega)), trivial⟩
    · have hfl2 := hfl f 0 rfl (by rw [if_neg h10])
      repeat ((conv => whnf); first | refine And.intro (by omega) ?_ | refine recT (by first | rfl | (simp; done) | (simp; omega)) ?_ | refine recF (by first | rfl | (simp; done) | (simp; omega)) ?_)
      conv => whnf
      refine And.intro ⟨by show _ ≤ 1099511627776; simp; omega, by show _ ≤ 1099511627776; simp; omega, rfl, hl1.symm⟩ ?_
      (conv => whnf); refine And.intro (by decide) ?_
      (conv => whnf); refine recT (by rw [hl2]; exact Nat.beq_refl _) ?_
      (conv => whnf)
      refine And.intro ⟨by show _ ≤ 1099511627776; simp; omega, by show _ ≤ 1099511627776; simp; omega, rfl, hl2.symm⟩ ?_
      (conv => whnf)
      have hL1 : ∀ y : List AVal, (imN ((List.range k).map (itm18 m)) ++ [y]).length = k + 1 := fun y => by rw [List.length_append, hl1]; rfl
      have hL2 : ∀ y : List AVal, (iC ((List.range k).map (arg18 m)) ++ [y]).length = k + 1 := fun y => by rw [List.length_append, hl2]; rfl
      refine ⟨q - 1, by omega, Gp.first 2 [.arr 5 (imN ((List.range (k + 1)).map (itm18 m))), .arr 1 (iC ((List.range (k + 1)).map (arg18 m)))] ?_ rfl (by simp [pureO, pureEs_iC, pureEs_imN]) rfl ?_ fun ρ1 h => ⟨k + 1, by omega, rfl, h⟩⟩
      · rw [hfl2, hal, ← e6 _ hm1.1 hm1.2]; rfl
      · exact ⟨.closed _ rfl, pubSl (k := 0) rfl rfl (hL1 _) (hL1 _), pubSl (k := 1) rfl rfl (hL2 _) (hL2 _), clL .., pub_int (wrapI _ (by omega) (by omega)), trivial⟩
  · replace hlt : decide ((k : Int) < IntKind.i64.wrap (IntKind.i64.wrap (1 + and64 m 1) + and64 (m.fdiv (2 ^ 1)) 1)) = false := hlt
    rw [ec] at hlt
    simp at hlt
    have hkc : k = cnt18 m := by omega
    subst hkc
    conv => whnf
    exact ⟨rfl, [], rfl⟩

end Go.AW

namespace Go.AW
variable [Draws]
attribute [local irreducible] ACalls
theorem wsum_append (φ : List V → Int) : ∀ (a b : List Ent), wsum φ (a ++ b) = wsum φ a + wsum φ b
  | [], b => by simp [wsum]
  | e :: a, b => by rw [List.cons_append, wsum, wsum, wsum_append φ a b]; omega

theorem wsum_srtM (φ : List V → Int) : ∀ (n : Nat) (l : List Ent), wsum φ (srtM n l) = wsum φ l
  | 0, _ => rfl
  | n + 1, l => by
    rw [srtM]
    split
    · rfl
    · rw [wsum_mrg, wsum_srtM φ n, wsum_srtM φ n, ← wsum_append, List.take_append_drop]

theorem wsum_sumP {l : List Ent} (h : (sumP l).2 = 0) (φ : List V → Int) : wsum φ (sumP l).1 = wsum φ l := by
  unfold sumP resP at h ⊢
  split
  · rw [wsum_nz, wsum_srtM]
  · rename_i h1; rw [if_neg h1] at h; cases h

theorem cntL_pos : ∀ (l : List Ent), (∀ e ∈ l, 0 < e.cnt) → ∀ r, 0 ≤ cntL l r
  | [], _, r => by simp [cntL]
  | e :: l, h, r => by
    have h1 := cntL_pos l (fun x hx => h x (List.mem_cons_of_mem _ hx)) r
    have h2 := h e (List.mem_cons_self ..)
    rw [cntL]; split <;> omega

end Go.AW

namespace Go.AW
variable [Draws]
attribute [local irreducible] ACalls
theorem wsum_rowsG (cs : List Col) (l : List Int) : ∀ n, 0 ≤ wsum (fun _ => 1) (rowsG cs l n) ∧ wsum (fun _ => 1) (rowsG cs l n) ≤ 3 * (n : Int)
  | 0 => by simp [rowsG, wsum]
  | n + 1 => by
    have h := cntG_pos l n
    have ih := wsum_rowsG cs l n
    rw [rowsG_snoc, wsum_append]
    have e : wsum (fun _ => 1) [entG cs l n] = cntG l n := by simp [wsum, entG]
    rw [e]; omega

end Go.AW

namespace Go.AW
variable [Draws]
attribute [local irreducible] ACalls
def sb (o : List Ent) (i q : Nat) : Bool := (o.take i).any fun e => (e.row.getD 3 zV).num == (q : Int)

end Go.AW

namespace Go.AW
variable [Draws]
attribute [local irreducible] ACalls
set_option maxRecDepth 20000 in
theorem Rows_raw {P : Program} (F : F_warehousebase_Rows P) (e1 e2 : Bool) (cs : List Col) (l : List Int) (n : Nat) (hc : cs.length ≤ 1000) (hn : n ≤ 1000) (h0 : (norP (rowsG cs l n)).2 = 0) :
    ACalls P F.id [.list e1 3 (cC cs), .list e2 1 (iC l), .int .i64 n] [] (fun r H' => r = .sl 0 (norP (rowsG cs l n)).1.length 0 (norP (rowsG cs l n)).1.length ∧ H' = [.arr 2 (eC (norP (rowsG cs l n)).1)]) := by
  refine acalls_of_body F.has ?_
  conv => whnf
  refine ⟨fun m ρ H1 => ∃ k : Nat, k + m = n ∧ H1 = [.arr 2 (eC (rowsG cs l k))] ∧ Sv 46 [(0, .list e1 3 (cC cs)), (1, .list e2 1 (iC l)), (2, .int .i64 n), (7, .sl 0 k 0 k), (8, .int .i64 k)] ρ, n, [(7, 2)], ?_, ?_⟩
  · exact ⟨0, by omega, rfl, Sv.intro rfl ⟨rfl, rfl, rfl, rfl, rfl, trivial⟩⟩
  rintro m ρ H1 ⟨k, hk, rfl, d, rfl⟩
  (conv => whnf); refine recA (fun hlt => ?_) (fun hlt => ?_)
  · simp at hlt
    have ew : IntKind.i64.wrap (IntKind.i64.wrap (5 * (k : Int)) + 4) = 5 * (k : Int) + 4 := by rw [wrapI (5 * (k : Int)) (by omega) (by omega), wrapI _ (by omega) (by omega)]
    have ew2 : IntKind.i64.wrap (5 * (k : Int)) = 5 * (k : Int) := wrapI _ (by omega) (by omega)
    have hat := atV_nn l (5 * (k : Int) + 4)
    have hcp := cntG_pos l k
    have hT : ∀ c, cntG l k = c → eC (rowsG cs l (k + 1)) = eC (rowsG cs l k) ++ [[.list false 3 (vC (rowC cs l (5 * (k : Int)))), .int .i64 c]] := fun c h => by rw [rowsG_snoc, eC_append, ← h]; rfl
    have hL : ∀ c, (eC (rowsG cs l k) ++ [[AVal.list false 3 (vC (rowC cs l (5 * (k : Int)))), .int .i64 c]]).length = k + 1 := fun c => by rw [List.length_append, eC_length, rowsG_length]; rfl
    have hrl : (eC (rowsG cs l k)).length = k := by rw [eC_length, rowsG_length]
    (conv => whnf); refine ACalls.use (At_spec F.warehousebase_At e2 l _ _) ?_
    rw [ew]
    (conv => whnf); refine And.intro (by decide) ?_
    (conv => whnf); refine recA (fun h5 => ?_) (fun h5 => ?_)
    · simp at h5
      (conv => whnf); refine And.intro (by decide) ?_
      (conv => whnf); refine And.intro (by decide) ?_
      (conv => whnf); refine ACalls.use (Row_frz F.warehousebase_Row e1 e2 cs l _ hc (by rw [ew2]; omega) _) ?_
      rw [ew2]
      have hce : cntG l k = IntKind.i64.wrap (1 + (IntKind.i64.wrap ((atV l (5 * (k : Int) + 4)).tdiv 5)).tmod 3) := by
        have e1 : (atV l (5 * (k : Int) + 4)).tdiv 5 = atV l (5 * (k : Int) + 4) / 5 := Int.tdiv_eq_ediv_of_nonneg hat.1
        have e2 : (atV l (5 * (k : Int) + 4) / 5).tmod 3 = (atV l (5 * (k : Int) + 4) / 5) % 3 := Int.tmod_eq_emod_of_nonneg (by omega)
        rw [e1, wrapI (atV l (5 * (k : Int) + 4) / 5) (by omega) (by omega), e2, wrapI _ (by omega) (by omega), cntG, if_pos h5, e1, e2]
      (conv => whnf); refine recT (by rw [hrl]; exact Nat.beq_refl _) ?_
      (conv => whnf); refine And.intro (⟨roomMul (by simp [rowsG_length]; omega) (by omega), roomB_le (by simp [rowsG_length]; omega), rfl, hrl.symm⟩) ?_
      conv => whnf
      refine ⟨m - 1, by omega, Gp.one 0 2 (eC (rowsG cs l (k + 1))) (by rw [hT _ hce]; rfl) (pureEs_eC _) rfl ?_ fun ρ1 h => ⟨k + 1, by omega, rfl, h⟩⟩
      exact ⟨clL .., clL .., .closed _ rfl, pubSl (k := 0) rfl rfl (hL _) (hL _), pub_int (wrapI _ (by omega) (by omega)), trivial⟩
    · simp at h5
      (conv => whnf); refine ACalls.use (Row_frz F.warehousebase_Row e1 e2 cs l _ hc (by rw [ew2]; omega) _) ?_
      rw [ew2]
      have hce : cntG l k = 1 := by rw [cntG, if_neg h5]
      (conv => whnf); refine recT (by rw [hrl]; exact Nat.beq_refl _) ?_
      (conv => whnf); refine And.intro (⟨roomMul (by simp [rowsG_length]; omega) (by omega), roomB_le (by simp [rowsG_length]; omega), rfl, hrl.symm⟩) ?_
      conv => whnf
      refine ⟨m - 1, by omega, Gp.one 0 2 (eC (rowsG cs l (k + 1))) (by rw [hT _ hce]; rfl) (pureEs_eC _) rfl ?_ fun ρ1 h => ⟨k + 1, by omega, rfl, h⟩⟩
      exact ⟨clL .., clL .., .closed _ rfl, pubSl (k := 0) rfl rfl (hL _) (hL _), pub_int (wrapI _ (by omega) (by omega)), trivial⟩
  · simp at hlt
    have hkn : k = n := by omega
    subst hkn
    conv => whnf
    refine Ghost.none (n := 46) (live := [(7, .list false 2 (eC (rowsG cs l k)))]) rfl ⟨pubF rfl (by rw [eC_length, rowsG_length]) (by rw [eC_length, rowsG_length]) (pureEs_eC _), trivial⟩ ?_
    rintro ρ ⟨d, rfl⟩
    conv => whnf
    refine ACalls.mono (ref6_Normalize_raw F.warehouseref6_Normalize false (rowsG cs l k) (by rw [rowsG_length]; omega) h0) ?_
    rintro r H1 ⟨rfl, rfl⟩
    conv => whnf
    exact ⟨rfl, rfl⟩

theorem cellV_valid (c : Col) (n : Int) : validB (cellV c n) = true := by
  unfold cellV
  split
  · exact zV_valid
  · exact valueV_valid _ _

theorem rowC_valid : ∀ (cs : List Col) (l : List Int) (i : Int), (rowC cs l i).all validB = true
  | [], _, _ => rfl
  | c :: cs, l, i => by rw [rowC, List.all_cons, cellV_valid, rowC_valid cs]; rfl

theorem rowsG_fit (l : List Int) (n : Nat) : ∀ e ∈ rowsG cs18 l n, fitB e = 0 := by
  intro e he
  obtain ⟨i, _, rfl⟩ := List.mem_map.1 he
  have h := cntG_pos l i
  have hl : (rowC cs18 l (5 * (i : Int))).length = 3 := rowC_length _ _ _
  show fitB ⟨rowC cs18 l (5 * (i : Int)), cntG l i⟩ = 0
  unfold fitB
  simp only []
  rw [if_neg (by omega), if_pos (rowC_valid _ _ _)]

theorem cntL_leW : ∀ (l : List Ent), (∀ e ∈ l, 0 ≤ e.cnt) → ∀ r, cntL l r ≤ wsum (fun _ => 1) l
  | [], _, r => by simp [cntL, wsum]
  | e :: l, h, r => by
    have h1 := h e (List.mem_cons_self ..)
    have h2 := cntL_leW l (fun x hx => h x (List.mem_cons_of_mem _ hx)) r
    rw [cntL, wsum]; split <;> omega

theorem tab18_norm (l : List Int) {n : Nat} (hn : n ≤ 8) : (norP (rowsG cs18 l n)).2 = 0 := by
  rw [norP_sum (rowsG_fit l n)]
  refine sumP_ok (by rw [rowsG_length]; omega) fun r => ?_
  have hp : ∀ e ∈ rowsG cs18 l n, 0 < e.cnt := fun e he => by
    obtain ⟨i, _, rfl⟩ := List.mem_map.1 he
    have := cntG_pos l i
    show 0 < cntG l i
    omega
  have h1 := cntL_pos _ hp r
  have h2 := cntL_leW _ (fun e he => Int.le_of_lt (hp e he)) r
  have h3 := (wsum_rowsG cs18 l n).2
  rw [smallB_iff]; omega

theorem wsum_rowsG_ge (cs : List Col) (l : List Int) : ∀ n : Nat, (n : Int) ≤ wsum (fun _ => 1) (rowsG cs l n)
  | 0 => by simp [rowsG, wsum]
  | n + 1 => by
    have h := cntG_pos l n
    have ih := wsum_rowsG_ge cs l n
    rw [rowsG_snoc, wsum_append]
    have e : wsum (fun _ => 1) [entG cs l n] = cntG l n := by simp [wsum, entG]
    rw [e]; omega

theorem tab18_ne (l : List Int) {n : Nat} (h1 : 1 ≤ n) (hn : n ≤ 8) : 0 < (tab18 l n).length := by
  have h := wsum_rowsG_ge cs18 l n
  have h0 := tab18_norm l hn
  rw [norP_sum (rowsG_fit l n)] at h0
  have e : tab18 l n = (sumP (rowsG cs18 l n)).1 := by rw [tab18, norP_sum (rowsG_fit l n)]
  have hw := wsum_sumP h0 fun _ => 1
  rw [← e] at hw
  cases hx : tab18 l n with
  | nil => rw [hx] at hw; simp [wsum] at hw; omega
  | cons x xs => simp

theorem table18_own {P : Program} (F : F_warehouselaw18_table P) (l : List Int) (n : Nat) (hn : n ≤ 8) (H : List AObj) :
    ACalls P F.id [.list false 1 (iC l), .int .i64 n] H (fun r H' => r = .sl H.length (tab18 l n).length 0 (tab18 l n).length ∧ H' = H ++ [.arr 2 (eC (tab18 l n))]) := by
  refine ACalls.own1 rfl (acalls_of_body F.has ?_) (pureEs_eC _)
  conv => whnf
  refine ACalls.mono (Rows_raw F.warehousebase_Rows true false cs18 l n (by decide) (by omega) (tab18_norm l hn)) ?_
  rintro r H1 ⟨rfl, rfl⟩
  conv => whnf
  exact ⟨rfl, rfl⟩

theorem items18_own {P : Program} (F : F_warehouselaw18_items P) (m : Int) (H : List AObj) :
    ACalls P F.id [.int .i64 m] H (fun r H' => r = .tuple [.sl (H.length + 0) (cnt18 m) 0 (cnt18 m), .sl (H.length + 1) (cnt18 m) 0 (cnt18 m)] ∧ H' = H ++ [.arr 5 (imN (its18 m)), .arr 1 (iC (ags18 m))]) := by
  refine ACalls.lift rfl (items18_raw F m) ?_
  rintro r H1 ⟨rfl, G, rfl⟩
  refine ⟨[0, 1], .tuple [.sl (H.length + 0) (cnt18 m) 0 (cnt18 m), .sl (H.length + 1) (cnt18 m) 0 (cnt18 m)], [.arr 5 (imN (its18 m)), .arr 1 (iC (ags18 m))], .tuple _ _ rfl (fun i v r h1 h2 => ?_), by simp, rfl, fun k id hk => ?_, rfl, rfl⟩
  · match i, h1, h2 with
    | 0, h1, h2 => cases h1; cases h2; exact .keep 0 _ _ _ 0 rfl
    | 1, h1, h2 => cases h1; cases h2; exact .keep 1 _ _ _ 1 rfl
    | i + 2, h1, h2 => simp at h1
  · match k, hk with
    | 0, hk => cases hk; exact ⟨rfl, _, _, rfl, pureEs_imN _⟩
    | 1, hk => cases hk; exact ⟨rfl, _, _, rfl, pureEs_iC _⟩
    | k + 2, hk => simp at hk

end Go.AW

