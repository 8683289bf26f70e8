/-
  An abstract machine over the model, the code of functions on it, and their contracts: what the claim needs.
  No condition: definitions, plain laws, contracts over any program that has this code.
-/
import Derived.Test.YtgipmadklcjcoaaZ6
set_option linter.all false
namespace Go.AW
attribute [local irreducible] ACalls
set_option maxRecDepth 20000 in
theorem bag_Count_spec {P : Program} (F : F_bag_Count P) (e1 e2 : Bool) (l : List Ent) (r : List V) (hl : l.length ≤ 1000000) (hr : ∀ e ∈ l, e.row.length ≤ 1000000) (H : List AObj) :
    ACalls P F.id [.list e1 2 (eC l), .list e2 3 (vC r)] H (fun q H' => q = .int .i64 (cntF l r) ∧ H' = H) := by
  refine ACalls.pure (by simp [AVal.closed, AVal.isPure]) (acalls_of_body F.has ?_)
  conv => whnf
  refine ⟨fun m ρ H1 => ∃ k : Nat, k + m = l.length ∧ cntF (l.drop k) r = cntF l r ∧ H1 = [] ∧
    Sv 21 [(1, .list e2 3 (vC r)), (7, .list e1 2 (eC l)), (8, .int .i64 l.length), (9, .int .i64 k)] ρ, l.length, [], ?_, ?_⟩
  · exact ⟨0, by omega, rfl, rfl, Sv.intro rfl ⟨rfl, rfl, intEq (by rw [eC_length]), rfl, trivial⟩⟩
  rintro m ρ H1 ⟨k, hk, hq, rfl, d, rfl⟩
  (conv => whnf); refine recA (fun hlt => ?_) (fun hlt => ?_)
  · simp at hlt
    obtain ⟨x, hx, hd, hxm⟩ := get_drop hlt
    rw [hd, cntF] at hq
    (conv => whnf); refine And.intro (by omega) ?_
    (conv => whnf); refine recO (eC_at hx) ?_
    (conv => whnf); refine ACalls.use (value_CompareRows_spec F.value_CompareRows false e2 x.row r (hr x hxm) _) ?_
    (conv => whnf); refine recA (fun hs => ?_) (fun hs => ?_)
    · replace hs : (rowsCmp x.row r == 0) = true := hs
      simp at hs
      rw [if_pos hs] at hq
      conv => whnf
      exact pubI hq
    · replace hs : (rowsCmp x.row r == 0) = false := hs
      simp at hs
      rw [if_neg hs] at hq
      conv => whnf
      refine ⟨m - 1, by omega, Gp.none rfl ?_ fun ρ1 h => ⟨k + 1, by omega, hq, rfl, h⟩⟩
      exact ⟨.closed (.list e2 3 (vC r)) (by simp [AVal.closed, AVal.isPure]), .closed (.list e1 2 (eC l)) (by simp [AVal.closed, AVal.isPure]), .closed _ rfl, pub_int (wrapI _ (by omega) (by omega)), trivial⟩
  · simp at hlt
    rw [List.drop_of_length_le hlt, cntF] at hq
    conv => whnf
    exact pubI hq

theorem cntF_cntL : ∀ {l : List Ent}, Srt l → ∀ r, cntF l r = cntL l r
  | [], _, _ => rfl
  | x :: l, h, r => by
    rw [cntF, cntL]
    split
    · rename_i hz
      rw [cntL_zero l r fun e he h0 => ?_]
      · omega
      · have h1 := (List.pairwise_cons.1 h).1 e he
        rw [(rowsCmp_zero _ _).1 hz, (rowsCmp_zero _ _).1 h0, (rowsCmp_zero _ _).2 rfl] at h1
        omega
    · rw [cntF_cntL (List.pairwise_cons.1 h).2 r]; omega

def cntQ (b : List Ent) (e : Ent) : Bool := cntF b e.row == e.cnt

theorem cntQ_all {a b : List Ent} (ha : bagB a = 0) (hb : bagB b = 0) : (a.all (cntQ b) && b.all (cntQ a)) = eqD a b := by
  have sa := bag_srt ha
  have sb := bag_srt hb
  by_cases h : a = b
  · subst h
    rw [eqD_true rfl]
    have : a.all (cntQ a) = true := List.all_eq_true.2 fun e he => by rw [cntQ, cntF_cntL sa, cntL_mem sa he]; simp
    rw [this]; rfl
  · rw [eqD_false h]
    rw [Bool.eq_false_iff]
    intro hc
    rw [Bool.and_eq_true] at hc
    obtain ⟨h1, h2⟩ := hc
    refine h (bagB_ext ha hb fun r => ?_)
    by_cases k1 : ∃ e ∈ a, rowsCmp e.row r = 0
    · obtain ⟨e, he, h0⟩ := k1
      have h3 := List.all_eq_true.1 h1 e he
      rw [cntQ, cntF_cntL sb] at h3
      simp at h3
      rw [← (rowsCmp_zero _ _).1 h0, cntL_mem sa he, h3]
    · by_cases k2 : ∃ e ∈ b, rowsCmp e.row r = 0
      · obtain ⟨e, he, h0⟩ := k2
        have h3 := List.all_eq_true.1 h2 e he
        rw [cntQ, cntF_cntL sa] at h3
        simp at h3
        rw [← (rowsCmp_zero _ _).1 h0, cntL_mem sb he, h3]
      · rw [cntL_zero a r fun e he h0 => k1 ⟨e, he, h0⟩, cntL_zero b r fun e he h0 => k2 ⟨e, he, h0⟩]

theorem all_take {α : Type} {p : α → Bool} {l : List α} {k : Nat} {x : α} (h : l[k]? = some x) : (l.take (k + 1)).all p = ((l.take k).all p && p x) := by
  rw [List.take_add_one, h]; simp

set_option maxRecDepth 20000 in
theorem law_BagCounts {P : Program} (F : F_warehouselaw6_BagCounts P) (hS : SortL P F.warehouselaw6_known.bag_Normalize) (r : List Ent) (row : List V) (l m : List Int) (n : Int) :
    ACalls P F.id [.list false 2 (eC r), .list false 3 (vC row), .list false 1 (iC l), .list false 1 (iC m), .int .i64 n] [] (fun r _ => r = .bool true) := by
  have known := fun H => known6_spec F.warehouselaw6_known hS H
  obtain ⟨k1, hk1, hB1⟩ := Bag_and7 F.warehousebase_Bag l n
  obtain ⟨k2, hk2, hB2⟩ := Bag_and7 F.warehousebase_Bag m (shrI n 3)
  obtain ⟨_, a1, a2, a3⟩ := bgV_ok l (n := k1) (by omega)
  obtain ⟨_, b1, b2, b3⟩ := bgV_ok m (n := k2) (by omega)
  obtain ⟨a, ea⟩ : ∃ a, a = bgV l k1 := ⟨_, rfl⟩
  obtain ⟨b, eb⟩ : ∃ a, a = bgV m k2 := ⟨_, rfl⟩
  rw [← ea] at hB1 a1 a2 a3
  rw [← eb] at hB2 b1 b2 b3
  refine acalls_of_body F.has ?_
  (conv => whnf); refine ACalls.use (light6_spec F.warehouselaw6_light false r _) ?_
  (conv => whnf); refine recA (fun h1 => ?_) (fun h1 => ?_)
  · conv => whnf
    refine (known _).mono ?_
    rintro r H1 ⟨rfl, rfl⟩
    conv => whnf
  simp at h1
  obtain ⟨hr1, hr⟩ := lightE_ok h1
  (conv => whnf); refine recA (fun h2 => ?_) (fun h2 => ?_)
  · conv => whnf
    refine (known _).mono ?_
    rintro r H1 ⟨rfl, rfl⟩
    conv => whnf
  (conv => whnf); refine ACalls.use (hB1 _) ?_
  (conv => whnf); refine And.intro (by decide) ?_
  (conv => whnf); refine ACalls.use (hB2 _) ?_
  conv => whnf
  refine ⟨fun c ρ H1 => ∃ k : Nat, k + c = a.length ∧ H1 = [] ∧ Sv 95 [(0, .list false 2 (eC r)), (1, .list false 3 (vC row)), (11, .list false 2 (eC a)), (12, .list false 2 (eC b)), (13, .bool ((a.take k).all (cntQ b))), (14, .int .i64 k)] ρ, a.length, [], ?_, ?_⟩
  · exact ⟨0, by omega, rfl, Sv.intro rfl ⟨rfl, rfl, rfl, rfl, rfl, rfl, trivial⟩⟩
  rintro c ρ H1 ⟨k, hk, rfl, d, rfl⟩
  (conv => whnf); refine recA (fun hlt => ?_) (fun hlt => ?_)
  · simp [eC_length] at hlt
    obtain ⟨x, hx, _, hxm⟩ := get_drop hlt
    have hxl := (bag_rowOk (by first | exact a1 | exact b1) x hxm).1
    have cl : ∀ (f : Bool) (z : Nat) (y : List (List AVal)) (H1 : List AObj), pureEs y = true → Pub H1 0 [] (.list f z y) (.list f z y) := fun f z y H1 hy => .closed _ (by simpa [AVal.closed, AVal.isPure, pureEs] using hy)
    have stp := all_take (p := cntQ b) hx
    (conv => whnf); refine recA (fun ht => ?_) (fun ht => ?_)
    · (conv => whnf); refine And.intro (by omega) ?_
      (conv => whnf); refine recO (eC_at hx) ?_
      (conv => whnf); refine ⟨_, bag_Count_spec F.bag_Count false false b x.row (by omega) (fun e he => by have := (bag_rowOk (by first | exact a1 | exact b1) e he).1; omega) _, ?_⟩
      (conv => whnf); refine And.intro (by omega) ?_
      (conv => whnf); refine recO (eC_at hx) ?_
      conv => whnf
      refine ⟨c - 1, by omega, Gp.none rfl ?_ fun ρ1 h => ⟨k + 1, by omega, rfl, h⟩⟩
      exact ⟨cl _ _ _ _ (pureEs_eC _), cl _ _ _ _ (pureEs_vC _), cl _ _ _ _ (pureEs_eC _), cl _ _ _ _ (pureEs_eC _), pubB (by first | (rw [stp, ht]; rfl) | (rw [stp, ← Bool.and_assoc, ht]; rfl)), pub_int (wrapI _ (by omega) (by omega)), trivial⟩
    · conv => whnf
      refine ⟨c - 1, by omega, Gp.none rfl ?_ fun ρ1 h => ⟨k + 1, by omega, rfl, h⟩⟩
      exact ⟨cl _ _ _ _ (pureEs_eC _), cl _ _ _ _ (pureEs_vC _), cl _ _ _ _ (pureEs_eC _), cl _ _ _ _ (pureEs_eC _), pubB (by first | (rw [stp, ht]; rfl) | (rw [stp, ← Bool.and_assoc, ht]; rfl)), pub_int (wrapI _ (by omega) (by omega)), trivial⟩
  · simp [eC_length] at hlt
    have hta : a.take k = a := List.take_of_length_le hlt
    rw [hta]
    conv => whnf
    refine ⟨fun c ρ H1 => ∃ k : Nat, k + c = b.length ∧ H1 = [] ∧ Sv 95 [(0, .list false 2 (eC r)), (1, .list false 3 (vC row)), (11, .list false 2 (eC a)), (12, .list false 2 (eC b)), (13, .bool (a.all (cntQ b) && (b.take k).all (cntQ a))), (15, .int .i64 k)] ρ, b.length, [], ?_, ?_⟩
    · exact ⟨0, by omega, rfl, Sv.intro rfl ⟨rfl, rfl, rfl, rfl, by show AVal.bool _ = AVal.bool _; simp, rfl, trivial⟩⟩
    rintro c ρ H1 ⟨k, hk, rfl, d, rfl⟩
    (conv => whnf); refine recA (fun hlt => ?_) (fun hlt => ?_)
    · simp [eC_length] at hlt
      obtain ⟨x, hx, _, hxm⟩ := get_drop hlt
      have hxl := (bag_rowOk (by first | exact a1 | exact b1) x hxm).1
      have cl : ∀ (f : Bool) (z : Nat) (y : List (List AVal)) (H1 : List AObj), pureEs y = true → Pub H1 0 [] (.list f z y) (.list f z y) := fun f z y H1 hy => .closed _ (by simpa [AVal.closed, AVal.isPure, pureEs] using hy)
      have stp := all_take (p := cntQ a) hx
      (conv => whnf); refine recA (fun ht => ?_) (fun ht => ?_)
      · (conv => whnf); refine And.intro (by omega) ?_
        (conv => whnf); refine recO (eC_at hx) ?_
        (conv => whnf); refine ⟨_, bag_Count_spec F.bag_Count false false a x.row (by omega) (fun e he => by have := (bag_rowOk (by first | exact a1 | exact b1) e he).1; omega) _, ?_⟩
        (conv => whnf); refine And.intro (by omega) ?_
        (conv => whnf); refine recO (eC_at hx) ?_
        conv => whnf
        refine ⟨c - 1, by omega, Gp.none rfl ?_ fun ρ1 h => ⟨k + 1, by omega, rfl, h⟩⟩
        exact ⟨cl _ _ _ _ (pureEs_eC _), cl _ _ _ _ (pureEs_vC _), cl _ _ _ _ (pureEs_eC _), cl _ _ _ _ (pureEs_eC _), pubB (by first | (rw [stp, ht]; rfl) | (rw [stp, ← Bool.and_assoc, ht]; rfl)), pub_int (wrapI _ (by omega) (by omega)), trivial⟩
      · conv => whnf
        refine ⟨c - 1, by omega, Gp.none rfl ?_ fun ρ1 h => ⟨k + 1, by omega, rfl, h⟩⟩
        exact ⟨cl _ _ _ _ (pureEs_eC _), cl _ _ _ _ (pureEs_vC _), cl _ _ _ _ (pureEs_eC _), cl _ _ _ _ (pureEs_eC _), pubB (by first | (rw [stp, ht]; rfl) | (rw [stp, ← Bool.and_assoc, ht]; rfl)), pub_int (wrapI _ (by omega) (by omega)), trivial⟩
    · simp [eC_length] at hlt
      have htb : b.take k = b := List.take_of_length_le hlt
      rw [htb]
      (conv => whnf); refine ACalls.use (bag_Count_spec F.bag_Count false false r row (by omega) (fun e he => by have := hr e he; omega) _) ?_
      (conv => whnf); refine ACalls.use (ref6_Count_spec F.warehouseref6_Count false false r row (by omega) (fun e he => by have := hr e he; omega) _) ?_
      (conv => whnf); refine recT (by simp) ?_
      (conv => whnf); refine ACalls.use (Same_bag F.warehouseref6_Same false false a b a1 _) ?_
      conv => whnf
      rw [cntQ_all a1 b1]
      (conv => whnf); refine recT (by simp) ?_
      (conv => whnf); refine ACalls.mono (known _) ?_
      rintro r H1 ⟨rfl, rfl⟩
      conv => whnf

end Go.AW

namespace Go.AW
attribute [local irreducible] ACalls
set_option maxRecDepth 20000 in
theorem ref6_result_raw {P : Program} (F : F_warehouseref6_result P) (ex : Bool) (l : List Ent) (hl : l.length ≤ 100000) (hr : ∀ e ∈ l, e.row.length ≤ 1000) (hok : (l.all fun e => smallB e.cnt) = true ∧ (l.filter nzB).length ≤ 4096) :
    ACalls P F.id [.list ex 2 (eC l)] [] (fun r H' => r = .tuple [.sl 0 (l.filter nzB).length 0 (l.filter nzB).length, .int .i64 0] ∧ H' = [.arr 2 (eC (l.filter nzB))]) := by
  refine acalls_of_body F.has ?_
  conv => whnf
  refine ⟨fun m ρ H => ∃ k : Nat, k + m = l.length ∧ ((l.take k).all fun e => smallB e.cnt) = true ∧ ((l.take k).filter nzB).length ≤ 4096 ∧ H = [.arr 2 (eC ((l.take k).filter nzB))] ∧
      Sv 46 [(0, .list ex 2 (eC l)), (4, .sl 0 ((l.take k).filter nzB).length 0 ((l.take k).filter nzB).length), (5, .int .i64 k)] ρ, l.length, [(4, 2)], ?_, ?_⟩
  · exact ⟨0, by omega, rfl, by simp, by rfl, Sv.intro rfl ⟨rfl, rfl, rfl, trivial⟩⟩
  rintro m ρ H ⟨k, hk, hP, hO, rfl, d, rfl⟩
  (conv => whnf); refine recA (fun hlt => ?_) (fun hlt => ?_)
  · simp [eC_length] at hlt
    obtain ⟨x, hx, hxd, hxm⟩ := get_drop hlt
    have ew := wrapI ((k : Int) + 1) (by omega) (by omega)
    have hxr := hr x hxm
    have hT : l.take (k + 1) = l.take k ++ [x] := by rw [List.take_add_one, hx]; rfl
    have hl2 : l = l.take k ++ x :: l.drop (k + 1) := by rw [← hxd, List.take_append_drop]
    conv => whnf
    refine And.intro (by omega) ?_
    (conv => whnf); refine recO (eC_at hx) ?_
    (conv => whnf); refine recA (fun hz => ?_) (fun hz => ?_)
    · replace hz : (x.cnt == 0) = true := hz
      simp at hz
      have hF : (l.take (k + 1)).filter nzB = (l.take k).filter nzB := by rw [hT, List.filter_append]; simp [nzB, hz]
      conv => whnf
      refine ⟨m - 1, by omega, Gp.keep rfl ?_ fun ρ1 h => ⟨k + 1, by omega, ?_, ?_, ?_, h⟩⟩
      · exact ⟨rfl, by rw [hF]; rfl, intEq ew, trivial⟩
      · rw [hT, List.all_append, hP]; simp [smallB, hz]
      · rw [hF]; exact hO
      · rw [hF]
    replace hz : (x.cnt == 0) = false := hz
    simp at hz
    conv => whnf
    refine And.intro (by omega) ?_
    (conv => whnf); refine recO (eC_at hx) ?_
    conv => whnf
    refine ACalls.use (small_spec F.warehouseref6_small _ _) ?_
    (conv => whnf); refine recA (fun hs => ?_) (fun hs => ?_)
    · replace hs : (!(smallB x.cnt)) = true := hs
      simp at hs
      exact absurd (List.all_eq_true.1 hok.1 x hxm) (by simp [hs])
    replace hs : (!(smallB x.cnt)) = false := hs
    simp at hs
    have hF : (l.take (k + 1)).filter nzB = (l.take k).filter nzB ++ [x] := by rw [hT, List.filter_append]; simp [nzB, hz]
    (conv => whnf); refine recT (by rw [eC_length]; exact Nat.beq_refl _) ?_
    (conv => whnf); refine recA (fun hq => ?_) (fun hq => ?_)
    · replace hq : ((((l.take k).filter nzB).length : Int) == 4096) = true := hq
      simp at hq
      have h3 := filter_le_of_prefix (l.take (k + 1)) l ⟨l.drop (k + 1), (List.take_append_drop _ _).symm⟩
      rw [hF, List.length_append] at h3
      exact absurd hok.2 (by simp at h3; omega)
    · replace hq : ((((l.take k).filter nzB).length : Int) == 4096) = false := hq
      simp at hq
      conv => whnf
      refine And.intro (by omega) ?_
      (conv => whnf); refine recO (eC_at hx) ?_
      (conv => whnf); refine And.intro ⟨roomMul (by rw [vC_length]; omega) (by omega), roomB_le (by rw [vC_length]; omega)⟩ ?_
      (conv => whnf); refine And.intro (by omega) ?_
      (conv => whnf); refine recO (eC_at hx) ?_
      (conv => whnf); refine recT (by rw [eC_length]; exact Nat.beq_refl _) ?_
      (conv => whnf); refine And.intro ⟨roomMul (by simp; omega) (by omega), roomB_le (by simp; omega), rfl, by rw [eC_length]⟩ ?_
      conv => whnf
      refine And.intro (by (conv => whnf); try rfl) ?_
      conv => whnf
      refine And.intro (by (conv => whnf); refine And.intro (by omega) ?_; (conv => whnf); refine recO (eC_at hx) ?_; (conv => whnf); try rfl) ?_
      conv => whnf
      have hFl : (eC ((l.take k).filter nzB) ++ [[AVal.sl 1 (vC x.row).length 0 (vC x.row).length, .int .i64 x.cnt]]).length = ((l.take (k + 1)).filter nzB).length := by
        rw [hF]; simp [eC_length]
      refine ⟨m - 1, by omega, Gp.some (H1 := [.arr 2 (eC ((l.take k).filter nzB ++ [x]))]) [0] (by simp) ?_ rfl ?_ fun ρ1 h => ⟨k + 1, by omega, ?_, ?_, ?_, h⟩⟩
      · exact ⟨⟨_, rfl, obPush ((l.take k).filter nzB) x.row x.cnt (vC x.row).length _ rfl (vC_length _)⟩, trivial⟩
      · exact ⟨.closed _ rfl, pubSl (k := 0) rfl rfl hFl hFl, pub_int ew, trivial⟩
      · rw [hT, List.all_append, hP]; simp [hs]
      · rw [hF, List.length_append]; simp; omega
      · rw [hF]
  · simp [eC_length] at hlt
    have hT : l.take k = l := List.take_of_length_le hlt
    conv => whnf
    rw [hT] at hP hO ⊢
    exact ⟨rfl, rfl⟩

theorem ref6_Sum_raw {P : Program} (F : F_warehouseref6_Sum P) (ex : Bool) (l : List Ent) (hl : l.length ≤ 100000) (hE : ∀ e ∈ l, EntOk e) (h0 : (sumP l).2 = 0) :
    ACalls P F.id [.list ex 2 (eC l)] [] (fun r H' => r = .tuple [.sl 0 (sumP l).1.length 0 (sumP l).1.length, .int .i64 0] ∧ H' = [.arr 2 (eC (sumP l).1)]) := by
  have hb := srtM_bnd l.length l hE
  have hc := srtM_length l.length l
  obtain ⟨hok, e1⟩ : (((srtM l.length l).all fun e => smallB e.cnt) = true ∧ ((srtM l.length l).filter nzB).length ≤ 4096) ∧ (sumP l).1 = (srtM l.length l).filter nzB := by
    unfold sumP resP at h0 ⊢
    split at h0
    · rename_i h; exact ⟨h, by rw [if_pos h]⟩
    · cases h0
  rw [e1]
  refine acalls_of_body F.has ?_
  (conv => whnf); refine ACalls.use (ref6_sorted_spec F.warehouseref6_sorted l.length ex l (Nat.le_refl _) hl hE _) ?_
  (conv => whnf); refine ACalls.mono (ref6_result_raw F.warehouseref6_result false (srtM l.length l) (by omega) (fun e h => by have := (hb e h).1; omega) hok) ?_
  rintro r H1 ⟨rfl, rfl⟩
  conv => whnf
  exact ⟨rfl, rfl⟩

set_option maxRecDepth 20000 in
theorem ref6_Normalize_raw {P : Program} (F : F_warehouseref6_Normalize P) (ex : Bool) (l : List Ent) (hl : l.length ≤ 100000) (h0 : (norP l).2 = 0) :
    ACalls P F.id [.list ex 2 (eC l)] [] (fun r H' => r = .tuple [.sl 0 (norP l).1.length 0 (norP l).1.length, .int .i64 0] ∧ H' = [.arr 2 (eC (norP l).1)]) := by
  have hz : frmE l = 0 := by
    unfold norP at h0
    split at h0
    · rename_i h; exact absurd h0 h
    · rename_i h; exact nz0 h
  have e0 : norP l = sumP l := by rw [norP, if_neg (by simp [hz])]
  rw [e0] at h0 ⊢
  refine acalls_of_body F.has ?_
  conv => whnf
  refine ⟨fun m ρ H1 => ∃ k : Nat, k + m = l.length ∧ frmE l = frmE (l.drop k) ∧ H1 = [] ∧ Sv 24 [(0, .list ex 2 (eC l)), (4, .int .i64 k)] ρ, l.length, [], ?_, ?_⟩
  · exact ⟨0, by omega, rfl, rfl, Sv.intro rfl ⟨rfl, rfl, trivial⟩⟩
  rintro m ρ H1 ⟨k, hk, hr, rfl, d, rfl⟩
  (conv => whnf); refine recA (fun hlt => ?_) (fun hlt => ?_)
  · simp [eC_length] at hlt
    have hx : l[k]? = some l[k] := List.getElem?_eq_getElem hlt
    rw [List.drop_eq_getElem_cons hlt, frmE] at hr
    (conv => whnf); refine And.intro (by omega) ?_
    (conv => whnf); refine recO (eC_at hx) ?_
    (conv => whnf); refine ACalls.use (fits_spec F.warehouseref6_fits l[k] _) ?_
    have h2 : fitB l[k] = 0 := frmE_ok l hz _ (List.getElem_mem hlt)
    rw [if_neg (by simp [h2])] at hr
    (conv => whnf); refine recF (by rw [h2]; rfl) ?_
    conv => whnf
    refine ⟨m - 1, by omega, Gp.keep rfl ?_ fun ρ1 h => ⟨k + 1, by omega, hr, rfl, h⟩⟩
    exact ⟨rfl, intEq (wrapI _ (by omega) (by omega)), trivial⟩
  · simp [eC_length] at hlt
    (conv => whnf); refine ACalls.mono (ref6_Sum_raw F.warehouseref6_Sum ex l hl (fun e h => fit_ok (frmE_ok l hz e h)) h0) ?_
    rintro r H1 ⟨rfl, rfl⟩
    conv => whnf
    exact ⟨rfl, rfl⟩

set_option maxRecDepth 20000 in
theorem Bag_raw {P : Program} (F : F_warehousebase_Bag P) (l : List Int) (n : Nat) (hn : n ≤ 1000) :
    ACalls P F.id [.list false 1 (iC l), .int .i64 n] [] (fun r H' => r = .sl 0 (bgV l n).length 0 (bgV l n).length ∧ H' = [.arr 2 (eC (bgV l n))]) := by
  refine acalls_of_body F.has ?_
  conv => whnf
  refine ⟨fun m ρ H1 => ∃ k : Nat, k + m = n ∧ H1 = [.arr 2 (eC (bgL l k))] ∧ Sv 54 [(0, .list false 1 (iC l)), (1, .int .i64 n), (5, .sl 0 k 0 k), (6, .int .i64 k)] ρ, n, [(5, 2)], ?_, ?_⟩
  · exact ⟨0, by omega, rfl, Sv.intro rfl ⟨rfl, rfl, rfl, rfl, trivial⟩⟩
  rintro m ρ H1 ⟨k, hk, rfl, d, rfl⟩
  (conv => whnf); refine recA (fun hlt => ?_) (fun hlt => ?_)
  · simp at hlt
    have b0 := atV_bounds l (3 * k)
    have b1 := atV_bounds l (3 * k + 1)
    have b2 := atV_bounds l (3 * k + 2)
    have e0 : IntKind.i64.wrap (3 * (k : Int)) = 3 * k := wrapI _ (by omega) (by omega)
    have e1 : IntKind.i64.wrap (3 * (k : Int) + 1) = 3 * k + 1 := wrapI _ (by omega) (by omega)
    have e2 : IntKind.i64.wrap (3 * (k : Int) + 2) = 3 * k + 2 := wrapI _ (by omega) (by omega)
    conv => whnf
    rw [e0]
    (conv => whnf); refine ACalls.use (At_spec F.warehousebase_At false l _ _) ?_
    conv => whnf
    rw [e0, e1]
    (conv => whnf); refine ACalls.use (At_spec F.warehousebase_At false l _ _) ?_
    (conv => whnf); refine And.intro (by decide) ?_
    (conv => whnf); refine ACalls.use (Any_spec F.warehousebase_Any _ _) ?_
    conv => whnf
    rw [e0, e2]
    (conv => whnf); refine ACalls.use (At_spec F.warehousebase_At false l _ _) ?_
    (conv => whnf); refine And.intro (by decide) ?_
    (conv => whnf); refine ACalls.use (Any_spec F.warehousebase_Any _ _) ?_
    (conv => whnf); refine And.intro (by decide) ?_
    have eq : ∀ q : Int, q = IntKind.i64.wrap ((atV l (3 * k)).tdiv 2) → IntKind.i64.wrap (q.tmod 7 - 3) = atV l (3 * k) / 2 % 7 - 3 := fun q hq => by
      rw [hq, Int.tdiv_eq_ediv_of_nonneg b0.1, wrapI (atV l (3 * k) / 2) (by omega) (by omega), Int.tmod_eq_emod_of_nonneg (by omega)]
      exact wrapI _ (by omega) (by omega)
    have hp : atV l (3 * k) % 2 = 0 ∨ atV l (3 * k) % 2 = 1 := by omega
    rcases hp with hp | hp
    · have eT : IntKind.i64.wrap (1 + (atV l (3 * k)).tmod 2) = 1 := by rw [Int.tmod_eq_emod_of_nonneg b0.1, hp]; rfl
      have hE : bgE l k = ⟨[anyV ((atV l (3 * k + 1)).tmod 30)], atV l (3 * k) / 2 % 7 - 3⟩ := by rw [bgE, hp]; rfl
      conv => whnf
      rw [eT]
      (conv => whnf); refine And.intro (⟨by decide, by simp⟩) ?_
      (conv => whnf); refine And.intro (by decide) ?_
      (conv => whnf); refine And.intro (by decide) ?_
      (conv => whnf); refine recT (by rw [eC_length, bgL_len]; exact Nat.beq_refl _) ?_
      (conv => whnf); refine And.intro (⟨roomMul (by simp; omega) (by omega), roomB_le (by simp; omega), rfl, by rw [eC_length, bgL_len]⟩) ?_
      conv => whnf
      refine ⟨m - 1, by omega, Gp.one 0 2 (eC (bgL l (k + 1))) (by rw [bgL_succ, eC_append, hE, ← eq _ rfl]; rfl) (pureEs_eC _) rfl ?_ fun ρ1 h => ⟨k + 1, by omega, rfl, h⟩⟩
      have hl : ∀ x : List AVal, (eC (bgL l k) ++ [x]).length = k + 1 := fun x => by rw [List.length_append, eC_length, bgL_len]; rfl
      exact ⟨.closed (.list false 1 (iC l)) rfl, .closed _ rfl, pubSl (k := 0) rfl rfl (hl _) (hl _), pub_int (wrapI _ (by omega) (by omega)), trivial⟩
    · have eT : IntKind.i64.wrap (1 + (atV l (3 * k)).tmod 2) = 2 := by rw [Int.tmod_eq_emod_of_nonneg b0.1, hp]; rfl
      have hE : bgE l k = ⟨[anyV ((atV l (3 * k + 1)).tmod 30), anyV ((atV l (3 * k + 2)).tmod 30)], atV l (3 * k) / 2 % 7 - 3⟩ := by rw [bgE, hp]; rfl
      conv => whnf
      rw [eT]
      (conv => whnf); refine And.intro (⟨by decide, by simp⟩) ?_
      (conv => whnf); refine And.intro (by decide) ?_
      (conv => whnf); refine And.intro (by decide) ?_
      (conv => whnf); refine recT (by rw [eC_length, bgL_len]; exact Nat.beq_refl _) ?_
      (conv => whnf); refine And.intro (⟨roomMul (by simp; omega) (by omega), roomB_le (by simp; omega), rfl, by rw [eC_length, bgL_len]⟩) ?_
      conv => whnf
      refine ⟨m - 1, by omega, Gp.one 0 2 (eC (bgL l (k + 1))) (by rw [bgL_succ, eC_append, hE, ← eq _ rfl]; rfl) (pureEs_eC _) rfl ?_ fun ρ1 h => ⟨k + 1, by omega, rfl, h⟩⟩
      have hl : ∀ x : List AVal, (eC (bgL l k) ++ [x]).length = k + 1 := fun x => by rw [List.length_append, eC_length, bgL_len]; rfl
      exact ⟨.closed (.list false 1 (iC l)) rfl, .closed _ rfl, pubSl (k := 0) rfl rfl (hl _) (hl _), pub_int (wrapI _ (by omega) (by omega)), trivial⟩
  · simp at hlt
    have hk2 : k = n := by omega
    subst hk2
    have h := ref6_Normalize_raw F.warehouseref6_Normalize false (bgL l k) (by rw [bgL_len]; omega) (by rw [(bgV_ok l hn).1])
    have hel : (eC (bgL l k)).length = k := by rw [eC_length, bgL_len]
    conv => whnf
    refine Ghost.none (n := 54) (live := [(5, .list false 2 (eC (bgL l k)))]) rfl ?_ ?_
    · exact ⟨pubF rfl hel.symm hel.symm (pureEs_eC _), trivial⟩
    rintro ρ1 ⟨d, rfl⟩
    (conv => whnf); refine ACalls.mono (h) ?_
    rintro r H1 ⟨rfl, rfl⟩
    conv => whnf
    exact ⟨rfl, rfl⟩

end Go.AW

namespace Go.AW
attribute [local irreducible] ACalls
theorem sizeR_form (b : List Ent) : ∃ x y : Int, sizeR b = .tuple [.int .i64 x, .int .i64 y] := by
  unfold sizeR
  split
  · exact ⟨_, _, rfl⟩
  · exact ⟨_, _, rfl⟩

set_option maxRecDepth 20000 in
theorem law_BagValidates {P : Program} (F : F_warehouselaw6_BagValidates P) (hS : SortL P F.warehouselaw6_known.bag_Normalize) (r : List Ent) (l : List Int) (n : Int) :
    ACalls P F.id [.list false 2 (eC r), .list false 1 (iC l), .int .i64 n] [] (fun r _ => r = .bool true) := by
  have known := fun H => known6_spec F.warehouselaw6_known hS H
  obtain ⟨k1, hk1, e1⟩ := and15 n
  obtain ⟨_, a1, a2, a3⟩ := bgV_ok l (n := k1) (by omega)
  obtain ⟨x0, x1, hx⟩ := sizeR_form r
  refine acalls_of_body F.has ?_
  (conv => whnf); refine ACalls.use (light6_spec F.warehouselaw6_light false r _) ?_
  (conv => whnf); refine recA (fun h1 => ?_) (fun h1 => ?_)
  · conv => whnf
    refine (known _).mono ?_
    rintro r H1 ⟨rfl, rfl⟩
    conv => whnf
  by_cases hc : 0 < (bgV l k1).length ∧ and64 (shrI n 4) 7 = 0
  · have hB := Bag_raw F.warehousebase_Bag l k1 (by omega)
    rw [← e1] at hB
    obtain ⟨hc1, hc2⟩ := hc
    (conv => whnf); refine ACalls.mono (hB) ?_
    rintro q H1 ⟨rfl, rfl⟩
    (conv => whnf); refine recT (by rw [eC_length]; exact Nat.beq_refl _) ?_
    (conv => whnf); refine recT (by simpa using hc1) ?_
    (conv => whnf); refine And.intro (by decide) ?_
    (conv => whnf); refine recT (by show (and64 (shrI n 4) 7 == 0) = true; simp [hc2]) ?_
    obtain ⟨N, eN⟩ : ∃ N : Nat, and64 (shrI n 7) 15 = N := (and15 (shrI n 7)).imp fun _ h => h.2
    (conv => whnf); refine And.intro (by decide) ?_
    (conv => whnf); refine recT (by rw [eC_length]; exact Nat.beq_refl _) ?_
    (conv => whnf); refine And.intro (by omega) ?_
    (conv => whnf); refine And.intro (by decide) ?_
    obtain ⟨I, eI⟩ : ∃ I : Nat, (and64 (shrI n 7) 15).tmod (bgV l k1).length = I := ⟨N % (bgV l k1).length, by rw [eN, Int.tmod_eq_emod_of_nonneg (by omega)]; rfl⟩
    have hI : 0 ≤ (and64 (shrI n 7) 15).tmod (bgV l k1).length ∧ (and64 (shrI n 7) 15).tmod (bgV l k1).length < (bgV l k1).length := by
      rw [eN, Int.tmod_eq_emod_of_nonneg (by omega)]
      exact ⟨Int.emod_nonneg _ (by omega), Int.emod_lt_of_pos _ (by omega)⟩
    obtain ⟨x, hxx⟩ : ∃ x, (bgV l k1)[I]? = some x := ⟨(bgV l k1)[I]'(by omega), List.getElem?_eq_getElem _⟩
    have hO : (eC (bgV l k1))[0 + ((and64 (shrI n 7) 15).tmod (bgV l k1).length).toNat]? = some (entC x) := by rw [eI]; exact eC_at0 hxx
    (conv => whnf); refine recT (by rw [eC_length]; exact Nat.beq_refl _) ?_
    (conv => whnf); refine And.intro (hI) ?_
    (conv => whnf); refine recT (by rw [eC_length]; exact Nat.beq_refl _) ?_
    (conv => whnf); refine recO (hO) ?_
    obtain ⟨b, eb⟩ : ∃ b, b = (bgV l k1).set (0 + ((and64 (shrI n 7) 15).tmod (bgV l k1).length).toNat) ⟨x.row, IntKind.i64.wrap (and64 (shrI n 11) 3 - 1)⟩ := ⟨_, rfl⟩
    have hbl : (bgV l k1).length = (eC b).length := by rw [eC_length, eb, List.length_set]
    have hob : eC b = setEs (eC (bgV l k1)) (0 + ((and64 (shrI n 7) 15).tmod (bgV l k1).length).toNat) (entC ⟨x.row, IntKind.i64.wrap (and64 (shrI n 11) 3 - 1)⟩) := by rw [eb, ← setEs_eC]
    obtain ⟨y0, y1, hy⟩ := sizeR_form b
    conv => whnf
    refine Ghost.none (n := 115) (live := [(0, .list false 2 (eC r)), (7, .list false 2 (eC b))]) rfl ?_ ?_
    · exact ⟨.closed (.list false 2 (eC r)) (by simp [AVal.closed, AVal.isPure]), pubF (by rw [hob]; rfl) hbl hbl (pureEs_eC _), trivial⟩
    rintro ρ1 ⟨d, rfl⟩
    have s1 := fun H => bag_Size_spec F.bag_Size false r H
    have s2 := fun H => ref6_Size_spec F.warehouseref6_Size false r H
    have s3 := fun H => bag_Size_spec F.bag_Size false b H
    have s4 := fun H => ref6_Size_spec F.warehouseref6_Size false b H
    rw [hx] at s1 s2
    rw [hy] at s3 s4
    (conv => whnf); refine ACalls.use (s1 _) ?_
    (conv => whnf); refine ACalls.use (s2 _) ?_
    (conv => whnf); refine ACalls.use (s3 _) ?_
    (conv => whnf); refine ACalls.use (s4 _) ?_
    (conv => whnf); refine ACalls.use (bag_Validate_spec F.bag_Validate false r _) ?_
    (conv => whnf); refine ACalls.use (ref6_Validate_spec F.warehouseref6_Validate false r _) ?_
    (conv => whnf); refine recT (by simp) ?_
    (conv => whnf); refine ACalls.use (bag_Validate_spec F.bag_Validate false b _) ?_
    (conv => whnf); refine ACalls.use (ref6_Validate_spec F.warehouseref6_Validate false b _) ?_
    (conv => whnf); refine recT (by simp) ?_
    (conv => whnf); refine ACalls.use (bag_IsTable_spec F.bag_IsTable false r _) ?_
    (conv => whnf); refine ACalls.use (ref6_IsTable_spec F.warehouseref6_IsTable false r _) ?_
    (conv => whnf); refine recT (by simp) ?_
    (conv => whnf); refine ACalls.use (bag_IsTable_spec F.bag_IsTable false b _) ?_
    (conv => whnf); refine ACalls.use (ref6_IsTable_spec F.warehouseref6_IsTable false b _) ?_
    (conv => whnf); refine recT (by simp) ?_
    (conv => whnf); refine recT (by simp) ?_
    (conv => whnf); refine recT (by simp) ?_
    (conv => whnf); refine recT (by simp) ?_
    (conv => whnf); refine recT (by simp) ?_
    (conv => whnf); refine ACalls.mono (known _) ?_
    rintro r H1 ⟨rfl, rfl⟩
    conv => whnf
  · have hB := fun H => Bag_spec F.warehousebase_Bag l k1 (by omega) H
    rw [← e1] at hB
    obtain ⟨b, eb⟩ : ∃ a, a = bgV l k1 := ⟨_, rfl⟩
    rw [← eb] at hB hc
    obtain ⟨y0, y1, hy⟩ := sizeR_form b
    (conv => whnf); refine ACalls.use (hB _) ?_
    (conv => whnf); refine recA (fun hb => ?_) (fun hb => ?_)
    · simp [eC_length] at hb
      (conv => whnf); refine And.intro (by decide) ?_
      (conv => whnf); refine recF (by show (and64 (shrI n 4) 7 == 0) = false; rw [beq_eq_false_iff_ne]; intro h; exact hc ⟨by omega, h⟩) ?_
      have s1 := fun H => bag_Size_spec F.bag_Size false r H
      have s2 := fun H => ref6_Size_spec F.warehouseref6_Size false r H
      have s3 := fun H => bag_Size_spec F.bag_Size false b H
      have s4 := fun H => ref6_Size_spec F.warehouseref6_Size false b H
      rw [hx] at s1 s2
      rw [hy] at s3 s4
      (conv => whnf); refine ACalls.use (s1 _) ?_
      (conv => whnf); refine ACalls.use (s2 _) ?_
      (conv => whnf); refine ACalls.use (s3 _) ?_
      (conv => whnf); refine ACalls.use (s4 _) ?_
      (conv => whnf); refine ACalls.use (bag_Validate_spec F.bag_Validate false r _) ?_
      (conv => whnf); refine ACalls.use (ref6_Validate_spec F.warehouseref6_Validate false r _) ?_
      (conv => whnf); refine recT (by simp) ?_
      (conv => whnf); refine ACalls.use (bag_Validate_spec F.bag_Validate false b _) ?_
      (conv => whnf); refine ACalls.use (ref6_Validate_spec F.warehouseref6_Validate false b _) ?_
      (conv => whnf); refine recT (by simp) ?_
      (conv => whnf); refine ACalls.use (bag_IsTable_spec F.bag_IsTable false r _) ?_
      (conv => whnf); refine ACalls.use (ref6_IsTable_spec F.warehouseref6_IsTable false r _) ?_
      (conv => whnf); refine recT (by simp) ?_
      (conv => whnf); refine ACalls.use (bag_IsTable_spec F.bag_IsTable false b _) ?_
      (conv => whnf); refine ACalls.use (ref6_IsTable_spec F.warehouseref6_IsTable false b _) ?_
      (conv => whnf); refine recT (by simp) ?_
      (conv => whnf); refine recT (by simp) ?_
      (conv => whnf); refine recT (by simp) ?_
      (conv => whnf); refine recT (by simp) ?_
      (conv => whnf); refine recT (by simp) ?_
      (conv => whnf); refine ACalls.mono (known _) ?_
      rintro r H1 ⟨rfl, rfl⟩
      conv => whnf
    · have s1 := fun H => bag_Size_spec F.bag_Size false r H
      have s2 := fun H => ref6_Size_spec F.warehouseref6_Size false r H
      have s3 := fun H => bag_Size_spec F.bag_Size false b H
      have s4 := fun H => ref6_Size_spec F.warehouseref6_Size false b H
      rw [hx] at s1 s2
      rw [hy] at s3 s4
      (conv => whnf); refine ACalls.use (s1 _) ?_
      (conv => whnf); refine ACalls.use (s2 _) ?_
      (conv => whnf); refine ACalls.use (s3 _) ?_
      (conv => whnf); refine ACalls.use (s4 _) ?_
      (conv => whnf); refine ACalls.use (bag_Validate_spec F.bag_Validate false r _) ?_
      (conv => whnf); refine ACalls.use (ref6_Validate_spec F.warehouseref6_Validate false r _) ?_
      (conv => whnf); refine recT (by simp) ?_
      (conv => whnf); refine ACalls.use (bag_Validate_spec F.bag_Validate false b _) ?_
      (conv => whnf); refine ACalls.use (ref6_Validate_spec F.warehouseref6_Validate false b _) ?_
      (conv => whnf); refine recT (by simp) ?_
      (conv => whnf); refine ACalls.use (bag_IsTable_spec F.bag_IsTable false r _) ?_
      (conv => whnf); refine ACalls.use (ref6_IsTable_spec F.warehouseref6_IsTable false r _) ?_
      (conv => whnf); refine recT (by simp) ?_
      (conv => whnf); refine ACalls.use (bag_IsTable_spec F.bag_IsTable false b _) ?_
      (conv => whnf); refine ACalls.use (ref6_IsTable_spec F.warehouseref6_IsTable false b _) ?_
      (conv => whnf); refine recT (by simp) ?_
      (conv => whnf); refine recT (by simp) ?_
      (conv => whnf); refine recT (by simp) ?_
      (conv => whnf); refine recT (by simp) ?_
      (conv => whnf); refine recT (by simp) ?_
      (conv => whnf); refine ACalls.mono (known _) ?_
      rintro r H1 ⟨rfl, rfl⟩
      conv => whnf

end Go.AW

namespace Go.AW
attribute [local irreducible] ACalls
theorem set_self {H : List AObj} {id : Nat} {o : AObj} (h : H[id]? = some o) : H.set id o = H := by
  obtain ⟨h1, e⟩ := List.getElem?_eq_some_iff.1 h
  rw [← e, List.set_getElem_self]

def putL (O : List Ent) (row : List V) (c : Int) : List Ent := if c = 0 then O else O ++ [⟨row, c⟩]

set_option maxRecDepth 20000 in
theorem put_gen {P : Program} (F : F_bag_put P) (ex : Bool) (O : List Ent) (hO : O.length ≤ 100000) (row : List V) (hr : row.length ≤ 1000) (c : Int) (hs : smallB c = true) (id : Nat) (H : List AObj) (ho : H[id]? = some (.arr 2 (eC O))) :
    ACalls P F.id [.sl id O.length 0 O.length, .list ex 3 (vC row), .int .i64 c] H
      (fun r H' => r = .tuple [.sl id (putL O row c).length 0 (putL O row c).length, .bool true] ∧ H' = H.set id (.arr 2 (eC (putL O row c)))) := by
  have hs2 := (smallB_iff c).1 hs
  refine acalls_of_body F.has ?_
  (conv => whnf); refine recF (by simp; omega) ?_
  (conv => whnf); refine recF (by simp; omega) ?_
  (conv => whnf); refine recA (fun hz => ?_) (fun hz => ?_)
  · replace hz : (!(c == 0)) = true := hz
    simp at hz
    rw [putL, if_neg hz]
    (conv => whnf); refine ACalls.use (CloneV_spec F.slices_Clone_LValue_Value ex row (by omega) _) ?_
    (conv => whnf); refine recO (ho) ?_
    (conv => whnf); refine recT (by rw [eC_length]; exact Nat.beq_refl _) ?_
    (conv => whnf); refine And.intro (⟨roomMul (by simp; omega) (by omega), roomB_le (by simp; omega), rfl, by rw [eC_length]⟩) ?_
    rw [setO_eq]
    conv => whnf
    have hl : (eC O ++ [[AVal.list false 3 (vC row), .int .i64 c]]).length = (O ++ [(⟨row, c⟩ : Ent)]).length := by rw [List.length_append, eC_length, List.length_append]; rfl
    refine ⟨?_, ?_⟩
    · exact congrArg (fun n => AVal.tuple [.sl id n 0 n, .bool true]) hl
    · rw [eC_append]; rfl
  · replace hz : (!(c == 0)) = false := hz
    simp at hz
    rw [putL, if_pos hz]
    conv => whnf
    exact ⟨rfl, (set_self ho).symm⟩

def dstL (b : List Ent) : List Ent := (b.filter posE).map fun e => ⟨e.row, 1⟩

theorem dstL_append (a b : List Ent) : dstL (a ++ b) = dstL a ++ dstL b := by simp [dstL]

theorem dstL_len (b : List Ent) : (dstL b).length ≤ b.length := by rw [dstL, List.length_map]; exact List.length_filter_le _ _

theorem dstL_one {b : List Ent} {e : Ent} (h : e ∈ dstL b) : e.cnt = 1 := by
  obtain ⟨x, _, rfl⟩ := List.mem_map.1 h; rfl

theorem dstL_nz (b : List Ent) : (dstL b).filter nzB = dstL b := List.filter_eq_self.2 fun e he => by rw [nzB, dstL_one he]; rfl

theorem dstL_row {b : List Ent} {e : Ent} (h : e ∈ dstL b) : ∃ x ∈ b, x.row = e.row := by
  obtain ⟨x, hx, rfl⟩ := List.mem_map.1 h
  exact ⟨x, (List.mem_filter.1 hx).1, rfl⟩

theorem srt_dstL {b : List Ent} (h : Srt b) : Srt (dstL b) := by
  rw [dstL, Srt, List.pairwise_map]
  exact srt_filter posE h

def dstP (b : List Ent) : List Ent × Int := if bagB b ≠ 0 then ([], bagB b) else (dstL b, 0)

theorem dstP_res {b : List Ent} (h : bagB b = 0) : resP (dstL b) = (dstL b, 0) := by
  have h1 : ((dstL b).all fun e => smallB e.cnt) = true := List.all_eq_true.2 fun e he => by rw [dstL_one he]; rfl
  rw [resP, dstL_nz, if_pos ⟨h1, Nat.le_trans (dstL_len b) (bag_len h)⟩]

theorem dstP_good (b : List Ent) : Good (dstP b) := by
  unfold dstP
  split
  · exact good_err _
  · rename_i h
    rw [← dstP_res (nz0 h)]
    exact resP_good (srt_dstL (bag_srt (nz0 h))) fun e he => by
      obtain ⟨x, hx, hr⟩ := dstL_row he
      exact rowOk_of (bag_rowOk (nz0 h) x hx) hr

theorem dstL_take {b : List Ent} {k : Nat} {x : Ent} (h : b[k]? = some x) : dstL (b.take (k + 1)) = dstL (b.take k) ++ if posE x = true then [⟨x.row, 1⟩] else [] := by
  rw [List.take_add_one, h, dstL_append]
  congr 1
  show dstL [x] = _
  rw [dstL, List.filter_cons]
  split <;> rfl

set_option maxRecDepth 20000 in
theorem bag_Distinct_raw {P : Program} (F : F_bag_Distinct P) (ex : Bool) (b : List Ent) (H : List AObj) :
    ACalls P F.id [.list ex 2 (eC b)] H (fun r H' => r = tR (dstP b) ∧ H' = H) := by
  refine ACalls.pure (by simp [AVal.closed, AVal.isPure]) (acalls_of_body F.has ?_)
  (conv => whnf); refine ACalls.use (bag_Validate_spec F.bag_Validate ex b _) ?_
  by_cases h0 : bagB b = 0
  · (conv => whnf); refine recF (by rw [h0]; rfl) ?_
    have hbl := bag_len h0
    conv => whnf
    refine ⟨fun m ρ H1 => ∃ k : Nat, k + m = b.length ∧ H1 = [.arr 2 (eC (dstL (b.take k)))] ∧ Sv 31 [(5, .sl 0 (dstL (b.take k)).length 0 (dstL (b.take k)).length), (13, .list ex 2 (eC b)), (14, .int .i64 b.length), (15, .int .i64 k)] ρ, b.length, [(5, 2)], ?_, ?_⟩
    · exact ⟨0, by omega, rfl, Sv.intro rfl ⟨rfl, rfl, intEq (by rw [eC_length]), rfl, trivial⟩⟩
    rintro m ρ H1 ⟨k, hk, rfl, d, rfl⟩
    have hOl := dstL_len (b.take k)
    rw [List.length_take] at hOl
    have cl : ∀ (f : Bool) (z : Nat) (y : List (List AVal)) (H1 : List AObj), pureEs y = true → Pub H1 0 [0] (.list f z y) (.list f z y) := fun f z y H1 hy => .closed _ (by simpa [AVal.closed, AVal.isPure, pureEs] using hy)
    (conv => whnf); refine recA (fun hlt => ?_) (fun hlt => ?_)
    · simp at hlt
      obtain ⟨x, hx, _, hxm⟩ := get_drop hlt
      have hxr := (bag_rowOk h0 x hxm).1
      have hD := dstL_take hx
      (conv => whnf); refine And.intro (by omega) ?_
      (conv => whnf); refine recO (eC_at hx) ?_
      (conv => whnf); refine recA (fun hp => ?_) (fun hp => ?_)
      · replace hp : posE x = true := hp
        rw [if_pos hp] at hD
        (conv => whnf); refine ACalls.mono (put_gen F.bag_put false (dstL (b.take k)) (by omega) x.row (by omega) 1 (by decide) 0 _ rfl) ?_
        rintro r H1 ⟨rfl, rfl⟩
        rw [putL, if_neg (by decide), ← hD]
        conv => whnf
        refine ⟨m - 1, by omega, Gp.one 0 2 (eC (dstL (b.take (k + 1)))) rfl (pureEs_eC _) rfl ?_ fun ρ1 h => ⟨k + 1, by omega, rfl, h⟩⟩
        exact ⟨pubSl (k := 0) rfl rfl rfl rfl, cl _ _ _ _ (pureEs_eC _), .closed _ rfl, pub_int (wrapI _ (by omega) (by omega)), trivial⟩
      · replace hp : posE x = false := hp
        rw [if_neg (by simp [hp]), List.append_nil] at hD
        conv => whnf
        refine ⟨m - 1, by omega, Gp.one 0 2 (eC (dstL (b.take (k + 1)))) (by rw [hD]; rfl) (pureEs_eC _) rfl ?_ fun ρ1 h => ⟨k + 1, by omega, rfl, h⟩⟩
        exact ⟨by rw [hD]; exact pubSl (k := 0) rfl rfl rfl rfl, cl _ _ _ _ (pureEs_eC _), .closed _ rfl, pub_int (wrapI _ (by omega) (by omega)), trivial⟩
    · simp at hlt
      rw [List.take_of_length_le hlt]
      conv => whnf
      rw [dstP, if_neg (by simp [h0])]
      exact pub2 (pubF rfl (eC_length _).symm (eC_length _).symm (pureEs_eC _)) (.closed _ rfl)
  · (conv => whnf); refine recT (by show (!(bagB b == 0)) = true; simp [h0]) ?_
    conv => whnf
    rw [dstP, if_pos h0, tR, if_pos h0]
    exact pub2 (.closed _ rfl) (.closed _ rfl)

set_option maxRecDepth 20000 in
theorem ref6_Distinct_raw {P : Program} (F : F_warehouseref6_Distinct P) (ex : Bool) (b : List Ent) (H : List AObj) :
    ACalls P F.id [.list ex 2 (eC b)] H (fun r H' => r = tR (dstP b) ∧ H' = H) := by
  refine ACalls.pure (by simp [AVal.closed, AVal.isPure]) (acalls_of_body F.has ?_)
  (conv => whnf); refine ACalls.use (ref6_Validate_spec F.warehouseref6_Validate ex b _) ?_
  by_cases h0 : bagB b = 0
  · (conv => whnf); refine recF (by rw [h0]; rfl) ?_
    have hbl := bag_len h0
    conv => whnf
    refine ⟨fun m ρ H1 => ∃ k : Nat, k + m = b.length ∧ H1 = [.arr 2 (eC (dstL (b.take k)))] ∧ Sv 37 [(0, .list ex 2 (eC b)), (5, .sl 0 (dstL (b.take k)).length 0 (dstL (b.take k)).length), (6, .int .i64 k)] ρ, b.length, [(5, 2)], ?_, ?_⟩
    · exact ⟨0, by omega, rfl, Sv.intro rfl ⟨rfl, rfl, rfl, trivial⟩⟩
    rintro m ρ H1 ⟨k, hk, rfl, d, rfl⟩
    have hOl := dstL_len (b.take k)
    rw [List.length_take] at hOl
    have cl : ∀ (f : Bool) (z : Nat) (y : List (List AVal)) (H1 : List AObj), pureEs y = true → Pub H1 0 [0] (.list f z y) (.list f z y) := fun f z y H1 hy => .closed _ (by simpa [AVal.closed, AVal.isPure, pureEs] using hy)
    (conv => whnf); refine recA (fun hlt => ?_) (fun hlt => ?_)
    · simp [eC_length] at hlt
      obtain ⟨x, hx, _, hxm⟩ := get_drop hlt
      have hxr := (bag_rowOk h0 x hxm).1
      have hD := dstL_take hx
      (conv => whnf); refine And.intro (by omega) ?_
      (conv => whnf); refine recO (eC_at hx) ?_
      (conv => whnf); refine recA (fun hp => ?_) (fun hp => ?_)
      · replace hp : posE x = true := hp
        rw [if_pos hp] at hD
        (conv => whnf); refine And.intro (by omega) ?_
        (conv => whnf); refine recO (eC_at hx) ?_
        (conv => whnf); refine recT (by rw [eC_length]; exact Nat.beq_refl _) ?_
        (conv => whnf); refine And.intro (⟨roomMul (by simp; omega) (by omega), roomB_le (by simp; omega), rfl, by rw [eC_length]⟩) ?_
        conv => whnf
        have hDl : (eC (dstL (b.take k)) ++ [[AVal.list false 3 (vC x.row), .int .i64 1]]).length = (dstL (b.take (k + 1))).length := by rw [hD, List.length_append, List.length_append, eC_length]; rfl
        refine ⟨m - 1, by omega, Gp.one 0 2 (eC (dstL (b.take (k + 1)))) (by rw [hD, eC_append]; rfl) (pureEs_eC _) rfl ?_ fun ρ1 h => ⟨k + 1, by omega, rfl, h⟩⟩
        exact ⟨cl _ _ _ _ (pureEs_eC _), pubSl (k := 0) rfl rfl hDl hDl, pub_int (wrapI _ (by omega) (by omega)), trivial⟩
      · replace hp : posE x = false := hp
        rw [if_neg (by simp [hp]), List.append_nil] at hD
        conv => whnf
        refine ⟨m - 1, by omega, Gp.one 0 2 (eC (dstL (b.take (k + 1)))) (by rw [hD]; rfl) (pureEs_eC _) rfl ?_ fun ρ1 h => ⟨k + 1, by omega, rfl, h⟩⟩
        exact ⟨cl _ _ _ _ (pureEs_eC _), by rw [hD]; exact pubSl (k := 0) rfl rfl rfl rfl, pub_int (wrapI _ (by omega) (by omega)), trivial⟩
    · simp [eC_length] at hlt
      rw [List.take_of_length_le hlt]
      conv => whnf
      refine Ghost.none (n := 37) (live := [(5, .list false 2 (eC (dstL b)))]) rfl ?_ ?_
      · exact ⟨pubF rfl (eC_length _).symm (eC_length _).symm (pureEs_eC _), trivial⟩
      rintro ρ1 ⟨d, rfl⟩
      have hl2 := dstL_len b
      have hrw : ∀ e ∈ dstL b, e.row.length ≤ 1000 := fun e he => by
        obtain ⟨x, hx, hr⟩ := dstL_row he
        have := (rowOk_of (bag_rowOk h0 x hx) hr).1
        omega
      (conv => whnf); refine ACalls.use (ref6_result_spec F.warehouseref6_result false (dstL b) (by omega) hrw _) ?_
      rw [resR_P, dstP_res h0]
      conv => whnf
      rw [dstP, if_neg (by simp [h0])]
      exact pub2 (.closed (.list false 2 (eC (dstL b))) (by simp [AVal.closed, AVal.isPure])) (.closed _ rfl)
  · (conv => whnf); refine recT (by show (!(bagB b == 0)) = true; simp [h0]) ?_
    conv => whnf
    rw [dstP, if_pos h0, tR, if_pos h0]
    exact pub2 (.closed _ rfl) (.closed _ rfl)

theorem bag_Distinct_w {P : Program} (F : F_bag_Distinct P) (ex : Bool) (b : List Ent) (H : List AObj) :
    ACalls P F.id [.list ex 2 (eC b)] H (fun r H' => r = rV (dstP b) ∧ H' = H) := (bag_Distinct_raw F ex b H).goodW rfl (dstP_good b)

theorem ref6_Distinct_w {P : Program} (F : F_warehouseref6_Distinct P) (ex : Bool) (b : List Ent) (H : List AObj) :
    ACalls P F.id [.list ex 2 (eC b)] H (fun r H' => r = rV (dstP b) ∧ H' = H) := (ref6_Distinct_raw F ex b H).goodW rfl (dstP_good b)

end Go.AW

namespace Go.AW
attribute [local irreducible] ACalls
def excE (b : List Ent) (x : Ent) : Ent := ⟨x.row, max (x.cnt - cntL b x.row) 0⟩

def excL (a b : List Ent) : List Ent := (a.map (excE b)).filter nzB

def excP (a b : List Ent) : List Ent × Int :=
  if bagB a ≠ 0 then ([], bagB a) else if bagB b ≠ 0 then ([], bagB b) else if (a.all posE && b.all posE) = true then (excL a b, 0) else ([], 8)

def mx0 (l : List Ent) : List Ent := l.map fun e => ⟨e.row, max 0 e.cnt⟩

theorem srt_map {l : List Ent} {f : Ent → Ent} (hf : ∀ e, (f e).row = e.row) (h : Srt l) : Srt (l.map f) := by
  rw [Srt, List.pairwise_map]
  simp only [hf]; exact h

theorem cntL_map {l : List Ent} {f : Ent → Ent} {g : Int → Int} (hf : ∀ e ∈ l, (f e).row = e.row ∧ (f e).cnt = g e.cnt) (h : Srt l) (r : List V) (hg : (∀ e ∈ l, rowsCmp e.row r ≠ 0) → g 0 = 0) : cntL (l.map f) r = g (cntL l r) := by
  by_cases hz : ∃ e ∈ l, rowsCmp e.row r = 0
  · obtain ⟨e, he, h0⟩ := hz
    have hs : Srt (l.map f) := by
      rw [Srt, List.pairwise_map]
      refine List.Pairwise.imp_of_mem ?_ h
      intro x y hx hy hxy
      rw [(hf x hx).1, (hf y hy).1]; exact hxy
    have h1 := cntL_mem hs (List.mem_map_of_mem (f := f) he)
    rw [(hf e he).1, (hf e he).2] at h1
    rw [← (rowsCmp_zero _ _).1 h0, h1, cntL_mem h he]
  · have hn : ∀ e ∈ l, rowsCmp e.row r ≠ 0 := fun e he h0 => hz ⟨e, he, h0⟩
    rw [cntL_zero l r hn, hg hn, cntL_zero]
    intro e he
    obtain ⟨x, hx, rfl⟩ := List.mem_map.1 he
    rw [(hf x hx).1]
    exact hn x hx

theorem cnt_pos {b : List Ent} (hp : b.all posE = true) : ∀ r, 0 ≤ cntL b r := by
  induction b with
  | nil => intro r; exact Int.le_refl _
  | cons x b ih =>
    intro r
    rw [List.all_cons, Bool.and_eq_true] at hp
    have h1 := ih hp.2 r
    have h2 : 0 < x.cnt := by simpa [posE] using hp.1
    rw [cntL]; split <;> omega

theorem excE_cnt {a b : List Ent} (sa : Srt a) (hp : b.all posE = true) (r : List V) : cntL (a.map (excE b)) r = max (cntL a r - cntL b r) 0 := by
  have hb := cnt_pos hp r
  by_cases hz : ∃ e ∈ a, rowsCmp e.row r = 0
  · obtain ⟨e, he, h0⟩ := hz
    have hs : Srt (a.map (excE b)) := srt_map (fun _ => rfl) sa
    have h1 := cntL_mem hs (List.mem_map_of_mem (f := excE b) he)
    have e1 : (excE b e).row = e.row := rfl
    have e2 : (excE b e).cnt = max (e.cnt - cntL b e.row) 0 := rfl
    rw [e1, e2] at h1
    rw [← (rowsCmp_zero _ _).1 h0, h1, cntL_mem sa he]
  · have hn : ∀ e ∈ a, rowsCmp e.row r ≠ 0 := fun e he h0 => hz ⟨e, he, h0⟩
    rw [cntL_zero a r hn, cntL_zero]
    · omega
    · intro e he
      obtain ⟨x, hx, rfl⟩ := List.mem_map.1 he
      exact hn x hx

theorem exc_small {a b : List Ent} (ha : bagB a = 0) (hp : b.all posE = true) (r : List V) : smallB (max (cntL a r - cntL b r) 0) = true := by
  have h1 := bag_small ha r
  have h2 := cnt_pos hp r
  rw [smallB_iff]; omega

theorem excL_len (a b : List Ent) : (excL a b).length ≤ a.length := by
  have := List.length_filter_le nzB (a.map (excE b))
  rwa [List.length_map] at this

theorem exc_res {a b : List Ent} (ha : bagB a = 0) (hb : bagB b = 0) (hp : b.all posE = true) : resP (mx0 (mrg a (sgn (-1) b))) = (excL a b, 0) := by
  have sa := bag_srt ha
  have sb := bag_srt hb
  have sM : Srt (mrg a (sgn (-1) b)) := srt_mrg _ _ sa (srt_sgn sb)
  have hc : ∀ r, cntL (mx0 (mrg a (sgn (-1) b))) r = max 0 (cntL a r - cntL b r) := fun r => by
    rw [mx0, cntL_map (f := fun e => ⟨e.row, max 0 e.cnt⟩) (g := fun n => max 0 n) (fun e _ => ⟨rfl, rfl⟩) sM r (fun _ => rfl), cntL_mrg, cntL_sgn]
    show max 0 _ = _
    congr 1
  have sX : Srt (mx0 (mrg a (sgn (-1) b))) := srt_map (fun _ => rfl) sM
  have nz : ∀ (l : List Ent), ∀ e ∈ l.filter nzB, e.cnt ≠ 0 := fun l e he => by have := (List.mem_filter.1 he).2; simpa [nzB] using this
  have e1 : (mx0 (mrg a (sgn (-1) b))).filter nzB = excL a b := bag_ext _ _ (srt_filter _ sX) (srt_filter _ (srt_map (fun _ => rfl) sa)) (nz _) (nz _) fun r => by
    rw [cntF_nz, hc, excL, cntF_nz, excE_cnt sa hp]; omega
  have h1 : ((mx0 (mrg a (sgn (-1) b))).all fun e => smallB e.cnt) = true := List.all_eq_true.2 fun e he => by
    rw [← cntL_mem sX he, hc]
    have := exc_small ha hp e.row
    rwa [show max 0 (cntL a e.row - cntL b e.row) = max (cntL a e.row - cntL b e.row) 0 by omega]
  rw [resP, e1, if_pos ⟨h1, Nat.le_trans (excL_len a b) (bag_len ha)⟩]

theorem excP_good (a b : List Ent) : Good (excP a b) := by
  unfold excP
  split
  · exact good_err _
  · split
    · exact good_err _
    · rename_i h1 h2
      split
      · rename_i h3
        rw [Bool.and_eq_true] at h3
        rw [← exc_res (nz0 h1) (nz0 h2) h3.2]
        refine resP_good (srt_map (fun _ => rfl) (srt_mrg _ _ (bag_srt (nz0 h1)) (srt_sgn (bag_srt (nz0 h2))))) fun e he => ?_
        obtain ⟨x, hx, rfl⟩ := List.mem_map.1 he
        exact mrg_rowOk (bag_rowOk (nz0 h1)) (sgn_rowOk (bag_rowOk (nz0 h2))) x hx
      · exact good_err _

theorem cntL_pre {pre t : List Ent} {r : List V} (h : ∀ e ∈ pre, rowsCmp e.row r < 0) : cntL (pre ++ t) r = cntL t r := by
  rw [cntL_append, cntL_zero pre r fun e he h0 => by have := h e he; omega]; omega

theorem cntL_hd {t : List Ent} {y : Ent} {r : List V} (hs : Srt (y :: t)) (h : 0 ≤ rowsCmp y.row r) : cntL (y :: t) r = if rowsCmp y.row r = 0 then y.cnt else 0 := by
  have hz : cntL t r = 0 := cntL_zero t r fun e he h0 => by
    have h1 := (List.pairwise_cons.1 hs).1 e he
    rw [(rowsCmp_zero _ _).1 h0] at h1
    omega
  rw [cntL, hz]; omega

end Go.AW

namespace Go.AW
attribute [local irreducible] ACalls
theorem tabB_eq {b : List Ent} (h : bagB b = 0) : tabB b = b.all posE := by rw [tabB, h]; rfl

theorem exc_take {a b : List Ent} {k : Nat} {x : Ent} (h : a[k]? = some x) : excL (a.take (k + 1)) b = putL (excL (a.take k) b) x.row (max (x.cnt - cntL b x.row) 0) := by
  rw [List.take_add_one, h, excL, excL, List.map_append, List.filter_append, putL]
  show _ ++ ([excE b x].filter nzB) = _
  by_cases hz : max (x.cnt - cntL b x.row) 0 = 0
  · rw [if_pos hz, List.filter_cons, if_neg (by simp [nzB, excE, hz])]; simp
  · rw [if_neg hz, List.filter_cons, if_pos (by simp [nzB, excE, hz])]; rfl

theorem srt_drop {l : List Ent} (h : Srt l) (k : Nat) : Srt (l.drop k) := List.Pairwise.sublist (List.drop_sublist k l) h

set_option maxHeartbeats 1000000 in
set_option maxRecDepth 20000 in
theorem bag_Except_raw {P : Program} (F : F_bag_Except P) (e1 e2 : Bool) (a b : List Ent) (H : List AObj) :
    ACalls P F.id [.list e1 2 (eC a), .list e2 2 (eC b)] H (fun r H' => r = tR (excP a b) ∧ H' = H) := by
  refine ACalls.pure (by simp [AVal.closed, AVal.isPure]) (acalls_of_body F.has ?_)
  (conv => whnf); refine ACalls.use (both_spec F.bag_both e1 e2 a b _) ?_
  by_cases h1 : bagB a ≠ 0
  · rw [if_pos h1]
    (conv => whnf); refine recT (by show (!(bagB a == 0)) = true; simp [h1]) ?_
    conv => whnf
    rw [excP, if_pos h1, tR, if_pos h1]
    exact pub2 (.closed _ rfl) (.closed _ rfl)
  replace h1 := nz0 h1
  rw [if_neg (by simp [h1])]
  by_cases h2 : bagB b ≠ 0
  · (conv => whnf); refine recT (by show (!(bagB b == 0)) = true; simp [h2]) ?_
    conv => whnf
    rw [excP, if_neg (by simp [h1]), if_pos h2, tR, if_pos h2]
    exact pub2 (.closed _ rfl) (.closed _ rfl)
  replace h2 := nz0 h2
  (conv => whnf); refine recF (by rw [h2]; rfl) ?_
  have bad : (a.all posE && b.all posE) = false → tR (excP a b) = .tuple [.nil, .int .i64 8] := fun h => by
    rw [excP, if_neg (by simp [h1]), if_neg (by simp [h2]), if_neg (by simp [h])]; rfl
  (conv => whnf); refine ACalls.use (bag_IsTable_spec F.bag_IsTable e1 a _) ?_
  rw [tabB_eq h1]
  (conv => whnf); refine recA (fun g1 => ?_) (fun g1 => ?_)
  · replace g1 : (!(a.all posE)) = true := g1
    have g2 : a.all posE = false := by simpa using g1
    conv => whnf
    rw [bad (by rw [g2]; rfl)]
    exact pub2 (.closed _ rfl) (.closed _ rfl)
  replace g1 : (!(a.all posE)) = false := g1
  have p1 : a.all posE = true := by simpa using g1
  (conv => whnf); refine ACalls.use (bag_IsTable_spec F.bag_IsTable e2 b _) ?_
  rw [tabB_eq h2]
  (conv => whnf); refine recA (fun g2 => ?_) (fun g2 => ?_)
  · replace g2 : (!(b.all posE)) = true := g2
    have g3 : b.all posE = false := by simpa using g2
    conv => whnf
    rw [bad (by rw [g3, Bool.and_false])]
    exact pub2 (.closed _ rfl) (.closed _ rfl)
  replace g2 : (!(b.all posE)) = false := g2
  have p2 : b.all posE = true := by simpa using g2
  have hR : excP a b = (excL a b, 0) := by rw [excP, if_neg (by simp [h1]), if_neg (by simp [h2]), if_pos (by rw [p1, p2]; rfl)]
  rw [hR]
  clear bad g1 g2 hR
  have sa := bag_srt h1
  have sb := bag_srt h2
  have la := bag_len h1
  have lb := bag_len h2
  have cl0 : ∀ (f : Bool) (z : Nat) (y : List (List AVal)) (H1 : List AObj), pureEs y = true → Pub H1 0 [0] (.list f z y) (.list f z y) := fun f z y H1 hy => .closed _ (by simpa [AVal.closed, AVal.isPure, pureEs] using hy)
  have cl1 : ∀ (f : Bool) (z : Nat) (y : List (List AVal)) (H1 : List AObj), pureEs y = true → Pub H1 0 [0, 1] (.list f z y) (.list f z y) := fun f z y H1 hy => .closed _ (by simpa [AVal.closed, AVal.isPure, pureEs] using hy)
  conv => whnf
  refine ⟨fun m ρ H1 => ∃ (k : Nat) (pre t : List Ent) (f : Bool), k + m = a.length ∧ b = pre ++ t ∧ (∀ e ∈ pre, ∀ x ∈ a.drop k, rowsCmp e.row x.row < 0) ∧ H1 = [.arr 2 (eC (excL (a.take k) b))] ∧
    Sv 78 [(1, .list f 2 (eC t)), (7, .sl 0 (excL (a.take k) b).length 0 (excL (a.take k) b).length), (25, .list e1 2 (eC a)), (26, .int .i64 a.length), (27, .int .i64 k)] ρ, a.length, [(7, 2)], ?_, ?_⟩
  · exact ⟨0, [], b, e2, by omega, rfl, fun e he => absurd he (by simp), rfl, Sv.intro rfl ⟨rfl, rfl, rfl, intEq (by rw [eC_length]), rfl, trivial⟩⟩
  rintro m ρ H1 ⟨k, pre0, t0, f0, hk, hbp0, hpre0, rfl, d, rfl⟩
  have hOl := excL_len (a.take k) b
  rw [List.length_take] at hOl
  (conv => whnf); refine recA (fun hlt => ?_) (fun hlt => ?_)
  · simp at hlt
    obtain ⟨x, hx, hxd, hxm⟩ := get_drop hlt
    have hxr := (bag_rowOk h1 x hxm).1
    have hxc := fitB_zero x (((bagB_iff a).1 h1).2.1 x hxm).1
    have hlater : ∀ z ∈ a.drop (k + 1), rowsCmp x.row z.row < 0 := by
      have := srt_drop sa k
      rw [hxd] at this
      exact (List.pairwise_cons.1 this).1
    (conv => whnf); refine And.intro (by omega) ?_
    (conv => whnf); refine recO (eC_at hx) ?_
    conv => whnf
    refine ⟨fun m1 ρ1 H2 => ∃ (pre t : List Ent) (f : Bool), m1 = t.length ∧ b = pre ++ t ∧ (∀ e ∈ pre, rowsCmp e.row x.row < 0) ∧ H2 = [.arr 2 (eC (excL (a.take k) b)), .arr 2 [entC x]] ∧
      Sv 78 [(1, .list f 2 (eC t)), (7, .sl 0 (excL (a.take k) b).length 0 (excL (a.take k) b).length), (9, .ptr 1 1 0 0), (25, .list e1 2 (eC a)), (26, .int .i64 a.length), (27, .int .i64 k)] ρ1, t0.length, [], ?_, ?_⟩
    · exact ⟨pre0, t0, f0, rfl, hbp0, fun e he => hpre0 e he x (by rw [hxd]; exact List.mem_cons_self ..), rfl, Sv.intro rfl ⟨rfl, rfl, rfl, rfl, rfl, rfl, trivial⟩⟩
    clear hpre0
    rintro m1 ρ1 H2 ⟨pre, t, f, rfl, hbp, hpre, rfl, d1, rfl⟩
    have hcb : cntL b x.row = cntL t x.row := by rw [hbp]; exact cntL_pre hpre
    (conv => whnf); refine recA (fun ht => ?_) (fun ht => ?_)
    · simp [eC_length] at ht
      obtain ⟨y, t2, rfl⟩ : ∃ y t2, t = y :: t2 := by cases t with | nil => simp at ht | cons y t2 => exact ⟨y, t2, rfl⟩
      have hym : y ∈ b := by rw [hbp]; simp
      have hyr := (bag_rowOk h2 y hym).1
      have hyc := fitB_zero y (((bagB_iff b).1 h2).2.1 y hym).1
      have st : Srt (y :: t2) := by rw [hbp] at sb; exact (List.pairwise_append.1 sb).2.1
      (conv => whnf); refine And.intro (by decide) ?_
      (conv => whnf); refine ⟨_, value_CompareRows_spec F.value_CompareRows false false y.row x.row (by omega) _, ?_⟩
      (conv => whnf); refine recA (fun hq => ?_) (fun hq => ?_)
      · replace hq : decide (rowsCmp y.row x.row < 0) = true := hq
        simp at hq
        conv => whnf
        refine And.intro ⟨by omega, by rw [eC_length, List.length_cons]; omega⟩ ?_
        conv => whnf
        have ctl : List.drop (1 : Int).toNat (List.take (eC (y :: t2)).length (eC (y :: t2))) = eC t2 := tailE (y :: t2)
        refine ⟨t2.length, by simp, Gp.two 0 1 (by decide) 2 2 (eC (excL (a.take k) b)) [entC x] rfl rfl (pureEs_eC _) (pureEs_eC [x]) rfl ?_ fun ρ2 h => ⟨pre ++ [y], t2, (f && (none : Option AOpd).isNone), rfl, by rw [hbp]; simp, ?_, rfl, h⟩⟩
        · exact ⟨pubL ctl, pubSl (k := 0) rfl rfl rfl rfl, .keepP 1 1 0 0 1 rfl, cl1 _ _ _ _ (pureEs_eC _), .closed _ rfl, .closed _ rfl, trivial⟩
        · intro e he
          rcases List.mem_append.1 he with he | he
          · exact hpre e he
          · rw [List.mem_singleton.1 he]; exact hq
      · replace hq : decide (rowsCmp y.row x.row < 0) = false := hq
        simp at hq
        have hct := hcb.trans (cntL_hd st hq)
        (conv => whnf); refine recT (by simp [eC_length]; try omega) ?_
        (conv => whnf); refine And.intro (by decide) ?_
        (conv => whnf); refine ⟨_, value_CompareRows_spec F.value_CompareRows false false y.row x.row (by omega) _, ?_⟩
        (conv => whnf); refine recA (fun hz => ?_) (fun hz => ?_)
        · replace hz : (rowsCmp y.row x.row == 0) = true := hz
          have hz2 : rowsCmp y.row x.row = 0 := by simpa using hz
          rw [if_pos hz2] at hct
          have ew := wrapI (x.cnt - y.cnt) (by omega) (by omega)
          (conv => whnf); refine And.intro (by decide) ?_
          conv => whnf
          have hcc : max ((IntKind.i64.wrap (x.cnt - y.cnt))) 0 = max (x.cnt - cntL b x.row) 0 := by rw [ew, hct]
          have hn : (if (0 : Int) > (IntKind.i64.wrap (x.cnt - y.cnt)) then (0 : Int) else (IntKind.i64.wrap (x.cnt - y.cnt))) = max (x.cnt - cntL b x.row) 0 := by
            rw [← hcc]; split <;> omega
          rw [hn]
          (conv => whnf); refine ACalls.mono (put_gen F.bag_put false (excL (a.take k) b) (by omega) x.row (by omega) (max (x.cnt - cntL b x.row) 0) (by rw [← cntL_mem sa hxm]; exact exc_small h1 p2 x.row) 0 _ rfl) ?_
          rintro r H1 ⟨rfl, rfl⟩
          rw [← exc_take hx]
          conv => whnf
          refine ⟨m - 1, by omega, Gp.one 0 2 (eC (excL (a.take (k + 1)) b)) rfl (pureEs_eC _) rfl ?_ fun ρ2 h => ⟨k + 1, pre, (y :: t2), f, by omega, hbp, fun e he z hz => rowsCmp_trans _ _ _ (hpre e he) (hlater z hz), rfl, h⟩⟩
          exact ⟨cl0 _ _ _ _ (pureEs_eC _), pubSl (k := 0) rfl rfl rfl rfl, cl0 _ _ _ _ (pureEs_eC _), .closed _ rfl, pub_int (wrapI _ (by omega) (by omega)), trivial⟩
        · replace hz : (rowsCmp y.row x.row == 0) = false := hz
          have hz2 : rowsCmp y.row x.row ≠ 0 := by simpa using hz
          rw [if_neg hz2] at hct
          conv => whnf
          have hcc : max (x.cnt) 0 = max (x.cnt - cntL b x.row) 0 := by rw [hct, Int.sub_zero]
          have hn : (if (0 : Int) > x.cnt then (0 : Int) else x.cnt) = max (x.cnt - cntL b x.row) 0 := by
            rw [← hcc]; split <;> omega
          rw [hn]
          (conv => whnf); refine ACalls.mono (put_gen F.bag_put false (excL (a.take k) b) (by omega) x.row (by omega) (max (x.cnt - cntL b x.row) 0) (by rw [← cntL_mem sa hxm]; exact exc_small h1 p2 x.row) 0 _ rfl) ?_
          rintro r H1 ⟨rfl, rfl⟩
          rw [← exc_take hx]
          conv => whnf
          refine ⟨m - 1, by omega, Gp.one 0 2 (eC (excL (a.take (k + 1)) b)) rfl (pureEs_eC _) rfl ?_ fun ρ2 h => ⟨k + 1, pre, (y :: t2), f, by omega, hbp, fun e he z hz => rowsCmp_trans _ _ _ (hpre e he) (hlater z hz), rfl, h⟩⟩
          exact ⟨cl0 _ _ _ _ (pureEs_eC _), pubSl (k := 0) rfl rfl rfl rfl, cl0 _ _ _ _ (pureEs_eC _), .closed _ rfl, pub_int (wrapI _ (by omega) (by omega)), trivial⟩
    · simp [eC_length] at ht
      subst ht
      have hct : cntL b x.row = 0 := hcb
      conv => whnf
      have hcc : max (x.cnt) 0 = max (x.cnt - cntL b x.row) 0 := by rw [hct, Int.sub_zero]
      have hn : (if (0 : Int) > x.cnt then (0 : Int) else x.cnt) = max (x.cnt - cntL b x.row) 0 := by
        rw [← hcc]; split <;> omega
      rw [hn]
      (conv => whnf); refine ACalls.mono (put_gen F.bag_put false (excL (a.take k) b) (by omega) x.row (by omega) (max (x.cnt - cntL b x.row) 0) (by rw [← cntL_mem sa hxm]; exact exc_small h1 p2 x.row) 0 _ rfl) ?_
      rintro r H1 ⟨rfl, rfl⟩
      rw [← exc_take hx]
      conv => whnf
      refine ⟨m - 1, by omega, Gp.one 0 2 (eC (excL (a.take (k + 1)) b)) rfl (pureEs_eC _) rfl ?_ fun ρ2 h => ⟨k + 1, pre, [], f, by omega, hbp, fun e he z hz => rowsCmp_trans _ _ _ (hpre e he) (hlater z hz), rfl, h⟩⟩
      exact ⟨cl0 _ _ _ _ (pureEs_eC _), pubSl (k := 0) rfl rfl rfl rfl, cl0 _ _ _ _ (pureEs_eC _), .closed _ rfl, pub_int (wrapI _ (by omega) (by omega)), trivial⟩
  · simp at hlt
    rw [List.take_of_length_le hlt]
    conv => whnf
    exact pub2 (pubF rfl (eC_length _).symm (eC_length _).symm (pureEs_eC _)) (.closed _ rfl)

end Go.AW

namespace Go.AW
attribute [local irreducible] ACalls
def lx (M : List Ent) (k : Nat) : List Ent := mx0 (M.take k) ++ M.drop k

theorem lx_len (M : List Ent) (k : Nat) : (lx M k).length = M.length := by
  rw [lx, mx0, List.length_append, List.length_map, ← List.length_append, List.take_append_drop]

theorem lx_get {M : List Ent} {k : Nat} {x : Ent} (h : M[k]? = some x) : (lx M k)[k]? = some x := by
  have hk := (List.getElem?_eq_some_iff.1 h).1
  rw [lx, List.getElem?_append_right (by rw [mx0, List.length_map, List.length_take]; omega), mx0, List.length_map, List.length_take, show k - min k M.length = 0 by omega, List.getElem?_drop]
  exact h

theorem lx_set {M : List Ent} {k : Nat} {x : Ent} (h : M[k]? = some x) : (lx M k).set k ⟨x.row, max 0 x.cnt⟩ = lx M (k + 1) := by
  have hk := (List.getElem?_eq_some_iff.1 h).1
  have hl : (mx0 (M.take k)).length = k := by rw [mx0, List.length_map, List.length_take]; omega
  obtain ⟨y, hy, hd, _⟩ := get_drop hk
  rw [h] at hy; cases hy
  rw [lx, hd, List.set_append_right _ _ (by omega), hl, Nat.sub_self, List.set_cons_zero, lx, List.take_add_one, h, mx0, mx0, List.map_append, List.append_assoc]
  rfl

theorem lx_all (M : List Ent) : lx M M.length = mx0 M := by rw [lx, List.take_length, List.drop_length, List.append_nil]

theorem mx0_row {M : List Ent} {n : Nat} (h : ∀ e ∈ M, e.row.length ≤ n) : ∀ e ∈ mx0 M, e.row.length ≤ n := fun e he => by
  obtain ⟨x, hx, rfl⟩ := List.mem_map.1 he
  exact h x hx

set_option maxRecDepth 20000 in
theorem ref6_Except_raw {P : Program} (F : F_warehouseref6_Except P) (e1 e2 : Bool) (a b : List Ent) (H : List AObj) :
    ACalls P F.id [.list e1 2 (eC a), .list e2 2 (eC b)] H (fun r H' => r = tR (excP a b) ∧ H' = H) := by
  refine ACalls.pure (by simp [AVal.closed, AVal.isPure]) (acalls_of_body F.has ?_)
  (conv => whnf); refine ACalls.use (two_spec F.warehouseref6_two e1 e2 a b _) ?_
  by_cases h1 : bagB a ≠ 0
  · rw [if_pos h1]
    (conv => whnf); refine recT (by show (!(bagB a == 0)) = true; simp [h1]) ?_
    conv => whnf
    rw [excP, if_pos h1, tR, if_pos h1]
    exact pub2 (.closed _ rfl) (.closed _ rfl)
  replace h1 := nz0 h1
  rw [if_neg (by simp [h1])]
  by_cases h2 : bagB b ≠ 0
  · (conv => whnf); refine recT (by show (!(bagB b == 0)) = true; simp [h2]) ?_
    conv => whnf
    rw [excP, if_neg (by simp [h1]), if_pos h2, tR, if_pos h2]
    exact pub2 (.closed _ rfl) (.closed _ rfl)
  replace h2 := nz0 h2
  (conv => whnf); refine recF (by rw [h2]; rfl) ?_
  have bad : (a.all posE && b.all posE) = false → tR (excP a b) = .tuple [.nil, .int .i64 8] := fun h => by
    rw [excP, if_neg (by simp [h1]), if_neg (by simp [h2]), if_neg (by simp [h])]; rfl
  have la := bag_len h1
  have lb := bag_len h2
  (conv => whnf); refine ACalls.use (ref6_positive_spec F.warehouseref6_positive e1 a (by omega) _) ?_
  (conv => whnf); refine recA (fun g1 => ?_) (fun g1 => ?_)
  · replace g1 : (!(a.all posE)) = true := g1
    have g2 : a.all posE = false := by simpa using g1
    conv => whnf
    rw [bad (by rw [g2]; rfl)]
    exact pub2 (.closed _ rfl) (.closed _ rfl)
  replace g1 : (!(a.all posE)) = false := g1
  have p1 : a.all posE = true := by simpa using g1
  (conv => whnf); refine ACalls.use (ref6_positive_spec F.warehouseref6_positive e2 b (by omega) _) ?_
  (conv => whnf); refine recA (fun g2 => ?_) (fun g2 => ?_)
  · replace g2 : (!(b.all posE)) = true := g2
    have g3 : b.all posE = false := by simpa using g2
    conv => whnf
    rw [bad (by rw [g3, Bool.and_false])]
    exact pub2 (.closed _ rfl) (.closed _ rfl)
  replace g2 : (!(b.all posE)) = false := g2
  have p2 : b.all posE = true := by simpa using g2
  have hR : excP a b = (excL a b, 0) := by rw [excP, if_neg (by simp [h1]), if_neg (by simp [h2]), if_pos (by rw [p1, p2]; rfl)]
  rw [hR]
  clear bad g1 g2 hR
  obtain ⟨a1, a2, _⟩ := bagB_ok h1
  obtain ⟨b1, b2, _⟩ := bagB_ok h2
  have hres := exc_res h1 h2 p2
  (conv => whnf); refine ACalls.use (ref6_negated_spec F.warehouseref6_negated e2 b (by omega) b2 _) ?_
  (conv => whnf); refine ACalls.mono (ref6_merge_raw F.warehouseref6_merge e1 false a (sgn (-1) b) (by omega) (by rw [sgn_len]; omega) a2 (sgn_ok b2)) ?_
  rintro r H1 ⟨rfl, rfl⟩
  have hMl : (mrg a (sgn (-1) b)).length ≤ 8192 := by have := mrg_length a (sgn (-1) b); rw [sgn_len] at this; omega
  have hMr : ∀ e ∈ mrg a (sgn (-1) b), e.row.length ≤ 1000 := mrg_row a _ (fun e h => by have := (a2 e h).1; omega) (fun e h => by have := (sgn_ok b2 e h).1; omega)
  obtain ⟨M, hM⟩ : ∃ M, M = mrg a (sgn (-1) b) := ⟨_, rfl⟩
  rw [← hM] at hres hMl hMr ⊢
  conv => whnf
  refine ⟨fun m ρ H1 => ∃ k : Nat, k + m = M.length ∧ H1 = [.arr 2 (eC (lx M k))] ∧ Sv 47 [(7, .sl 0 M.length 0 M.length), (8, .int .i64 k)] ρ, M.length, [], ?_, ?_⟩
  · exact ⟨0, by omega, rfl, Sv.intro rfl ⟨rfl, rfl, trivial⟩⟩
  rintro m ρ H1 ⟨k, hk, rfl, d, rfl⟩
  have hep : (eC (lx M k)).length = M.length := by rw [eC_length, lx_len]
  (conv => whnf); refine recT (by rw [hep]; exact Nat.beq_refl _) ?_
  (conv => whnf); refine recA (fun hlt => ?_) (fun hlt => ?_)
  · simp at hlt
    obtain ⟨x, hx, _, hxm⟩ := get_drop hlt
    have hx2 := lx_get hx
    (conv => whnf); refine recT (by rw [hep]; exact Nat.beq_refl _) ?_
    (conv => whnf); refine And.intro (by omega) ?_
    (conv => whnf); refine recT (by rw [hep]; exact Nat.beq_refl _) ?_
    (conv => whnf); refine recO (eC_at0 hx2) ?_
    (conv => whnf); refine recT (by rw [hep]; exact Nat.beq_refl _) ?_
    (conv => whnf); refine And.intro (by omega) ?_
    (conv => whnf); refine recT (by rw [hep]; exact Nat.beq_refl _) ?_
    (conv => whnf); refine recO (eC_at0 hx2) ?_
    conv => whnf
    have hN : (if x.cnt > 0 then x.cnt else 0) = max 0 x.cnt := by split <;> omega
    have hE : eC (lx M (k + 1)) = setEs (eC (lx M k)) (0 + k) (entC ⟨x.row, if x.cnt > 0 then x.cnt else 0⟩) := by rw [Nat.zero_add, setEs_eC, hN, lx_set hx]
    refine ⟨m - 1, by omega, Gp.one 0 2 (eC (lx M (k + 1))) (by rw [hE]; rfl) (pureEs_eC _) rfl ?_ fun ρ1 h => ⟨k + 1, by omega, rfl, h⟩⟩
    exact ⟨pubSl (k := 0) rfl rfl rfl rfl, pub_int (wrapI _ (by omega) (by omega)), trivial⟩
  · simp at hlt
    have hk2 : k = M.length := by omega
    subst hk2
    rw [lx_all] at hep ⊢
    conv => whnf
    refine Ghost.none (n := 47) (live := [(7, .list false 2 (eC (mx0 M)))]) rfl ?_ ?_
    · exact ⟨pubF rfl hep.symm hep.symm (pureEs_eC _), trivial⟩
    rintro ρ1 ⟨d, rfl⟩
    (conv => whnf); refine ACalls.use (ref6_result_spec F.warehouseref6_result false (mx0 M) (by rw [eC_length] at hep; omega) (mx0_row hMr) _) ?_
    rw [resR_P, hres]
    conv => whnf
    exact pub2 (.closed (.list false 2 (eC (excL a b))) (by simp [AVal.closed, AVal.isPure])) (.closed _ rfl)

theorem bag_Except_w {P : Program} (F : F_bag_Except P) (e1 e2 : Bool) (a b : List Ent) (H : List AObj) :
    ACalls P F.id [.list e1 2 (eC a), .list e2 2 (eC b)] H (fun r H' => r = rV (excP a b) ∧ H' = H) := (bag_Except_raw F e1 e2 a b H).goodW rfl (excP_good a b)

theorem ref6_Except_w {P : Program} (F : F_warehouseref6_Except P) (e1 e2 : Bool) (a b : List Ent) (H : List AObj) :
    ACalls P F.id [.list e1 2 (eC a), .list e2 2 (eC b)] H (fun r H' => r = rV (excP a b) ∧ H' = H) := (ref6_Except_raw F e1 e2 a b H).goodW rfl (excP_good a b)

end Go.AW

namespace Go.AW
attribute [local irreducible] ACalls
def tbV (l : List Int) (n : Nat) : List Ent := (bgV l n).filter posE

theorem bag_filter {b : List Ent} (h : bagB b = 0) (p : Ent → Bool) : bagB (b.filter p) = 0 := by
  obtain ⟨h1, h2, h3⟩ := (bagB_iff b).1 h
  exact (bagB_iff _).2 ⟨Nat.le_trans (List.length_filter_le _ _) h1, fun e he => h2 e (List.mem_filter.1 he).1, srt_filter p h3⟩

theorem tbV_ok (l : List Int) {n : Nat} (hn : n ≤ 1000) : bagB (tbV l n) = 0 ∧ (tbV l n).all posE = true ∧ (tbV l n).length ≤ n := by
  obtain ⟨_, h1, h2, h3⟩ := bgV_ok l hn
  refine ⟨bag_filter h1 _, List.all_eq_true.2 fun e he => (List.mem_filter.1 he).2, Nat.le_trans (List.length_filter_le _ _) h2⟩

set_option maxRecDepth 20000 in
theorem table6_spec {P : Program} (F : F_warehouselaw6_table P) (l : List Int) (n : Nat) (hn : n ≤ 1000) (H : List AObj) :
    ACalls P F.id [.list false 1 (iC l), .int .i64 n] H (fun r H' => r = .list false 2 (eC (tbV l n)) ∧ H' = H) := by
  obtain ⟨_, h1, h2, h3⟩ := bgV_ok l hn
  have hB := fun H => Bag_spec F.warehousebase_Bag l n hn H
  obtain ⟨b, eb⟩ : ∃ a, a = bgV l n := ⟨_, rfl⟩
  rw [tbV]
  rw [← eb] at h1 h2 hB ⊢
  refine ACalls.pure rfl (acalls_of_body F.has ?_)
  (conv => whnf); refine ACalls.use (hB _) ?_
  conv => whnf
  refine ⟨fun m ρ H1 => ∃ k : Nat, k + m = b.length ∧ H1 = [.arr 2 (eC ((b.take k).filter posE))] ∧ Sv 31 [(5, .sl 0 ((b.take k).filter posE).length 0 ((b.take k).filter posE).length), (6, .list false 2 (eC b)), (7, .int .i64 k)] ρ, b.length, [(5, 2)], ?_, ?_⟩
  · exact ⟨0, by omega, rfl, Sv.intro rfl ⟨rfl, rfl, rfl, trivial⟩⟩
  rintro m ρ H1 ⟨k, hk, rfl, d, rfl⟩
  have hOl := List.length_filter_le posE (b.take k)
  rw [List.length_take] at hOl
  have cl : ∀ (f : Bool) (z : Nat) (y : List (List AVal)) (H1 : List AObj), pureEs y = true → Pub H1 0 [0] (.list f z y) (.list f z y) := fun f z y H1 hy => .closed _ (by simpa [AVal.closed, AVal.isPure, pureEs] using hy)
  (conv => whnf); refine recA (fun hlt => ?_) (fun hlt => ?_)
  · simp [eC_length] at hlt
    obtain ⟨x, hx, _, hxm⟩ := get_drop hlt
    have hD : (b.take (k + 1)).filter posE = (b.take k).filter posE ++ (if posE x = true then [x] else []) := by
      rw [List.take_add_one, hx, List.filter_append]
      congr 1
      show [x].filter posE = _
      rw [List.filter_cons]; split <;> rfl
    (conv => whnf); refine And.intro (by omega) ?_
    (conv => whnf); refine recO (eC_at hx) ?_
    (conv => whnf); refine recA (fun hp => ?_) (fun hp => ?_)
    · replace hp : posE x = true := hp
      rw [if_pos hp] at hD
      (conv => whnf); refine And.intro (by omega) ?_
      (conv => whnf); refine recO (eC_at hx) ?_
      (conv => whnf); refine recT (by rw [eC_length]; exact Nat.beq_refl _) ?_
      (conv => whnf); refine And.intro (⟨roomMul (by simp; omega) (by omega), roomB_le (by simp; omega), rfl, by rw [eC_length]⟩) ?_
      conv => whnf
      have hDl : (eC ((b.take k).filter posE) ++ [entC x]).length = ((b.take (k + 1)).filter posE).length := by rw [hD, List.length_append, List.length_append, eC_length]; rfl
      refine ⟨m - 1, by omega, Gp.one 0 2 (eC ((b.take (k + 1)).filter posE)) (by rw [hD, eC_append]; rfl) (pureEs_eC _) rfl ?_ fun ρ1 h => ⟨k + 1, by omega, rfl, h⟩⟩
      exact ⟨pubSl (k := 0) rfl rfl hDl hDl, cl _ _ _ _ (pureEs_eC _), pub_int (wrapI _ (by omega) (by omega)), trivial⟩
    · replace hp : posE x = false := hp
      rw [if_neg (by simp [hp]), List.append_nil] at hD
      conv => whnf
      refine ⟨m - 1, by omega, Gp.one 0 2 (eC ((b.take (k + 1)).filter posE)) (by rw [hD]; rfl) (pureEs_eC _) rfl ?_ fun ρ1 h => ⟨k + 1, by omega, rfl, h⟩⟩
      exact ⟨by rw [hD]; exact pubSl (k := 0) rfl rfl rfl rfl, cl _ _ _ _ (pureEs_eC _), pub_int (wrapI _ (by omega) (by omega)), trivial⟩
  · simp [eC_length] at hlt
    rw [List.take_of_length_le hlt]
    conv => whnf
    exact pubF rfl (eC_length _).symm (eC_length _).symm (pureEs_eC _)

theorem table_and15 {P : Program} (F : F_warehouselaw6_table P) (l : List Int) (x : Int) : ∃ k : Nat, k ≤ 15 ∧ ∀ H, ACalls P F.id [.list false 1 (iC l), .int .i64 (and64 x 15)] H (fun r H' => r = .list false 2 (eC (tbV l k)) ∧ H' = H) := by
  obtain ⟨k, hk, e⟩ := and15 x
  exact ⟨k, hk, fun H => by rw [e]; exact table6_spec F l k (by omega) H⟩

theorem excT {a b : List Ent} (ha : bagB a = 0) (hb : bagB b = 0) (pa : a.all posE = true) (pb : b.all posE = true) :
    excP a b = (excL a b, 0) ∧ bagB (excL a b) = 0 ∧ (excL a b).all posE = true ∧ ∀ r, cntL (excL a b) r = max (cntL a r - cntL b r) 0 := by
  have e : excP a b = (excL a b, 0) := by rw [excP, if_neg (by simp [ha]), if_neg (by simp [hb]), if_pos (by rw [pa, pb]; rfl)]
  have g := (excP_good a b).1
  rw [e] at g
  refine ⟨e, g, List.all_eq_true.2 fun x hx => ?_, fun r => by rw [excL, cntF_nz, excE_cnt (bag_srt ha) pb]⟩
  obtain ⟨h1, h2⟩ := List.mem_filter.1 hx
  obtain ⟨y, _, rfl⟩ := List.mem_map.1 h1
  have h3 : (excE b y).cnt ≠ 0 := by simpa [nzB] using h2
  have h4 : 0 ≤ (excE b y).cnt := by show 0 ≤ max (y.cnt - cntL b y.row) 0; omega
  rw [posE, decide_eq_true (by omega)]

theorem dst_tab {a : List Ent} (ha : bagB a = 0) (pa : a.all posE = true) : dstP a = (dstL a, 0) ∧ (dstL a).length = a.length ∧ dstL (dstL a) = dstL a ∧ bagB (dstL a) = 0 := by
  have e : dstP a = (dstL a, 0) := by rw [dstP, if_neg (by simp [ha])]
  have g := (dstP_good a).1
  rw [e] at g
  have f : a.filter posE = a := List.filter_eq_self.2 fun x hx => List.all_eq_true.1 pa x hx
  refine ⟨e, by rw [dstL, List.length_map, f], ?_, g⟩
  have f2 : (dstL a).filter posE = dstL a := List.filter_eq_self.2 fun x hx => by rw [posE, dstL_one hx]; rfl
  rw [dstL, f2, dstL, List.map_map]; rfl

set_option maxRecDepth 20000 in
theorem law_BagExcepts {P : Program} (F : F_warehouselaw6_BagExcepts P) (hS : SortL P F.warehouselaw6_known.bag_Normalize) (r s : List Ent) (l m : List Int) (n : Int) :
    ACalls P F.id [.list false 2 (eC r), .list false 2 (eC s), .list false 1 (iC l), .list false 1 (iC m), .int .i64 n] [] (fun q _ => q = .bool true) := by
  have known := fun H => known6_spec F.warehouselaw6_known hS H
  obtain ⟨k1, hk1, hB1⟩ := table_and15 F.warehouselaw6_table l n
  obtain ⟨k2, hk2, hB2⟩ := table_and15 F.warehouselaw6_table m (shrI n 4)
  obtain ⟨x1, x2, x3⟩ := tbV_ok l (n := k1) (by omega)
  obtain ⟨y1, y2, y3⟩ := tbV_ok m (n := k2) (by omega)
  obtain ⟨x, ex⟩ : ∃ a, a = tbV l k1 := ⟨_, rfl⟩
  obtain ⟨y, ey⟩ : ∃ a, a = tbV m k2 := ⟨_, rfl⟩
  rw [← ex] at hB1 x1 x2 x3
  rw [← ey] at hB2 y1 y2 y3
  obtain ⟨c0, c1, c2, c3⟩ := excT x1 y1 x2 y2
  obtain ⟨b0, b1, b2, b3⟩ := excT x1 c1 x2 c2
  obtain ⟨a0, a1, a2, a3⟩ := excT y1 b1 y2 b2
  obtain ⟨r0, r1, r2, r3⟩ := excT y1 x1 y2 x2
  obtain ⟨o0, o1, o2, o3⟩ := dst_tab x1 x2
  have w0 : dstP (dstL x) = (dstL x, 0) := by rw [dstP, if_neg (by simp [o3]), o2]
  have e1 : excL y (excL x (excL x y)) = excL y x := bagB_ext a1 r1 fun r => by
    rw [a3, r3, b3, c3]
    have := cnt_pos x2 r
    have := cnt_pos y2 r
    omega
  refine acalls_of_body F.has ?_
  (conv => whnf); refine ACalls.use (light6_spec F.warehouselaw6_light false r _) ?_
  (conv => whnf); refine recA (fun h1 => ?_) (fun h1 => ?_)
  · conv => whnf
    refine (known _).mono ?_
    rintro r H1 ⟨rfl, rfl⟩
    conv => whnf
  (conv => whnf); refine ACalls.use (light6_spec F.warehouselaw6_light false s _) ?_
  (conv => whnf); refine recA (fun h2 => ?_) (fun h2 => ?_)
  · conv => whnf
    refine (known _).mono ?_
    rintro r H1 ⟨rfl, rfl⟩
    conv => whnf
  have E := fun a b H => bag_Except_w F.bag_Except false false a b H
  have D := fun a H => bag_Distinct_w F.bag_Distinct false a H
  have Exy := fun H => E x y H
  have Exy2 := fun H => ref6_Except_w F.warehouseref6_Except false false x y H
  have Exc := fun H => E x (excL x y) H
  have Eyb := fun H => E y (excL x (excL x y)) H
  have Eyx := fun H => E y x H
  have Dx := fun H => D x H
  have Dd := fun H => D (dstL x) H
  rw [c0] at Exy Exy2
  rw [b0] at Exc
  rw [a0] at Eyb
  rw [r0] at Eyx
  rw [o0] at Dx
  rw [w0] at Dd
  (conv => whnf); refine ACalls.use (E r s _) ?_
  (conv => whnf); refine ACalls.use (ref6_Except_w F.warehouseref6_Except false false r s _) ?_
  (conv => whnf); refine ACalls.use (hB1 _) ?_
  (conv => whnf); refine And.intro (by decide) ?_
  (conv => whnf); refine ACalls.use (hB2 _) ?_
  (conv => whnf); refine ACalls.use (Exy _) ?_
  (conv => whnf); refine ACalls.use (Exy2 _) ?_
  (conv => whnf); refine ACalls.use (D r _) ?_
  (conv => whnf); refine ACalls.use (ref6_Distinct_w F.warehouseref6_Distinct false r _) ?_
  (conv => whnf); refine ACalls.use (Exc _) ?_
  (conv => whnf); refine ACalls.use (Eyb _) ?_
  (conv => whnf); refine ACalls.use (Eyx _) ?_
  (conv => whnf); refine ACalls.use (Dx _) ?_
  (conv => whnf); refine ACalls.use (Dd _) ?_
  (conv => whnf); refine recF (by simp) ?_
  (conv => whnf); refine recF (by simp) ?_
  (conv => whnf); refine ACalls.use (Same_bag F.warehouseref6_Same false false _ _ (excP_good r s).1 _) ?_
  (conv => whnf); refine recT (eqD_true rfl) ?_
  (conv => whnf); refine ACalls.use (Same_bag F.warehouseref6_Same false false _ _ c1 _) ?_
  (conv => whnf); refine recT (eqD_true rfl) ?_
  (conv => whnf); refine ACalls.use (Same_bag F.warehouseref6_Same false false _ _ (dstP_good r).1 _) ?_
  (conv => whnf); refine recT (eqD_true rfl) ?_
  (conv => whnf); refine ACalls.use (Same_bag F.warehouseref6_Same false false _ _ a1 _) ?_
  (conv => whnf); refine recT (eqD_true e1) ?_
  (conv => whnf); refine ACalls.use (Same_bag F.warehouseref6_Same false false _ _ o3 _) ?_
  (conv => whnf); refine recT (eqD_true rfl) ?_
  (conv => whnf); refine recT (by simp [eC_length, o1]) ?_
  (conv => whnf); refine ACalls.mono (known _) ?_
  rintro r H1 ⟨rfl, rfl⟩
  conv => whnf

end Go.AW

namespace Go.AW
attribute [local irreducible] ACalls
def rwA (R : List (List V)) : List AVal := R.map fun r => .list false 3 (vC r)

def rwC (R : List (List V)) : List (List AVal) := (rwA R).map fun x => [x]

theorem rwC_length (R : List (List V)) : (rwC R).length = R.length := by simp [rwC, rwA]

theorem rwC_append (R S : List (List V)) : rwC (R ++ S) = rwC R ++ rwC S := by simp [rwC, rwA]

theorem rwC_at {R : List (List V)} {k : Nat} {r : List V} (h : R[k]? = some r) : (rwC R)[k]? = some [.list false 3 (vC r)] := by rw [rwC, rwA, List.getElem?_map, List.getElem?_map, h]; rfl

theorem pureEs_rwC (R : List (List V)) : pureEs (rwC R) = true := by simp [pureEs, rwC, rwA, AVal.isPure]

def expL (b : List Ent) : List (List V) := b.flatMap fun e => List.replicate e.cnt.toNat e.row

theorem expL_nil : expL [] = [] := rfl

theorem expL_cons (e : Ent) (b : List Ent) : expL (e :: b) = List.replicate e.cnt.toNat e.row ++ expL b := rfl

theorem expL_append (a b : List Ent) : expL (a ++ b) = expL a ++ expL b := by simp [expL]

theorem expL_split {b : List Ent} {k : Nat} {x : Ent} (h : b[k]? = some x) : expL b = expL (b.take k) ++ (List.replicate x.cnt.toNat x.row ++ expL (b.drop (k + 1))) := by
  obtain ⟨y, hy, hd, _⟩ := get_drop (List.getElem?_eq_some_iff.1 h).1
  rw [h] at hy; cases hy
  rw [← expL_cons, ← hd, ← expL_append, List.take_append_drop]

theorem expL_take {b : List Ent} {k : Nat} {x : Ent} (h : b[k]? = some x) : expL (b.take (k + 1)) = expL (b.take k) ++ List.replicate x.cnt.toNat x.row := by
  rw [List.take_add_one, h, expL_append]
  show _ ++ expL [x] = _
  rw [expL_cons, expL_nil, List.append_nil]

theorem expL_row {b : List Ent} {r : List V} (h : r ∈ expL b) : ∃ e ∈ b, e.row = r := by
  obtain ⟨e, he, hr⟩ := List.mem_flatMap.1 h
  exact ⟨e, he, (List.mem_replicate.1 hr).2.symm⟩

theorem szW_len : ∀ (b : List Ent) (a : Int), (∀ e ∈ b, 0 ≤ e.cnt ∧ e.cnt ≤ 65536) → 0 ≤ a → a + 65536 * b.length ≤ 4000000000000 → szW b a = a + (expL b).length
  | [], a, _, _, _ => by simp [szW, expL_nil]
  | e :: b, a, h, h0, hl => by
    obtain ⟨h1, h2⟩ := h e (List.mem_cons_self ..)
    rw [List.length_cons] at hl
    have ew : IntKind.i64.wrap (a + e.cnt) = a + e.cnt := wrapI _ (by omega) (by omega)
    rw [szW, ew, szW_len b _ (fun e he => h e (List.mem_cons_of_mem _ he)) (by omega) (by omega), expL_cons, List.length_append, List.length_replicate]
    omega

theorem bag_cnt {b : List Ent} (h : bagB b = 0) (hp : b.all posE = true) : ∀ e ∈ b, 0 ≤ e.cnt ∧ e.cnt ≤ 65536 := fun e he => by
  have h1 := fitB_zero e (((bagB_iff b).1 h).2.1 e he).1
  have h2 := List.all_eq_true.1 hp e he
  simp [posE] at h2
  omega

theorem szW_bag {b : List Ent} (h : bagB b = 0) (hp : b.all posE = true) : szW b 0 = (expL b).length := by
  have := szW_len b 0 (bag_cnt h hp) (by omega) (by have := bag_len h; omega)
  omega

def expP (b : List Ent) : List (List V) × Int :=
  if bagB b ≠ 0 then ([], bagB b) else if b.all posE = true then (if 4096 < szW b 0 then ([], 2) else (expL b, 0)) else ([], 8)

def tW (p : List (List V) × Int) : AVal := if p.2 ≠ 0 then .tuple [.nil, .int .i64 p.2] else .tuple [.list false 1 (rwC p.1), .int .i64 0]

def rW (p : List (List V) × Int) : AVal := .tuple [.list false 1 (rwC p.1), .int .i64 p.2]

theorem tW_wk {p : List (List V) × Int} (h : p.2 ≠ 0 → p.1 = []) : WkD (tW p) (rW p) := by
  unfold tW rW
  split
  · rename_i h1
    rw [h h1]
    exact .tuples (.cons (.nil false 1) (.cons (.refl _) ⟨rfl, fun i a b h => by simp at h⟩))
  · rename_i h1
    rw [nz0 h1]
    exact .refl _

theorem expP_nil (b : List Ent) : (expP b).2 ≠ 0 → (expP b).1 = [] := by
  intro h
  unfold expP at h ⊢
  split
  · rfl
  · rename_i h1
    rw [if_neg h1] at h
    split
    · rename_i h2
      rw [if_pos h2] at h
      split
      · rfl
      · rename_i h3
        rw [if_neg h3] at h
        exact absurd rfl h
    · rfl

theorem expP_row (b : List Ent) : ∀ r ∈ (expP b).1, r.length ≤ 12 := by
  intro r hr
  unfold expP at hr
  split at hr
  · cases hr
  · rename_i h1
    split at hr
    · split at hr
      · cases hr
      · obtain ⟨e, he, rfl⟩ := expL_row hr
        exact (bag_rowOk (nz0 h1) e he).1
    · cases hr

theorem expP_len (b : List Ent) : (expP b).1.length ≤ 4096 := by
  unfold expP
  split
  · exact Nat.zero_le _
  · rename_i h1
    split
    · rename_i h2
      split
      · exact Nat.zero_le _
      · rename_i h3
        rw [szW_bag (nz0 h1) h2] at h3
        show (expL b).length ≤ 4096
        omega
    · exact Nat.zero_le _

theorem expL_snoc {b : List Ent} {k j : Nat} {x : Ent} : (expL (b.take k) ++ List.replicate j x.row) ++ [x.row] = expL (b.take k) ++ List.replicate (j + 1) x.row := by
  rw [List.append_assoc, ← List.replicate_succ']

set_option maxRecDepth 20000 in
theorem bag_Expand_raw {P : Program} (F : F_bag_Expand P) (ex : Bool) (b : List Ent) (H : List AObj) :
    ACalls P F.id [.list ex 2 (eC b)] H (fun r H' => r = tW (expP b) ∧ H' = H) := by
  refine ACalls.pure (by simp [AVal.closed, AVal.isPure]) (acalls_of_body F.has ?_)
  by_cases h0 : bagB b ≠ 0
  · have s1 := fun H => bag_Size_spec F.bag_Size ex b H
    rw [sizeR, if_neg h0] at s1
    (conv => whnf); refine ACalls.use (s1 _) ?_
    (conv => whnf); refine recT (by show (!(bagB b == 0)) = true; simp [h0]) ?_
    conv => whnf
    rw [expP, if_pos h0, tW, if_pos h0]
    exact pub2 (.closed _ rfl) (.closed _ rfl)
  replace h0 := nz0 h0
  have s1 := fun H => bag_Size_spec F.bag_Size ex b H
  rw [sizeR, if_pos h0] at s1
  have lb := bag_len h0
  (conv => whnf); refine ACalls.use (s1 _) ?_
  (conv => whnf); refine ACalls.use (bag_IsTable_spec F.bag_IsTable ex b _) ?_
  rw [tabB_eq h0]
  by_cases hp : ¬ b.all posE = true
  · have hpf : b.all posE = false := by simpa using hp
    (conv => whnf); refine recT (by rw [hpf]; rfl) ?_
    conv => whnf
    rw [expP, if_neg (by simp [h0]), if_neg hp]
    exact pub2 (.closed _ rfl) (.closed _ rfl)
  replace hp := Classical.not_not.1 hp
  (conv => whnf); refine recF (by rw [hp]; rfl) ?_
  have hR : expP b = if 4096 < szW b 0 then ([], 2) else (expL b, 0) := by rw [expP, if_neg (by simp [h0]), if_pos hp]
  rw [hR]
  clear hR s1
  have hsz := szW_bag h0 hp
  (conv => whnf); refine recA (fun h3 => ?_) (fun h3 => ?_)
  · simp at h3
    conv => whnf
    rw [if_pos h3]
    exact pub2 (.closed _ rfl) (.closed _ rfl)
  simp at h3
  rw [if_neg (by omega)]
  rw [hsz] at h3
  have cnts := bag_cnt h0 hp
  have hrow := fun e he => (bag_rowOk h0 e he).1
  have cl0 : ∀ (f : Bool) (z : Nat) (y : List (List AVal)) (H1 : List AObj), pureEs y = true → Pub H1 0 [0] (.list f z y) (.list f z y) := fun f z y H1 hy => .closed _ (by simpa [AVal.closed, AVal.isPure, pureEs] using hy)
  have cl1 : ∀ (f : Bool) (z : Nat) (y : List (List AVal)) (H1 : List AObj), pureEs y = true → Pub H1 0 [0, 1] (.list f z y) (.list f z y) := fun f z y H1 hy => .closed _ (by simpa [AVal.closed, AVal.isPure, pureEs] using hy)
  conv => whnf
  refine ⟨fun m ρ H1 => ∃ k : Nat, k + m = b.length ∧ H1 = [.arr 1 (rwC (expL (b.take k)))] ∧ Sv 41 [(6, .sl 0 (expL (b.take k)).length 0 (expL (b.take k)).length), (22, .list ex 2 (eC b)), (23, .int .i64 b.length), (24, .int .i64 k)] ρ, b.length, [(6, 1)], ?_, ?_⟩
  · exact ⟨0, by omega, rfl, Sv.intro rfl ⟨rfl, rfl, intEq (by rw [eC_length]), rfl, trivial⟩⟩
  rintro m ρ H1 ⟨k, hk, rfl, d, rfl⟩
  (conv => whnf); refine recA (fun hlt => ?_) (fun hlt => ?_)
  · simp at hlt
    obtain ⟨x, hx, _, hxm⟩ := get_drop hlt
    obtain ⟨x1, x2⟩ := cnts x hxm
    have x3 := hrow x hxm
    have hspl := congrArg List.length (expL_split hx)
    rw [List.length_append, List.length_append, List.length_replicate] at hspl
    (conv => whnf); refine And.intro (by omega) ?_
    (conv => whnf); refine recO (eC_at hx) ?_
    conv => whnf
    refine ⟨fun m1 ρ1 H2 => ∃ j : Nat, j + m1 = x.cnt.toNat ∧ H2 = [.arr 1 (rwC (expL (b.take k) ++ List.replicate j x.row)), .arr 2 [entC x]] ∧
      Sv 41 [(6, .sl 0 (expL (b.take k) ++ List.replicate j x.row).length 0 (expL (b.take k) ++ List.replicate j x.row).length), (8, .ptr 1 1 0 0), (22, .list ex 2 (eC b)), (23, .int .i64 b.length), (24, .int .i64 k), (29, .int .i64 x.cnt), (30, .int .i64 j)] ρ1, x.cnt.toNat, [], ?_, ?_⟩
    · refine ⟨0, by omega, ?_, Sv.intro rfl ⟨?_, rfl, rfl, rfl, rfl, rfl, rfl, trivial⟩⟩
      · rw [List.replicate_zero, List.append_nil]; rfl
      · rw [List.replicate_zero, List.append_nil]; rfl
    rintro m1 ρ1 H2 ⟨j, hj, rfl, d1, rfl⟩
    have hRl : (expL (b.take k) ++ List.replicate j x.row).length = (expL (b.take k)).length + j := by rw [List.length_append, List.length_replicate]
    (conv => whnf); refine recA (fun hjl => ?_) (fun hjl => ?_)
    · simp at hjl
      (conv => whnf); refine ACalls.use (CloneV_spec F.slices_Clone_LValue_Value false x.row (by omega) _) ?_
      (conv => whnf); refine recT (by rw [rwC_length]; exact Nat.beq_refl _) ?_
      (conv => whnf); refine And.intro (⟨roomMul (by simp; omega) (by omega), roomB_le (by simp; omega), rfl, by rw [rwC_length]⟩) ?_
      conv => whnf
      have hN : rwC (expL (b.take k) ++ List.replicate (j + 1) x.row) = rwC (expL (b.take k) ++ List.replicate j x.row) ++ [[.list false 3 (vC x.row)]] := by rw [← expL_snoc, rwC_append]; rfl
      have hl : (rwC (expL (b.take k) ++ List.replicate j x.row) ++ [[AVal.list false 3 (vC x.row)]]).length = (expL (b.take k) ++ List.replicate (j + 1) x.row).length := by rw [← hN, rwC_length]
      refine ⟨m1 - 1, by omega, Gp.two 0 1 (by decide) 1 2 (rwC (expL (b.take k) ++ List.replicate (j + 1) x.row)) [entC x] (by rw [hN]; rfl) rfl (pureEs_rwC _) (pureEs_eC [x]) rfl ?_ fun ρ2 h => ⟨j + 1, by omega, rfl, h⟩⟩
      exact ⟨pubSl (k := 0) rfl rfl hl hl, .keepP 1 1 0 0 1 rfl, cl1 _ _ _ _ (pureEs_eC _), .closed _ rfl, .closed _ rfl, .closed _ rfl, pub_int (wrapI _ (by omega) (by omega)), trivial⟩
    · simp at hjl
      have hjx : j = x.cnt.toNat := by omega
      have hT := expL_take hx
      rw [← hjx] at hT
      conv => whnf
      refine ⟨m - 1, by omega, Gp.one 0 1 (rwC (expL (b.take (k + 1)))) (by rw [hT]; rfl) (pureEs_rwC _) rfl ?_ fun ρ2 h => ⟨k + 1, by omega, rfl, h⟩⟩
      exact ⟨by rw [hT]; exact pubSl (k := 0) rfl rfl rfl rfl, cl0 _ _ _ _ (pureEs_eC _), .closed _ rfl, pub_int (wrapI _ (by omega) (by omega)), trivial⟩
  · simp at hlt
    rw [List.take_of_length_le hlt]
    conv => whnf
    exact pub2 (pubF rfl (rwC_length _).symm (rwC_length _).symm (pureEs_rwC _)) (.closed _ rfl)

end Go.AW

namespace Go.AW
attribute [local irreducible] ACalls
theorem obRow {R : List (List V)} {row : List V} {n : Nat} {H : List AObj} (h1 : H[1]? = some (.arr 3 (vC row))) (hn : n = row.length) :
    ObP H [0] (.arr 1 (rwC R ++ [[.sl 1 n 0 n]])) (.arr 1 (rwC (R ++ [row]))) := by
  have e1 : rwC R ++ [[.sl 1 n 0 n]] = (rwA R ++ [AVal.sl 1 n 0 n]).map fun x => [x] := by simp [rwC]
  have e2 : rwC (R ++ [row]) = (rwA R ++ [AVal.list false 3 (vC row)]).map fun x => [x] := by simp [rwC, rwA]
  have hp : Pub H 0 [0] (.sl 1 n 0 n) (.list false 3 (vC row)) := by
    have h := Pub.frz (n := 0) (ids := [0]) 1 (vC row).length 0 (vC row).length 3 (vC row) h1 rfl (pureEs_vC _) (by simp)
    rw [List.drop_zero, List.take_length, vC_length, ← hn] at h
    exact h
  rw [e1, e2]
  refine ob1s _ _ (by simp) fun i x y hx hy => ?_
  by_cases hlt : i < (rwA R).length
  · rw [List.getElem?_append_left hlt] at hx hy
    rw [hx] at hy; cases hy
    rw [rwA, List.getElem?_map] at hx
    obtain ⟨r, _, rfl⟩ := Option.map_eq_some_iff.1 hx
    exact ⟨.closed _ (by simp [AVal.closed, AVal.isPure]), rfl⟩
  · rw [List.getElem?_append_right (by omega)] at hx hy
    rcases hk : i - (rwA R).length with _ | q
    · rw [hk] at hx hy
      simp at hx hy
      subst hx hy
      exact ⟨hp, rfl⟩
    · rw [hk] at hx; simp at hx

set_option maxRecDepth 20000 in
theorem ref6_Expand_raw {P : Program} (F : F_warehouseref6_Expand P) (ex : Bool) (b : List Ent) (H : List AObj) :
    ACalls P F.id [.list ex 2 (eC b)] H (fun r H' => r = tW (expP b) ∧ H' = H) := by
  refine ACalls.pure (by simp [AVal.closed, AVal.isPure]) (acalls_of_body F.has ?_)
  by_cases h0 : bagB b ≠ 0
  · have s1 := fun H => ref6_Size_spec F.warehouseref6_Size ex b H
    rw [sizeR, if_neg h0] at s1
    (conv => whnf); refine ACalls.use (s1 _) ?_
    (conv => whnf); refine recT (by show (!(bagB b == 0)) = true; simp [h0]) ?_
    conv => whnf
    rw [expP, if_pos h0, tW, if_pos h0]
    exact pub2 (.closed _ rfl) (.closed _ rfl)
  replace h0 := nz0 h0
  have s1 := fun H => ref6_Size_spec F.warehouseref6_Size ex b H
  rw [sizeR, if_pos h0] at s1
  have lb := bag_len h0
  (conv => whnf); refine ACalls.use (s1 _) ?_
  (conv => whnf); refine ACalls.use (ref6_positive_spec F.warehouseref6_positive ex b (by omega) _) ?_
  by_cases hp : ¬ b.all posE = true
  · have hpf : b.all posE = false := by simpa using hp
    (conv => whnf); refine recT (by rw [hpf]; rfl) ?_
    conv => whnf
    rw [expP, if_neg (by simp [h0]), if_neg hp]
    exact pub2 (.closed _ rfl) (.closed _ rfl)
  replace hp := Classical.not_not.1 hp
  (conv => whnf); refine recF (by rw [hp]; rfl) ?_
  have hR : expP b = if 4096 < szW b 0 then ([], 2) else (expL b, 0) := by rw [expP, if_neg (by simp [h0]), if_pos hp]
  rw [hR]
  clear hR s1
  have hsz := szW_bag h0 hp
  (conv => whnf); refine recA (fun h3 => ?_) (fun h3 => ?_)
  · simp at h3
    conv => whnf
    rw [if_pos h3]
    exact pub2 (.closed _ rfl) (.closed _ rfl)
  simp at h3
  rw [if_neg (by omega)]
  rw [hsz] at h3
  have cnts := bag_cnt h0 hp
  have hrow := fun e he => (bag_rowOk h0 e he).1
  have cl0 : ∀ (f : Bool) (z : Nat) (y : List (List AVal)) (H1 : List AObj), pureEs y = true → Pub H1 0 [0] (.list f z y) (.list f z y) := fun f z y H1 hy => .closed _ (by simpa [AVal.closed, AVal.isPure, pureEs] using hy)
  conv => whnf
  refine ⟨fun m ρ H1 => ∃ k : Nat, k + m = b.length ∧ H1 = [.arr 1 (rwC (expL (b.take k)))] ∧ Sv 47 [(0, .list ex 2 (eC b)), (6, .sl 0 (expL (b.take k)).length 0 (expL (b.take k)).length), (7, .int .i64 k)] ρ, b.length, [(6, 1)], ?_, ?_⟩
  · exact ⟨0, by omega, rfl, Sv.intro rfl ⟨rfl, rfl, rfl, trivial⟩⟩
  rintro m ρ H1 ⟨k, hk, rfl, d, rfl⟩
  (conv => whnf); refine recA (fun hlt => ?_) (fun hlt => ?_)
  · simp [eC_length] at hlt
    obtain ⟨x, hx, _, hxm⟩ := get_drop hlt
    obtain ⟨x1, x2⟩ := cnts x hxm
    have x3 := hrow x hxm
    have hspl := congrArg List.length (expL_split hx)
    rw [List.length_append, List.length_append, List.length_replicate] at hspl
    conv => whnf
    refine ⟨fun m1 ρ1 H2 => ∃ j : Nat, j + m1 = x.cnt.toNat ∧ H2 = [.arr 1 (rwC (expL (b.take k) ++ List.replicate j x.row))] ∧
      Sv 47 [(0, .list ex 2 (eC b)), (6, .sl 0 (expL (b.take k) ++ List.replicate j x.row).length 0 (expL (b.take k) ++ List.replicate j x.row).length), (7, .int .i64 k), (8, .int .i64 j)] ρ1, x.cnt.toNat, [], ?_, ?_⟩
    · refine ⟨0, by omega, ?_, Sv.intro rfl ⟨rfl, ?_, rfl, rfl, trivial⟩⟩
      · rw [List.replicate_zero, List.append_nil]
      · rw [List.replicate_zero, List.append_nil]; rfl
    rintro m1 ρ1 H2 ⟨j, hj, rfl, d1, rfl⟩
    have hRl : (expL (b.take k) ++ List.replicate j x.row).length = (expL (b.take k)).length + j := by rw [List.length_append, List.length_replicate]
    (conv => whnf); refine And.intro (by omega) ?_
    (conv => whnf); refine recO (eC_at hx) ?_
    (conv => whnf); refine recA (fun hjl => ?_) (fun hjl => ?_)
    · simp at hjl
      (conv => whnf); refine And.intro (by omega) ?_
      (conv => whnf); refine recO (eC_at hx) ?_
      (conv => whnf); refine And.intro (⟨roomMul (by rw [vC_length]; omega) (by omega), roomB_le (by rw [vC_length]; omega)⟩) ?_
      (conv => whnf); refine recT (by rw [rwC_length]; exact Nat.beq_refl _) ?_
      (conv => whnf); refine And.intro (⟨roomMul (by simp; omega) (by omega), roomB_le (by simp; omega), rfl, by rw [rwC_length]⟩) ?_
      conv => whnf
      have hN : rwC (expL (b.take k) ++ List.replicate (j + 1) x.row) = rwC (expL (b.take k) ++ List.replicate j x.row) ++ [[.list false 3 (vC x.row)]] := by rw [← expL_snoc, rwC_append]; rfl
      have hl : (rwC (expL (b.take k) ++ List.replicate j x.row) ++ [[AVal.sl 1 (vC x.row).length 0 (vC x.row).length]]).length = (expL (b.take k) ++ List.replicate (j + 1) x.row).length := by simp [rwC_length]; omega
      refine ⟨m1 - 1, by omega, Gp.some (H1 := [.arr 1 (rwC (expL (b.take k) ++ List.replicate (j + 1) x.row))]) [0] (by simp) ?_ rfl ?_ fun ρ1 h => ⟨j + 1, by omega, rfl, h⟩⟩
      · refine ⟨⟨_, rfl, ?_⟩, trivial⟩
        rw [← expL_snoc]
        exact obRow rfl (vC_length _)
      · exact ⟨cl0 _ _ _ _ (pureEs_eC _), pubSl (k := 0) rfl rfl hl hl, .closed _ rfl, pub_int (wrapI _ (by omega) (by omega)), trivial⟩
    · simp at hjl
      have hjx : j = x.cnt.toNat := by omega
      have hT := expL_take hx
      rw [← hjx] at hT
      conv => whnf
      refine ⟨m - 1, by omega, Gp.one 0 1 (rwC (expL (b.take (k + 1)))) (by rw [hT]; rfl) (pureEs_rwC _) rfl ?_ fun ρ2 h => ⟨k + 1, by omega, rfl, h⟩⟩
      exact ⟨cl0 _ _ _ _ (pureEs_eC _), by rw [hT]; exact pubSl (k := 0) rfl rfl rfl rfl, pub_int (wrapI _ (by omega) (by omega)), trivial⟩
  · simp [eC_length] at hlt
    rw [List.take_of_length_le hlt]
    conv => whnf
    exact pub2 (pubF rfl (rwC_length _).symm (rwC_length _).symm (pureEs_rwC _)) (.closed _ rfl)

theorem bag_Expand_w {P : Program} (F : F_bag_Expand P) (ex : Bool) (b : List Ent) (H : List AObj) :
    ACalls P F.id [.list ex 2 (eC b)] H (fun r H' => r = rW (expP b) ∧ H' = H) :=
  ACalls.weakRD (bag_Expand_raw F ex b H) (by rintro r H' ⟨rfl, rfl⟩; exact ⟨_, tW_wk (expP_nil b), rfl, rfl⟩)

theorem ref6_Expand_w {P : Program} (F : F_warehouseref6_Expand P) (ex : Bool) (b : List Ent) (H : List AObj) :
    ACalls P F.id [.list ex 2 (eC b)] H (fun r H' => r = rW (expP b) ∧ H' = H) :=
  ACalls.weakRD (ref6_Expand_raw F ex b H) (by rintro r H' ⟨rfl, rfl⟩; exact ⟨_, tW_wk (expP_nil b), rfl, rfl⟩)

theorem SameRows_refl {P : Program} (F : F_warehouseref6_SameRows P) (e1 e2 : Bool) (R : List (List V)) (hl : R.length ≤ 1000000) (hr : ∀ r ∈ R, r.length ≤ 1000000) (H : List AObj) :
    ACalls P F.id [.list e1 1 (rwC R), .list e2 1 (rwC R)] H (fun r H' => r = .bool true ∧ H' = H) := by
  refine ACalls.pure (by simp [AVal.closed, AVal.isPure, rwC, rwA]) (acalls_of_body F.has ?_)
  (conv => whnf); refine recF (by simp) ?_
  conv => whnf
  refine ⟨fun m ρ H => ∃ k : Nat, k + m = R.length ∧ H = [] ∧ Sv 27 [(0, .list e1 1 (rwC R)), (1, .list e2 1 (rwC R)), (5, .int .i64 k)] ρ, R.length, [], ?_, ?_⟩
  · exact ⟨0, by omega, rfl, Sv.intro rfl ⟨rfl, rfl, rfl, trivial⟩⟩
  rintro m ρ H ⟨k, hk, rfl, d, rfl⟩
  (conv => whnf); refine recA (fun hlt => ?_) (fun hlt => ?_)
  · simp [rwC_length] at hlt
    obtain ⟨x, hx, _, hxm⟩ := get_drop hlt
    (conv => whnf); refine And.intro (by omega) ?_
    (conv => whnf); refine recO (rwC_at hx) ?_
    (conv => whnf); refine And.intro (by omega) ?_
    (conv => whnf); refine recO (rwC_at hx) ?_
    (conv => whnf); refine ⟨_, ref1_SameRow_spec F.warehouseref1_SameRow false false x x (hr x hxm) _, ?_⟩
    (conv => whnf); refine recF (by rw [(rowsCmp_zero x x).2 rfl]; rfl) ?_
    conv => whnf
    refine ⟨m - 1, by omega, Gp.keep rfl ?_ fun ρ1 h => ⟨k + 1, by omega, rfl, h⟩⟩
    exact ⟨rfl, rfl, intEq (wrapI _ (by omega) (by omega)), trivial⟩
  · conv => whnf
    exact .closed _ rfl

end Go.AW

namespace Go.AW
attribute [local irreducible] ACalls
def prjL (b : List Ent) (is : List Int) : List Ent := b.map fun e => ⟨pickL zV e.row is, e.cnt⟩

theorem prjL_len (b : List Ent) (is : List Int) : (prjL b is).length = b.length := List.length_map ..

def prjP (b : List Ent) (is : List Int) : List Ent × Int := if bagB b ≠ 0 then ([], bagB b) else if 12 < is.length then ([], 2) else sumP (prjL b is)

theorem pick_valid {r : List V} (h : r.all validB = true) (is : List Int) : (pickL zV r is).all validB = true := List.all_eq_true.2 fun v hv => by
  obtain ⟨i, _, rfl⟩ := List.mem_map.1 hv
  split
  · rename_i hi
    rw [List.getD_eq_getElem?_getD, List.getElem?_eq_getElem (by omega)]
    exact List.all_eq_true.1 h _ (List.getElem_mem _)
  · rfl

theorem prjL_ok {b : List Ent} (h : bagB b = 0) {is : List Int} (hi : is.length ≤ 12) : (∀ e ∈ prjL b is, rowOk e) ∧ ∀ e ∈ prjL b is, EntOk e := by
  constructor
  · intro e he
    obtain ⟨x, hx, rfl⟩ := List.mem_map.1 he
    exact ⟨by simp only [pickL_length]; exact hi, pick_valid (bag_rowOk h x hx).2 is⟩
  · intro e he
    obtain ⟨x, hx, rfl⟩ := List.mem_map.1 he
    have := (bagB_ok h).2.1 x hx
    exact ⟨by simp only [pickL_length]; exact hi, this.2⟩

theorem prjP_good (b : List Ent) (is : List Int) : Good (prjP b is) := by
  unfold prjP
  split
  · exact good_err _
  · split
    · exact good_err _
    · rename_i h1 h2
      exact sumP_good (prjL_ok (nz0 h1) (by omega)).1

theorem prjL_take {b : List Ent} {k : Nat} {x : Ent} (h : b[k]? = some x) (is : List Int) : prjL (b.take (k + 1)) is = prjL (b.take k) is ++ [⟨pickL zV x.row is, x.cnt⟩] := by
  rw [List.take_add_one, h, prjL, prjL, List.map_append]; rfl

def selB (is : List Int) (key : List V) (e : Ent) : Bool := rowsCmp (pickL zV e.row is) key == 0

def selL (b : List Ent) (is : List Int) (key : List V) : List Ent := b.filter (selB is key)

def selP (b : List Ent) (is : List Int) (key : List V) : List Ent × Int := if bagB b ≠ 0 then ([], bagB b) else (selL b is key, 0)

theorem selP_good (b : List Ent) (is : List Int) (key : List V) : Good (selP b is key) := by
  unfold selP
  split
  · exact good_err _
  · rename_i h
    exact ⟨bag_filter (nz0 h) _, fun h => absurd rfl h⟩

theorem resP_bag {b : List Ent} (h : bagB b = 0) : resP b = (b, 0) := by
  obtain ⟨h1, h2, _⟩ := (bagB_iff b).1 h
  have e1 : b.filter nzB = b := List.filter_eq_self.2 fun e he => by have := (h2 e he).2; simp [nzB, this]
  rw [resP, e1, if_pos ⟨List.all_eq_true.2 fun e he => ((fitB_iff e).1 (h2 e he).1).2.1, h1⟩]

theorem selL_take {b : List Ent} {k : Nat} {x : Ent} (h : b[k]? = some x) (is : List Int) (key : List V) : selL (b.take (k + 1)) is key = selL (b.take k) is key ++ if selB is key x = true then [x] else [] := by
  rw [List.take_add_one, h, selL, selL, List.filter_append]
  congr 1
  show [x].filter _ = _
  rw [List.filter_cons]; split <;> rfl

set_option maxRecDepth 20000 in
theorem bag_Project_raw {P : Program} (F : F_bag_Project P) (hS : SortE P F.bag_sum.slices_SortFunc_LEntry_Entry.id F.bag_sum.bag_sum_1.id) (e1 e2 : Bool) (b : List Ent) (is : List Int) (H : List AObj) :
    ACalls P F.id [.list e1 2 (eC b), .list e2 1 (iC is)] H (fun r H' => r = tR (prjP b is) ∧ H' = H) := by
  refine ACalls.pure (by simp [AVal.closed, AVal.isPure]) (acalls_of_body F.has ?_)
  by_cases h0 : bagB b ≠ 0
  · (conv => whnf); refine ACalls.use (bag_Validate_spec F.bag_Validate e1 b _) ?_
    (conv => whnf); refine recT (by show (!(bagB b == 0)) = true; simp [h0]) ?_
    conv => whnf
    rw [prjP, if_pos h0, tR, if_pos h0]
    exact pub2 (.closed _ rfl) (.closed _ rfl)
  replace h0 := nz0 h0
  (conv => whnf); refine ACalls.use (bag_Validate_spec F.bag_Validate e1 b _) ?_
  (conv => whnf); refine recF (by rw [h0]; rfl) ?_
  have lb := bag_len h0
  have hrow := fun e he => (bag_rowOk h0 e he).1
  (conv => whnf); refine recA (fun h2 => ?_) (fun h2 => ?_)
  · simp [iC] at h2
    conv => whnf
    rw [prjP, if_neg (by simp [h0]), if_pos (by omega)]
    exact pub2 (.closed _ rfl) (.closed _ rfl)
  simp [iC] at h2
  have hR : prjP b is = sumP (prjL b is) := by rw [prjP, if_neg (by simp [h0]), if_neg (by omega)]
  rw [hR]
  obtain ⟨pk1, pk2⟩ := prjL_ok h0 (is := is) (by omega)
  have cl0 : ∀ (f : Bool) (z : Nat) (y : List (List AVal)) (H1 : List AObj), pureEs y = true → Pub H1 0 [0] (.list f z y) (.list f z y) := fun f z y H1 hy => .closed _ (by simpa [AVal.closed, AVal.isPure, pureEs] using hy)
  conv => whnf
  refine ⟨fun m ρ H1 => ∃ k : Nat, k + m = b.length ∧ H1 = [.arr 2 (eC (prjL (b.take k) is))] ∧ Sv 39 [(1, .list e2 1 (iC is)), (7, .sl 0 k 0 k), (18, .list e1 2 (eC b)), (19, .int .i64 b.length), (20, .int .i64 k)] ρ, b.length, [(7, 2)], ?_, ?_⟩
  · exact ⟨0, by omega, rfl, Sv.intro rfl ⟨rfl, rfl, rfl, intEq (by rw [eC_length]), rfl, trivial⟩⟩
  rintro m ρ H1 ⟨k, hk, rfl, d, rfl⟩
  have hkl : (prjL (b.take k) is).length = k := by rw [prjL_len, List.length_take]; omega
  (conv => whnf); refine recA (fun hlt => ?_) (fun hlt => ?_)
  · simp at hlt
    obtain ⟨x, hx, _, hxm⟩ := get_drop hlt
    have hxr := hrow x hxm
    have hD := prjL_take hx is
    (conv => whnf); refine And.intro (by omega) ?_
    (conv => whnf); refine recO (eC_at hx) ?_
    (conv => whnf); refine ⟨_, schema_Pick_spec F.schema_Pick false e2 x.row is (by omega) (by omega) _, ?_⟩
    (conv => whnf); refine recT (by rw [eC_length, hkl]; exact Nat.beq_refl _) ?_
    (conv => whnf); refine And.intro (⟨roomMul (by simp; omega) (by omega), roomB_le (by simp; omega), rfl, by rw [eC_length, hkl]⟩) ?_
    repeat ((conv => whnf); refine And.intro rfl ?_)
    conv => whnf
    have hDl : (eC (prjL (b.take k) is) ++ [[AVal.list false 3 (vC (pickL zV x.row is)), .int .i64 x.cnt]]).length = k + 1 := by rw [List.length_append, eC_length, hkl]; rfl
    refine ⟨m - 1, by omega, Gp.one 0 2 (eC (prjL (b.take (k + 1)) is)) (by rw [hD, eC_append]; rfl) (pureEs_eC _) rfl ?_ fun ρ1 h => ⟨k + 1, by omega, rfl, h⟩⟩
    exact ⟨cl0 _ _ _ _ (pureEs_iC _), pubSl (k := 0) rfl rfl hDl hDl, cl0 _ _ _ _ (pureEs_eC _), .closed _ rfl, pub_int (wrapI _ (by omega) (by omega)), trivial⟩
  · simp at hlt
    rw [List.take_of_length_le hlt] at hkl ⊢
    have hel : (eC (prjL b is)).length = k := by rw [eC_length, hkl]
    conv => whnf
    refine Ghost.none (n := 39) (live := [(7, .list false 2 (eC (prjL b is)))]) rfl ?_ ?_
    · exact ⟨pubF rfl hel.symm hel.symm (pureEs_eC _), trivial⟩
    rintro ρ1 ⟨d, rfl⟩
    rcases resR_cases (srtM (prjL b is).length (prjL b is)) with h | h
    all_goals
      have hs := fun H => bag_sum_spec F.bag_sum hS false (prjL b is) (by rw [prjL_len]; omega) pk2 H
      rw [h] at hs
      have hq := resR_P (srtM (prjL b is).length (prjL b is))
      rw [h] at hq
      rw [sumP, ← hq]
      (conv => whnf); refine ACalls.use (hs _) ?_
      conv => whnf
      exact pub2 (.closed _ (by simp [AVal.closed, AVal.isPure])) (.closed _ rfl)

set_option maxRecDepth 20000 in
theorem ref6_Project_raw {P : Program} (F : F_warehouseref6_Project P) (e1 e2 : Bool) (b : List Ent) (is : List Int) (H : List AObj) :
    ACalls P F.id [.list e1 2 (eC b), .list e2 1 (iC is)] H (fun r H' => r = tR (prjP b is) ∧ H' = H) := by
  refine ACalls.pure (by simp [AVal.closed, AVal.isPure]) (acalls_of_body F.has ?_)
  by_cases h0 : bagB b ≠ 0
  · (conv => whnf); refine ACalls.use (ref6_Validate_spec F.warehouseref6_Validate e1 b _) ?_
    (conv => whnf); refine recT (by show (!(bagB b == 0)) = true; simp [h0]) ?_
    conv => whnf
    rw [prjP, if_pos h0, tR, if_pos h0]
    exact pub2 (.closed _ rfl) (.closed _ rfl)
  replace h0 := nz0 h0
  (conv => whnf); refine ACalls.use (ref6_Validate_spec F.warehouseref6_Validate e1 b _) ?_
  (conv => whnf); refine recF (by rw [h0]; rfl) ?_
  have lb := bag_len h0
  have hrow := fun e he => (bag_rowOk h0 e he).1
  (conv => whnf); refine recA (fun h2 => ?_) (fun h2 => ?_)
  · simp [iC] at h2
    conv => whnf
    rw [prjP, if_neg (by simp [h0]), if_pos (by omega)]
    exact pub2 (.closed _ rfl) (.closed _ rfl)
  simp [iC] at h2
  have hR : prjP b is = sumP (prjL b is) := by rw [prjP, if_neg (by simp [h0]), if_neg (by omega)]
  rw [hR]
  obtain ⟨pk1, pk2⟩ := prjL_ok h0 (is := is) (by omega)
  have cl0 : ∀ (f : Bool) (z : Nat) (y : List (List AVal)) (H1 : List AObj), pureEs y = true → Pub H1 0 [0] (.list f z y) (.list f z y) := fun f z y H1 hy => .closed _ (by simpa [AVal.closed, AVal.isPure, pureEs] using hy)
  conv => whnf
  refine ⟨fun m ρ H1 => ∃ k : Nat, k + m = b.length ∧ H1 = [.arr 2 (eC (prjL (b.take k) is))] ∧ Sv 43 [(0, .list e1 2 (eC b)), (1, .list e2 1 (iC is)), (7, .sl 0 k 0 k), (8, .int .i64 k)] ρ, b.length, [(7, 2)], ?_, ?_⟩
  · exact ⟨0, by omega, rfl, Sv.intro rfl ⟨rfl, rfl, rfl, rfl, trivial⟩⟩
  rintro m ρ H1 ⟨k, hk, rfl, d, rfl⟩
  have hkl : (prjL (b.take k) is).length = k := by rw [prjL_len, List.length_take]; omega
  (conv => whnf); refine recA (fun hlt => ?_) (fun hlt => ?_)
  · simp [eC_length] at hlt
    obtain ⟨x, hx, _, hxm⟩ := get_drop hlt
    have hxr := hrow x hxm
    have hD := prjL_take hx is
    (conv => whnf); refine And.intro (by omega) ?_
    (conv => whnf); refine recO (eC_at hx) ?_
    (conv => whnf); refine ⟨_, ref5_Pick_spec F.warehouseref5_Pick false e2 x.row is (by omega) (by omega) _, ?_⟩
    (conv => whnf); refine And.intro (by omega) ?_
    (conv => whnf); refine recO (eC_at hx) ?_
    (conv => whnf); refine recT (by rw [eC_length, hkl]; exact Nat.beq_refl _) ?_
    (conv => whnf); refine And.intro (⟨roomMul (by simp; omega) (by omega), roomB_le (by simp; omega), rfl, by rw [eC_length, hkl]⟩) ?_
    repeat ((conv => whnf); refine And.intro rfl ?_)
    conv => whnf
    have hDl : (eC (prjL (b.take k) is) ++ [[AVal.list false 3 (vC (pickL zV x.row is)), .int .i64 x.cnt]]).length = k + 1 := by rw [List.length_append, eC_length, hkl]; rfl
    refine ⟨m - 1, by omega, Gp.one 0 2 (eC (prjL (b.take (k + 1)) is)) (by rw [hD, eC_append]; rfl) (pureEs_eC _) rfl ?_ fun ρ1 h => ⟨k + 1, by omega, rfl, h⟩⟩
    exact ⟨cl0 _ _ _ _ (pureEs_eC _), cl0 _ _ _ _ (pureEs_iC _), pubSl (k := 0) rfl rfl hDl hDl, pub_int (wrapI _ (by omega) (by omega)), trivial⟩
  · simp [eC_length] at hlt
    rw [List.take_of_length_le hlt] at hkl ⊢
    have hel : (eC (prjL b is)).length = k := by rw [eC_length, hkl]
    conv => whnf
    refine Ghost.none (n := 43) (live := [(7, .list false 2 (eC (prjL b is)))]) rfl ?_ ?_
    · exact ⟨pubF rfl hel.symm hel.symm (pureEs_eC _), trivial⟩
    rintro ρ1 ⟨d, rfl⟩
    rcases resR_cases (srtM (prjL b is).length (prjL b is)) with h | h
    all_goals
      have hs := fun H => ref6_Sum_spec F.warehouseref6_Sum false (prjL b is) (by rw [prjL_len]; omega) pk2 H
      rw [h] at hs
      have hq := resR_P (srtM (prjL b is).length (prjL b is))
      rw [h] at hq
      rw [sumP, ← hq]
      (conv => whnf); refine ACalls.use (hs _) ?_
      conv => whnf
      exact pub2 (.closed _ (by simp [AVal.closed, AVal.isPure])) (.closed _ rfl)

end Go.AW

namespace Go.AW
attribute [local irreducible] ACalls
theorem selL_len (b : List Ent) (is : List Int) (key : List V) : (selL b is key).length ≤ b.length := List.length_filter_le _ _

set_option maxRecDepth 20000 in
theorem bag_Select_raw {P : Program} (F : F_bag_Select P) (e1 e2 e3 : Bool) (b : List Ent) (is : List Int) (key : List V) (hi : is.length ≤ 1000000) (H : List AObj) :
    ACalls P F.id [.list e1 2 (eC b), .list e2 1 (iC is), .list e3 3 (vC key)] H (fun r H' => r = tR (selP b is key) ∧ H' = H) := by
  refine ACalls.pure (by simp [AVal.closed, AVal.isPure]) (acalls_of_body F.has ?_)
  by_cases h0 : bagB b ≠ 0
  · (conv => whnf); refine ACalls.use (bag_Validate_spec F.bag_Validate e1 b _) ?_
    (conv => whnf); refine recT (by show (!(bagB b == 0)) = true; simp [h0]) ?_
    conv => whnf
    rw [selP, if_pos h0, tR, if_pos h0]
    exact pub2 (.closed _ rfl) (.closed _ rfl)
  replace h0 := nz0 h0
  (conv => whnf); refine ACalls.use (bag_Validate_spec F.bag_Validate e1 b _) ?_
  (conv => whnf); refine recF (by rw [h0]; rfl) ?_
  have lb := bag_len h0
  have hrow := fun e he => (bag_rowOk h0 e he).1
  have hR : selP b is key = (selL b is key, 0) := by rw [selP, if_neg (by simp [h0])]
  rw [hR]
  have cl0 : ∀ (f : Bool) (z : Nat) (y : List (List AVal)) (H1 : List AObj), pureEs y = true → Pub H1 0 [0] (.list f z y) (.list f z y) := fun f z y H1 hy => .closed _ (by simpa [AVal.closed, AVal.isPure, pureEs] using hy)
  conv => whnf
  refine ⟨fun m ρ H1 => ∃ k : Nat, k + m = b.length ∧ H1 = [.arr 2 (eC (selL (b.take k) is key))] ∧ Sv 41 [(1, .list e2 1 (iC is)), (2, .list e3 3 (vC key)), (9, .sl 0 (selL (b.take k) is key).length 0 (selL (b.take k) is key).length), (17, .list e1 2 (eC b)), (18, .int .i64 b.length), (19, .int .i64 k)] ρ, b.length, [(9, 2)], ?_, ?_⟩
  · exact ⟨0, by omega, rfl, Sv.intro rfl ⟨rfl, rfl, rfl, rfl, intEq (by rw [eC_length]), rfl, trivial⟩⟩
  rintro m ρ H1 ⟨k, hk, rfl, d, rfl⟩
  have hOl := selL_len (b.take k) is key
  rw [List.length_take] at hOl
  (conv => whnf); refine recA (fun hlt => ?_) (fun hlt => ?_)
  · simp at hlt
    obtain ⟨x, hx, _, hxm⟩ := get_drop hlt
    have hxr := hrow x hxm
    have hxc := fitB_zero x (((bagB_iff b).1 h0).2.1 x hxm).1
    have hD := selL_take hx is key
    (conv => whnf); refine And.intro (by omega) ?_
    (conv => whnf); refine recO (eC_at hx) ?_
    (conv => whnf); refine ACalls.use (schema_Pick_spec F.schema_Pick false e2 x.row is (by omega) (by omega) _) ?_
    (conv => whnf); refine ACalls.use (value_CompareRows_spec F.value_CompareRows false e3 (pickL zV x.row is) key (by rw [pickL_length]; omega) _) ?_
    (conv => whnf); refine recA (fun hp => ?_) (fun hp => ?_)
    · replace hp : selB is key x = true := hp
      rw [if_pos hp] at hD
      have hnz := (((bagB_iff b).1 h0).2.1 x hxm).2
      (conv => whnf); refine ACalls.mono (put_gen F.bag_put false (selL (b.take k) is key) (by omega) x.row (by omega) x.cnt ((smallB_iff _).2 ⟨by omega, by omega⟩) 0 _ rfl) ?_
      rintro r H1 ⟨rfl, rfl⟩
      rw [putL, if_neg hnz, ← hD]
      conv => whnf
      refine ⟨m - 1, by omega, Gp.one 0 2 (eC (selL (b.take (k + 1)) is key)) rfl (pureEs_eC _) rfl ?_ fun ρ1 h => ⟨k + 1, by omega, rfl, h⟩⟩
      exact ⟨cl0 _ _ _ _ (pureEs_iC _), cl0 _ _ _ _ (pureEs_vC _), pubSl (k := 0) rfl rfl rfl rfl, cl0 _ _ _ _ (pureEs_eC _), .closed _ rfl, pub_int (wrapI _ (by omega) (by omega)), trivial⟩
    · replace hp : selB is key x = false := hp
      rw [if_neg (by simp [hp]), List.append_nil] at hD
      conv => whnf
      refine ⟨m - 1, by omega, Gp.one 0 2 (eC (selL (b.take (k + 1)) is key)) (by rw [hD]; rfl) (pureEs_eC _) rfl ?_ fun ρ1 h => ⟨k + 1, by omega, rfl, h⟩⟩
      exact ⟨cl0 _ _ _ _ (pureEs_iC _), cl0 _ _ _ _ (pureEs_vC _), by rw [hD]; exact pubSl (k := 0) rfl rfl rfl rfl, cl0 _ _ _ _ (pureEs_eC _), .closed _ rfl, pub_int (wrapI _ (by omega) (by omega)), trivial⟩
  · simp at hlt
    rw [List.take_of_length_le hlt]
    conv => whnf
    exact pub2 (pubF rfl (eC_length _).symm (eC_length _).symm (pureEs_eC _)) (.closed _ rfl)

set_option maxRecDepth 20000 in
theorem ref6_Select_raw {P : Program} (F : F_warehouseref6_Select P) (e1 e2 e3 : Bool) (b : List Ent) (is : List Int) (key : List V) (hi : is.length ≤ 1000000) (H : List AObj) :
    ACalls P F.id [.list e1 2 (eC b), .list e2 1 (iC is), .list e3 3 (vC key)] H (fun r H' => r = tR (selP b is key) ∧ H' = H) := by
  refine ACalls.pure (by simp [AVal.closed, AVal.isPure]) (acalls_of_body F.has ?_)
  by_cases h0 : bagB b ≠ 0
  · (conv => whnf); refine ACalls.use (ref6_Validate_spec F.warehouseref6_Validate e1 b _) ?_
    (conv => whnf); refine recT (by show (!(bagB b == 0)) = true; simp [h0]) ?_
    conv => whnf
    rw [selP, if_pos h0, tR, if_pos h0]
    exact pub2 (.closed _ rfl) (.closed _ rfl)
  replace h0 := nz0 h0
  (conv => whnf); refine ACalls.use (ref6_Validate_spec F.warehouseref6_Validate e1 b _) ?_
  (conv => whnf); refine recF (by rw [h0]; rfl) ?_
  have lb := bag_len h0
  have hrow := fun e he => (bag_rowOk h0 e he).1
  have hR : selP b is key = (selL b is key, 0) := by rw [selP, if_neg (by simp [h0])]
  rw [hR]
  have cl0 : ∀ (f : Bool) (z : Nat) (y : List (List AVal)) (H1 : List AObj), pureEs y = true → Pub H1 0 [0] (.list f z y) (.list f z y) := fun f z y H1 hy => .closed _ (by simpa [AVal.closed, AVal.isPure, pureEs] using hy)
  conv => whnf
  refine ⟨fun m ρ H1 => ∃ k : Nat, k + m = b.length ∧ H1 = [.arr 2 (eC (selL (b.take k) is key))] ∧ Sv 42 [(0, .list e1 2 (eC b)), (1, .list e2 1 (iC is)), (2, .list e3 3 (vC key)), (9, .sl 0 (selL (b.take k) is key).length 0 (selL (b.take k) is key).length), (10, .int .i64 k)] ρ, b.length, [(9, 2)], ?_, ?_⟩
  · exact ⟨0, by omega, rfl, Sv.intro rfl ⟨rfl, rfl, rfl, rfl, rfl, trivial⟩⟩
  rintro m ρ H1 ⟨k, hk, rfl, d, rfl⟩
  have hOl := selL_len (b.take k) is key
  rw [List.length_take] at hOl
  (conv => whnf); refine recA (fun hlt => ?_) (fun hlt => ?_)
  · simp [eC_length] at hlt
    obtain ⟨x, hx, _, hxm⟩ := get_drop hlt
    have hxr := hrow x hxm
    have hD := selL_take hx is key
    (conv => whnf); refine And.intro (by omega) ?_
    (conv => whnf); refine recO (eC_at hx) ?_
    (conv => whnf); refine ACalls.use (ref5_Pick_spec F.warehouseref5_Pick false e2 x.row is (by omega) (by omega) _) ?_
    (conv => whnf); refine ACalls.use (ref1_SameRow_spec F.warehouseref1_SameRow false e3 (pickL zV x.row is) key (by rw [pickL_length]; omega) _) ?_
    (conv => whnf); refine recA (fun hp => ?_) (fun hp => ?_)
    · replace hp : selB is key x = true := hp
      rw [if_pos hp] at hD
      (conv => whnf); refine And.intro (by omega) ?_
      (conv => whnf); refine recO (eC_at hx) ?_
      (conv => whnf); refine recT (by rw [eC_length]; exact Nat.beq_refl _) ?_
      (conv => whnf); refine And.intro (⟨roomMul (by simp; omega) (by omega), roomB_le (by simp; omega), rfl, by rw [eC_length]⟩) ?_
      conv => whnf
      have hDl : (eC (selL (b.take k) is key) ++ [entC x]).length = (selL (b.take (k + 1)) is key).length := by rw [hD, List.length_append, List.length_append, eC_length]; rfl
      refine ⟨m - 1, by omega, Gp.one 0 2 (eC (selL (b.take (k + 1)) is key)) (by rw [hD, eC_append]; rfl) (pureEs_eC _) rfl ?_ fun ρ1 h => ⟨k + 1, by omega, rfl, h⟩⟩
      exact ⟨cl0 _ _ _ _ (pureEs_eC _), cl0 _ _ _ _ (pureEs_iC _), cl0 _ _ _ _ (pureEs_vC _), pubSl (k := 0) rfl rfl hDl hDl, pub_int (wrapI _ (by omega) (by omega)), trivial⟩
    · replace hp : selB is key x = false := hp
      rw [if_neg (by simp [hp]), List.append_nil] at hD
      conv => whnf
      refine ⟨m - 1, by omega, Gp.one 0 2 (eC (selL (b.take (k + 1)) is key)) (by rw [hD]; rfl) (pureEs_eC _) rfl ?_ fun ρ1 h => ⟨k + 1, by omega, rfl, h⟩⟩
      exact ⟨cl0 _ _ _ _ (pureEs_eC _), cl0 _ _ _ _ (pureEs_iC _), cl0 _ _ _ _ (pureEs_vC _), by rw [hD]; exact pubSl (k := 0) rfl rfl rfl rfl, pub_int (wrapI _ (by omega) (by omega)), trivial⟩
  · simp [eC_length] at hlt
    rw [List.take_of_length_le hlt]
    conv => whnf
    refine Ghost.none (n := 42) (live := [(9, .list false 2 (eC (selL b is key)))]) rfl ?_ ?_
    · exact ⟨pubF rfl (eC_length _).symm (eC_length _).symm (pureEs_eC _), trivial⟩
    rintro ρ1 ⟨d, rfl⟩
    have hg := bag_filter h0 (selB is key)
    (conv => whnf); refine ACalls.use (ref6_result_spec F.warehouseref6_result false (selL b is key) (by have := bag_len hg; rw [selL]; omega) (fun e he => by have := (bag_rowOk hg e he).1; omega) _) ?_
    rw [resR_P, selL, resP_bag hg]
    conv => whnf
    exact pub2 (.closed (.list false 2 (eC (b.filter (selB is key)))) (by simp [AVal.closed, AVal.isPure])) (.closed _ rfl)

section
variable {P : Program}
theorem bag_Project_w (F : F_bag_Project P) (hS : SortE P F.bag_sum.slices_SortFunc_LEntry_Entry.id F.bag_sum.bag_sum_1.id) (e1 e2 : Bool) (b : List Ent) (is : List Int) (H : List AObj) :
    ACalls P F.id [.list e1 2 (eC b), .list e2 1 (iC is)] H (fun r H' => r = rV (prjP b is) ∧ H' = H) := (bag_Project_raw F hS e1 e2 b is H).goodW rfl (prjP_good b is)

theorem ref6_Project_w (F : F_warehouseref6_Project P) (e1 e2 : Bool) (b : List Ent) (is : List Int) (H : List AObj) :
    ACalls P F.id [.list e1 2 (eC b), .list e2 1 (iC is)] H (fun r H' => r = rV (prjP b is) ∧ H' = H) := (ref6_Project_raw F e1 e2 b is H).goodW rfl (prjP_good b is)

theorem bag_Select_w (F : F_bag_Select P) (e1 e2 e3 : Bool) (b : List Ent) (is : List Int) (key : List V) (hi : is.length ≤ 1000000) (H : List AObj) :
    ACalls P F.id [.list e1 2 (eC b), .list e2 1 (iC is), .list e3 3 (vC key)] H (fun r H' => r = rV (selP b is key) ∧ H' = H) := (bag_Select_raw F e1 e2 e3 b is key hi H).goodW rfl (selP_good b is key)

theorem ref6_Select_w (F : F_warehouseref6_Select P) (e1 e2 e3 : Bool) (b : List Ent) (is : List Int) (key : List V) (hi : is.length ≤ 1000000) (H : List AObj) :
    ACalls P F.id [.list e1 2 (eC b), .list e2 1 (iC is), .list e3 3 (vC key)] H (fun r H' => r = rV (selP b is key) ∧ H' = H) := (ref6_Select_raw F e1 e2 e3 b is key hi H).goodW rfl (selP_good b is key)

end
def phi (is : List Int) (r : List V) (s : List V) : Int := if rowsCmp (pickL zV s is) r = 0 then 1 else 0

theorem cntL_prj (is : List Int) (r : List V) : ∀ (b : List Ent), cntL (prjL b is) r = wsum (phi is r) b
  | [] => rfl
  | e :: b => by
    show cntL (⟨pickL zV e.row is, e.cnt⟩ :: prjL b is) r = _
    rw [cntL, cntL_prj is r b, wsum, phi]
    split <;> simp

theorem cntL_sel (P : List V → Bool) (r : List V) : ∀ (b : List Ent), cntL (b.filter fun e => P e.row) r = if P r = true then cntL b r else 0
  | [] => by simp [cntL]
  | e :: b => by
    rw [List.filter_cons]
    by_cases h : rowsCmp e.row r = 0
    · have hr := (rowsCmp_zero _ _).1 h
      by_cases hp : P r = true
      · rw [if_pos (by rw [hr]; exact hp), cntL, cntL_sel P r b, cntL, if_pos hp, if_pos hp]
      · rw [if_neg (by rw [hr]; exact hp), cntL_sel P r b, if_neg hp, if_neg hp]
    · by_cases hp : P e.row = true
      · rw [if_pos hp, cntL, cntL_sel P r b, cntL, if_neg h]
        split <;> simp
      · rw [if_neg hp, cntL_sel P r b, cntL, if_neg h]
        split <;> simp

end Go.AW

namespace Go.AW
attribute [local irreducible] ACalls
theorem wsum_add {a b : List Ent} (ha : bagB a = 0) (hb : bagB b = 0) (h : (addP a b).2 = 0) (φ : List V → Int) : wsum φ (addP a b).1 = wsum φ a + wsum φ b := by
  have e : addP a b = resP (mrg a b) := by rw [addP, if_neg (by simp [ha]), if_neg (by simp [hb])]
  rw [e] at h ⊢
  unfold resP at h ⊢
  split at h
  · rename_i hc
    rw [if_pos hc]
    show wsum φ ((mrg a b).filter nzB) = _
    rw [wsum_nz, wsum_mrg]
  · cases h

theorem cntL_elem {b : List Ent} (h : bagB b = 0) {B : Int} (hB : ∀ r, -B ≤ cntL b r ∧ cntL b r ≤ B) : ∀ e ∈ b, -B ≤ e.cnt ∧ e.cnt ≤ B := fun e he => by
  have := hB e.row
  rwa [cntL_mem (bag_srt h) he] at this

theorem prj_bnd {b : List Ent} (h : bagB b = 0) {B : Int} (hB0 : 0 ≤ B) (hB : ∀ r, -B ≤ cntL b r ∧ cntL b r ≤ B) (is : List Int) (r : List V) : -(B * b.length) ≤ cntL (prjL b is) r ∧ cntL (prjL b is) r ≤ B * b.length := by
  have := cntL_bnd hB0 (prjL b is) (fun e he => by
    obtain ⟨x, hx, rfl⟩ := List.mem_map.1 he
    exact cntL_elem h hB x hx) r
  rwa [prjL_len] at this

theorem prj_ok {b : List Ent} (h : bagB b = 0) {is : List Int} (hi : is.length ≤ 12) (hc : ∀ r, smallB (cntL (prjL b is) r) = true) :
    (prjP b is).2 = 0 ∧ bagB (prjP b is).1 = 0 ∧ (prjP b is).1.length ≤ b.length ∧ ∀ r, cntL (prjP b is).1 r = cntL (prjL b is) r := by
  have e : prjP b is = sumP (prjL b is) := by rw [prjP, if_neg (by simp [h]), if_neg (by omega)]
  have h0 : (sumP (prjL b is)).2 = 0 := sumP_ok (by rw [prjL_len]; exact bag_len h) hc
  refine ⟨by rw [e]; exact h0, (prjP_good b is).1, ?_, fun r => by rw [e, sumP_cnt h0]⟩
  rw [e, sumP, resP]
  split
  · have h1 := List.length_filter_le nzB (srtM (prjL b is).length (prjL b is))
    have h2 := srtM_length (prjL b is).length (prjL b is)
    rw [prjL_len] at h1 h2
    simp only [prjL_len]
    omega
  · exact Nat.zero_le _

theorem cntL_selL (b : List Ent) (is : List Int) (key : List V) (r : List V) : cntL (selL b is key) r = if (rowsCmp (pickL zV r is) key == 0) = true then cntL b r else 0 :=
  cntL_sel (fun s => rowsCmp (pickL zV s is) key == 0) r b

theorem selP_eq {b : List Ent} (h : bagB b = 0) (is : List Int) (key : List V) : selP b is key = (selL b is key, 0) := by rw [selP, if_neg (by simp [h])]

set_option maxHeartbeats 1000000 in
set_option maxRecDepth 40000 in
theorem law_BagProjects {P : Program} (F : F_warehouselaw6_BagProjects P) (hS : SortL P F.warehouselaw6_known.bag_Normalize) (hS2 : SortE P F.bag_Project.bag_sum.slices_SortFunc_LEntry_Entry.id F.bag_Project.bag_sum.bag_sum_1.id)
    (r : List Ent) (is : List Int) (key : List V) (l m : List Int) (n : Int) :
    ACalls P F.id [.list false 2 (eC r), .list false 1 (iC is), .list false 3 (vC key), .list false 1 (iC l), .list false 1 (iC m), .int .i64 n] [] (fun q _ => q = .bool true) := by
  have known := fun H => known6_spec F.warehouselaw6_known hS H
  obtain ⟨k1, hk1, hB1⟩ := Bag_and7 F.warehousebase_Bag l n
  obtain ⟨k2, hk2, hB2⟩ := Bag_and7 F.warehousebase_Bag m (shrI n 3)
  obtain ⟨_, x1, x2, x3⟩ := bgV_ok l (n := k1) (by omega)
  obtain ⟨_, y1, y2, y3⟩ := bgV_ok m (n := k2) (by omega)
  obtain ⟨x, ex⟩ : ∃ a, a = bgV l k1 := ⟨_, rfl⟩
  obtain ⟨y, ey⟩ : ∃ a, a = bgV m k2 := ⟨_, rfl⟩
  rw [← ex] at hB1 x1 x2 x3
  rw [← ey] at hB2 y1 y2 y3
  obtain ⟨wh, ewh⟩ : ∃ wh : List Int, wh = [and64 (shrI n 6) 1] := ⟨_, rfl⟩
  obtain ⟨on, eon⟩ : ∃ on : List V, on = [anyV (and64 (shrI n 7) 15)] := ⟨_, rfl⟩
  have hw : wh.length ≤ 12 := by rw [ewh]; simp
  obtain ⟨s0, s1, s2, s3⟩ := addP_ok x1 y1 (by omega) fun r => (smallB_iff _).2 (by have := x3 r; have := y3 r; omega)
  have bx := fun r => prj_bnd x1 (B := 3 * 7) (by decide) (fun r => by have := x3 r; omega) wh r
  have by' := fun r => prj_bnd y1 (B := 3 * 7) (by decide) (fun r => by have := y3 r; omega) wh r
  have hsum : ∀ r, cntL (prjL (addP x y).1 wh) r = cntL (prjL x wh) r + cntL (prjL y wh) r := fun r => by rw [cntL_prj, cntL_prj, cntL_prj, wsum_add x1 y1 s0]
  obtain ⟨p0, p1, p2, p3⟩ := prj_ok x1 hw fun r => (smallB_iff _).2 (by have := bx r; omega)
  obtain ⟨q0, q1, q2, q3⟩ := prj_ok y1 hw fun r => (smallB_iff _).2 (by have := by' r; omega)
  obtain ⟨t0, t1, t2, t3⟩ := prj_ok s1 hw fun r => (smallB_iff _).2 (by rw [hsum]; have := bx r; have := by' r; omega)
  obtain ⟨u0, u1, u2, u3⟩ := addP_ok p1 q1 (by omega) fun r => (smallB_iff _).2 (by rw [p3, q3]; have := bx r; have := by' r; omega)
  have e1 : (prjP (addP x y).1 wh).1 = (addP (prjP x wh).1 (prjP y wh).1).1 := bagB_ext t1 u1 fun r => by rw [t3, u3, p3, q3, hsum]
  have g1 := bag_filter x1 (selB wh on)
  have g2 := bag_filter y1 (selB wh on)
  have g3 := bag_filter s1 (selB wh on)
  have l1 : (selL x wh on).length ≤ x.length := selL_len _ _ _
  have l2 : (selL y wh on).length ≤ y.length := selL_len _ _ _
  obtain ⟨v0, v1, v2, v3⟩ := addP_ok g1 g2 (by rw [selL] at l1 l2; omega) fun r => (smallB_iff _).2 (by
    have h1 := cntL_selL x wh on r
    have h2 := cntL_selL y wh on r
    rw [selL] at h1 h2
    rw [h1, h2]
    have := x3 r; have := y3 r
    split <;> omega)
  have e2 : (selL (addP x y).1 wh on) = (addP (selL x wh on) (selL y wh on)).1 := bagB_ext g3 v1 fun r => by
    have h1 := cntL_selL x wh on r
    have h2 := cntL_selL y wh on r
    have h3 := cntL_selL (addP x y).1 wh on r
    rw [h3, s3, selL, selL, v3]
    rw [selL] at h1 h2
    rw [h1, h2]
    split <;> omega
  have selx := selP_eq x1 wh on
  have sely := selP_eq y1 wh on
  have sels := selP_eq s1 wh on
  have S1 := fun H => bag_Select_w F.bag_Select false true true (addP x y).1 wh on (by omega) H
  have S2 := fun H => bag_Select_w F.bag_Select false true true x wh on (by omega) H
  have S3 := fun H => bag_Select_w F.bag_Select false true true y wh on (by omega) H
  have S4 := fun H => ref6_Select_w F.warehouseref6_Select false true true (addP x y).1 wh on (by omega) H
  rw [sels] at S1 S4
  rw [selx] at S2
  rw [sely] at S3
  subst ewh eon
  refine acalls_of_body F.has ?_
  (conv => whnf); refine ACalls.use (light6_spec F.warehouselaw6_light false r _) ?_
  (conv => whnf); refine recA (fun h1 => ?_) (fun h1 => ?_)
  · conv => whnf
    refine (known _).mono ?_
    rintro r H1 ⟨rfl, rfl⟩
    conv => whnf
  (conv => whnf); refine recA (fun h2 => ?_) (fun h2 => ?_)
  · conv => whnf
    refine (known _).mono ?_
    rintro r H1 ⟨rfl, rfl⟩
    conv => whnf
  simp [iC] at h2
  (conv => whnf); refine recA (fun h3 => ?_) (fun h3 => ?_)
  · conv => whnf
    refine (known _).mono ?_
    rintro r H1 ⟨rfl, rfl⟩
    conv => whnf
  (conv => whnf); refine ACalls.use (bag_Project_w F.bag_Project hS2 false false r is _) ?_
  (conv => whnf); refine ACalls.use (ref6_Project_w F.warehouseref6_Project false false r is _) ?_
  (conv => whnf); refine ACalls.use (bag_Select_w F.bag_Select false false false r is key (by omega) _) ?_
  (conv => whnf); refine ACalls.use (ref6_Select_w F.warehouseref6_Select false false false r is key (by omega) _) ?_
  (conv => whnf); refine ACalls.use (Same_bag F.warehouseref6_Same false false _ _ (prjP_good r is).1 _) ?_
  (conv => whnf); refine recF (by rw [eqD_true rfl]; rfl) ?_
  (conv => whnf); refine recF (by simp) ?_
  (conv => whnf); refine ACalls.use (Same_bag F.warehouseref6_Same false false _ _ (selP_good r is key).1 _) ?_
  (conv => whnf); refine recF (by rw [eqD_true rfl]; rfl) ?_
  (conv => whnf); refine recF (by simp) ?_
  (conv => whnf); refine ACalls.use (hB1 _) ?_
  (conv => whnf); refine And.intro (by decide) ?_
  (conv => whnf); refine ACalls.use (hB2 _) ?_
  (conv => whnf); refine And.intro (by decide) ?_
  (conv => whnf); refine And.intro (by decide) ?_
  (conv => whnf); refine ACalls.use (Any_spec F.warehousebase_Any (and64 (shrI n 7) 15) _) ?_
  (conv => whnf); refine ACalls.use (bag_Add_w F.bag_Add false false x y _) ?_
  (conv => whnf); refine ACalls.use (bag_Project_w F.bag_Project hS2 false true (addP x y).1 [and64 (shrI n 6) 1] _) ?_
  (conv => whnf); refine ACalls.use (bag_Project_w F.bag_Project hS2 false true x [and64 (shrI n 6) 1] _) ?_
  (conv => whnf); refine ACalls.use (bag_Project_w F.bag_Project hS2 false true y [and64 (shrI n 6) 1] _) ?_
  (conv => whnf); refine ACalls.use (bag_Add_w F.bag_Add false false _ _ _) ?_
  (conv => whnf); refine ACalls.use (S1 _) ?_
  (conv => whnf); refine ACalls.use (S2 _) ?_
  (conv => whnf); refine ACalls.use (S3 _) ?_
  (conv => whnf); refine ACalls.use (bag_Add_w F.bag_Add false false _ _ _) ?_
  (conv => whnf); refine ACalls.use (S4 _) ?_
  (conv => whnf); refine ACalls.use (Same_bag F.warehouseref6_Same false false _ _ t1 _) ?_
  (conv => whnf); refine recT (eqD_true e1) ?_
  (conv => whnf); refine ACalls.use (Same_bag F.warehouseref6_Same false false _ _ g3 _) ?_
  (conv => whnf); refine recT (eqD_true e2) ?_
  (conv => whnf); refine ACalls.use (Same_bag F.warehouseref6_Same false false _ _ g3 _) ?_
  (conv => whnf); refine recT (eqD_true rfl) ?_
  (conv => whnf); refine ACalls.mono (known _) ?_
  rintro r H1 ⟨rfl, rfl⟩
  conv => whnf

end Go.AW

namespace Go.AW
attribute [local irreducible] ACalls
theorem expL_bnd {B : Nat} : ∀ (b : List Ent), (∀ e ∈ b, e.cnt ≤ B) → (expL b).length ≤ B * b.length
  | [], _ => by simp [expL_nil]
  | e :: b, h => by
    have h1 := h e (List.mem_cons_self ..)
    have h2 := expL_bnd b fun e he => h e (List.mem_cons_of_mem _ he)
    rw [expL_cons, List.length_append, List.length_replicate, List.length_cons, Nat.mul_succ]
    omega

theorem expL_asc : ∀ (b : List Ent), Srt b → (expL b).Pairwise fun u v => rowsCmp u v ≤ 0
  | [], _ => List.Pairwise.nil
  | e :: b, h => by
    rw [expL_cons, List.pairwise_append]
    refine ⟨?_, expL_asc b (List.pairwise_cons.1 h).2, ?_⟩
    · rw [List.pairwise_replicate]
      exact .inr (Int.le_of_eq ((rowsCmp_zero _ _).2 rfl))
    · intro u hu v hv
      obtain ⟨x, hx, rfl⟩ := expL_row hv
      rw [(List.mem_replicate.1 hu).2]
      have := (List.pairwise_cons.1 h).1 x hx
      omega

def oneE (r : List V) : Ent := ⟨r, 1⟩

theorem cntL_rep (row : List V) (n : Nat) (r : List V) : cntL ((List.replicate n row).map oneE) r = if rowsCmp row r = 0 then (n : Int) else 0 := by
  induction n with
  | zero => simp [cntL]
  | succ n ih =>
    rw [List.replicate_succ, List.map_cons, cntL, ih]
    show (if rowsCmp row r = 0 then 1 else 0) + _ = _
    split <;> omega

theorem cntL_exp : ∀ (b : List Ent), b.all posE = true → ∀ r, cntL ((expL b).map oneE) r = cntL b r
  | [], _, _ => rfl
  | e :: b, hp, r => by
    rw [List.all_cons, Bool.and_eq_true] at hp
    have h1 : 0 < e.cnt := by simpa [posE] using hp.1
    rw [expL_cons, List.map_append, cntL_append, cntL_exp b hp.2 r, cntL_rep, cntL]
    split <;> omega

set_option maxRecDepth 20000 in
theorem law_BagExpands {P : Program} (F : F_warehouselaw6_BagExpands P) (hS : SortL P F.warehouselaw6_known.bag_Normalize) (hS2 : SortL P F.bag_Normalize) (r : List Ent) (l : List Int) (n : Int) :
    ACalls P F.id [.list false 2 (eC r), .list false 1 (iC l), .int .i64 n] [] (fun q _ => q = .bool true) := by
  have known := fun H => known6_spec F.warehouselaw6_known hS H
  obtain ⟨k1, hk1, hB1⟩ := table_and15 F.warehouselaw6_table l n
  obtain ⟨_, z1, z2, z3⟩ := bgV_ok l (n := k1) (by omega)
  obtain ⟨x1, x2, x3⟩ := tbV_ok l (n := k1) (by omega)
  have x4 : ∀ e ∈ tbV l k1, e.cnt ≤ 45 := fun e he => by
    have := cntL_elem z1 (B := 45) (fun r => by have := z3 r; omega) e (List.mem_filter.1 he).1
    omega
  obtain ⟨x, ex⟩ : ∃ a, a = tbV l k1 := ⟨_, rfl⟩
  rw [← ex] at hB1 x1 x2 x3 x4
  have hlen : (expL x).length ≤ 45 * x.length := expL_bnd (B := 45) x x4
  have hex : expP x = (expL x, 0) := by rw [expP, if_neg (by simp [x1]), if_pos x2, szW_bag x1 x2, if_neg (by omega)]
  obtain ⟨R, eR⟩ : ∃ R, R = expL x := ⟨_, rfl⟩
  have hasc := expL_asc x (bag_srt x1)
  have hrow : ∀ q ∈ R, q.length ≤ 12 ∧ q.all validB = true := fun q hq => by
    rw [eR] at hq
    obtain ⟨e, he, rfl⟩ := expL_row hq
    exact bag_rowOk x1 e he
  have hcnt := cntL_exp x x2
  rw [← eR] at hlen hex hasc hcnt
  have hfit : ∀ e ∈ R.map oneE, fitB e = 0 := fun e he => by
    obtain ⟨q, hq, rfl⟩ := List.mem_map.1 he
    exact (fitB_iff _).2 ⟨(hrow q hq).1, rfl, (hrow q hq).2⟩
  have hnor : norP (R.map oneE) = sumP (R.map oneE) := norP_sum hfit
  have hs0 : (sumP (R.map oneE)).2 = 0 := sumP_ok (by rw [List.length_map]; omega) fun q => by
    rw [hcnt, smallB_iff]
    have := bag_small x1 q
    omega
  have hsx : (sumP (R.map oneE)).1 = x := bagB_ext (sumP_good fun e he => fit_rowOk (hfit e he)).1 x1 fun q => by rw [sumP_cnt hs0, hcnt]
  refine acalls_of_body F.has ?_
  (conv => whnf); refine ACalls.use (light6_spec F.warehouselaw6_light false r _) ?_
  (conv => whnf); refine recA (fun h1 => ?_) (fun h1 => ?_)
  · conv => whnf
    refine (known _).mono ?_
    rintro r H1 ⟨rfl, rfl⟩
    conv => whnf
  have hE := fun H => bag_Expand_w F.bag_Expand false x H
  rw [hex] at hE
  (conv => whnf); refine ACalls.use (bag_Expand_w F.bag_Expand false r _) ?_
  (conv => whnf); refine ACalls.use (ref6_Expand_w F.warehouseref6_Expand false r _) ?_
  (conv => whnf); refine ACalls.use (hB1 _) ?_
  (conv => whnf); refine ACalls.use (hE _) ?_
  have cl0 : ∀ (f : Bool) (z : Nat) (y : List (List AVal)) (H1 : List AObj) (ids : List Nat), pureEs y = true → Pub H1 0 ids (.list f z y) (.list f z y) := fun f z y H1 ids hy => .closed _ (by simpa [AVal.closed, AVal.isPure, pureEs] using hy)
  conv => whnf
  refine ⟨fun m ρ H1 => ∃ k : Nat, k + m = R.length ∧ H1 = [.arr 2 (eC ((R.take k).map oneE))] ∧ Sv 99 [(7, .list false 1 (rwC (expP r).1)), (8, .int .i64 (expP r).2), (9, .list false 1 (rwC (expP r).1)), (10, .int .i64 (expP r).2), (11, .list false 2 (eC x)), (12, .list false 1 (rwC R)), (13, .int .i64 0), (14, .sl 0 k 0 k), (15, .int .i64 k)] ρ, R.length, [(14, 2)], ?_, ?_⟩
  · exact ⟨0, by omega, rfl, Sv.intro rfl ⟨rfl, rfl, rfl, rfl, rfl, rfl, rfl, rfl, rfl, trivial⟩⟩
  rintro m ρ H1 ⟨k, hk, rfl, d, rfl⟩
  have hkl : ((R.take k).map oneE).length = k := by rw [List.length_map, List.length_take]; omega
  (conv => whnf); refine recA (fun hlt => ?_) (fun hlt => ?_)
  · simp [rwC_length] at hlt
    obtain ⟨q, hq, _, hqm⟩ := get_drop hlt
    have hqr := (hrow q hqm).1
    have hD : (R.take (k + 1)).map oneE = (R.take k).map oneE ++ [oneE q] := by rw [List.take_add_one, hq, List.map_append]; rfl
    (conv => whnf); refine recA (fun hk0 => ?_) (fun hk0 => ?_)
    · simp at hk0
      obtain ⟨j, rfl⟩ : ∃ j, k = j + 1 := ⟨k - 1, by omega⟩
      obtain ⟨p, hp, _, hpm⟩ := get_drop (l := R) (k := j) (by omega)
      have hpr := (hrow p hpm).1
      have ej := wrapI (((j + 1 : Nat) : Int) - 1) (by omega) (by omega)
      have hp2 : (rwC R)[(IntKind.i64.wrap (((j + 1 : Nat) : Int) - 1)).toNat]? = some [.list false 3 (vC p)] := by
        rw [ej, show ((((j + 1 : Nat) : Int) - 1).toNat) = j by omega]; exact rwC_at hp
      have hpq : rowsCmp p q ≤ 0 := by
        obtain ⟨h1, e1⟩ := List.getElem?_eq_some_iff.1 hp
        obtain ⟨h2, e2⟩ := List.getElem?_eq_some_iff.1 hq
        have := List.pairwise_iff_getElem.1 hasc j (j + 1) h1 h2 (by omega)
        rwa [e1, e2] at this
      (conv => whnf); refine And.intro (by rw [ej]; omega) ?_
      (conv => whnf); refine recO (hp2) ?_
      (conv => whnf); refine And.intro (by omega) ?_
      (conv => whnf); refine recO (rwC_at hq) ?_
      (conv => whnf); refine ⟨_, ref1_CompareRows_spec F.warehouseref1_CompareRows false false p q (by omega) _, ?_⟩
      (conv => whnf); refine recF (by show decide (rowsCmp p q > 0) = false; rw [decide_eq_false (by omega)]) ?_
      (conv => whnf); refine And.intro (by omega) ?_
      (conv => whnf); refine recO (rwC_at hq) ?_
      (conv => whnf); refine recT (by rw [eC_length, hkl]; exact Nat.beq_refl _) ?_
      (conv => whnf); refine And.intro (⟨roomMul (by simp; omega) (by omega), roomB_le (by simp; omega), rfl, by rw [eC_length, hkl]⟩) ?_
      conv => whnf
      have hDl : (eC ((R.take (j + 1)).map oneE) ++ [[AVal.list false 3 (vC q), .int .i64 1]]).length = (j + 1) + 1 := by rw [List.length_append, eC_length, hkl]; rfl
      refine ⟨m - 1, by omega, Gp.one 0 2 (eC ((R.take ((j + 1) + 1)).map oneE)) (by rw [hD, eC_append]; rfl) (pureEs_eC _) rfl ?_ fun ρ1 h => ⟨(j + 1) + 1, by omega, rfl, h⟩⟩
      exact ⟨cl0 _ _ _ _ _ (pureEs_rwC _), .closed _ rfl, cl0 _ _ _ _ _ (pureEs_rwC _), .closed _ rfl, cl0 _ _ _ _ _ (pureEs_eC _), cl0 _ _ _ _ _ (pureEs_rwC _), .closed _ rfl, pubSl (k := 0) rfl rfl hDl hDl, pub_int (wrapI _ (by omega) (by omega)), trivial⟩
    · clear hk0
      (conv => whnf); refine And.intro (by omega) ?_
      (conv => whnf); refine recO (rwC_at hq) ?_
      (conv => whnf); refine recT (by rw [eC_length, hkl]; exact Nat.beq_refl _) ?_
      (conv => whnf); refine And.intro (⟨roomMul (by simp; omega) (by omega), roomB_le (by simp; omega), rfl, by rw [eC_length, hkl]⟩) ?_
      conv => whnf
      have hDl : (eC ((R.take k).map oneE) ++ [[AVal.list false 3 (vC q), .int .i64 1]]).length = k + 1 := by rw [List.length_append, eC_length, hkl]; rfl
      refine ⟨m - 1, by omega, Gp.one 0 2 (eC ((R.take (k + 1)).map oneE)) (by rw [hD, eC_append]; rfl) (pureEs_eC _) rfl ?_ fun ρ1 h => ⟨k + 1, by omega, rfl, h⟩⟩
      exact ⟨cl0 _ _ _ _ _ (pureEs_rwC _), .closed _ rfl, cl0 _ _ _ _ _ (pureEs_rwC _), .closed _ rfl, cl0 _ _ _ _ _ (pureEs_eC _), cl0 _ _ _ _ _ (pureEs_rwC _), .closed _ rfl, pubSl (k := 0) rfl rfl hDl hDl, pub_int (wrapI _ (by omega) (by omega)), trivial⟩
  · simp [rwC_length] at hlt
    rw [List.take_of_length_le hlt] at hkl ⊢
    have hel : (eC (R.map oneE)).length = k := by rw [eC_length, hkl]
    conv => whnf
    refine Ghost.none (n := 99) (live := [(7, .list false 1 (rwC (expP r).1)), (8, .int .i64 (expP r).2), (9, .list false 1 (rwC (expP r).1)), (10, .int .i64 (expP r).2), (11, .list false 2 (eC x)), (13, .int .i64 0), (14, .list false 2 (eC (R.map oneE)))]) rfl ?_ ?_
    · exact ⟨cl0 _ _ _ _ _ (pureEs_rwC _), .closed _ rfl, cl0 _ _ _ _ _ (pureEs_rwC _), .closed _ rfl, cl0 _ _ _ _ _ (pureEs_eC _), .closed _ rfl, pubF rfl hel.symm hel.symm (pureEs_eC _), trivial⟩
    rintro ρ1 ⟨d, rfl⟩
    have hN := fun H => bag_Normalize_w F.bag_Normalize hS2 false (R.map oneE) (by rw [List.length_map]; omega) H
    rw [hnor] at hN
    (conv => whnf); refine ACalls.use (hN _) ?_
    (conv => whnf); refine ACalls.use (SameRows_refl F.warehouseref6_SameRows false false (expP r).1 (by have := expP_len r; omega) (fun q hq => by have := expP_row r q hq; omega) _) ?_
    (conv => whnf); refine recT (by simp) ?_
    conv => whnf
    rw [hs0]
    (conv => whnf); refine ACalls.use (Same_bag F.warehouseref6_Same false false _ _ x1 _) ?_
    (conv => whnf); refine recT (eqD_true hsx.symm) ?_
    (conv => whnf); refine ACalls.mono (known _) ?_
    rintro r H1 ⟨rfl, rfl⟩
    conv => whnf

end Go.AW

namespace Go.AW
attribute [local irreducible] ACalls
theorem sumP_srt {l : List Ent} (h : Srt l) : sumP l = resP l := by
  have hb := srt_srtM l.length l (by omega)
  have e : (srtM l.length l).filter nzB = l.filter nzB := bag_ext _ _ (hb.filter _) (h.filter _) (fun e he => by have := (List.mem_filter.1 he).2; simpa [nzB] using this) (fun e he => by have := (List.mem_filter.1 he).2; simpa [nzB] using this) fun r => by rw [cntF_nz, cntF_nz, cntL_srtM]
  rw [sumP, resP, resP, small_nz (srtM l.length l), small_nz l, e]

def mnL (c : Int) (M : Nat) : List Ent := (List.range M).map fun (i : Nat) => ⟨oneR (i : Int), c⟩

theorem mnL_len (c : Int) (M : Nat) : (mnL c M).length = M := by simp [mnL]

theorem mnL_succ (c : Int) (k : Nat) : mnL c (k + 1) = mnL c k ++ [⟨oneR k, c⟩] := by simp [mnL, List.range_succ]

theorem mnL_srt (c : Int) (M : Nat) : Srt (mnL c M) := by
  rw [mnL, Srt, List.pairwise_map]
  refine List.Pairwise.imp ?_ List.pairwise_lt_range
  intro a b h
  show rowsCmp (oneR a) (oneR b) < 0
  rw [oneC, if_pos (by omega)]; decide

theorem mnL_nor {c : Int} (hc : c = 1 ∨ c = 2) {M : Nat} (hM : M ≤ 100000) : norP (mnL c M) = if M ≤ 4096 then (mnL c M, 0) else ([], 2) := by
  have hfit : ∀ e ∈ mnL c M, fitB e = 0 := fun e he => by
    obtain ⟨i, hi, rfl⟩ := List.mem_map.1 he
    have := List.mem_range.1 hi
    refine (fitB_iff _).2 ⟨by simp [oneR], by rcases hc with rfl | rfl <;> rfl, ?_⟩
    show (validB ⟨2, (i : Int), bs []⟩ && true) = true
    show (decide (-1073741824 ≤ (i : Int)) && decide ((i : Int) ≤ 1073741824) && true && true) = true
    simp
    omega
  have e1 : (mnL c M).filter nzB = mnL c M := List.filter_eq_self.2 fun e he => by
    obtain ⟨i, hi, rfl⟩ := List.mem_map.1 he
    rcases hc with rfl | rfl <;> rfl
  have e2 : ((mnL c M).all fun e => smallB e.cnt) = true := List.all_eq_true.2 fun e he => ((fitB_iff e).1 (hfit e he)).2.1
  rw [norP_sum hfit, sumP_srt (mnL_srt c M), resP, e1, mnL_len]
  simp only [e2, true_and]

theorem add_lim {K b : Int} (h1 : 65533 ≤ K) (h2 : K ≤ 65536) (h3 : 0 ≤ b) (h4 : b ≤ 7) : addP [⟨oneR 0, K⟩] [⟨oneR 0, b + 1⟩] = if K + b + 1 ≤ 65536 then ([⟨oneR 0, K + b + 1⟩], 0) else ([], 2) := by
  have hv : (oneR 0).all validB = true := by decide
  have hr : (oneR 0).length ≤ 12 := by decide
  have ha : bagB [⟨oneR 0, K⟩] = 0 := (bagB_iff _).2 ⟨by simp, fun e he => by
    rw [List.mem_singleton.1 he]
    exact ⟨(fitB_iff _).2 ⟨hr, (smallB_iff _).2 ⟨by simp only []; omega, h2⟩, hv⟩, by simp only []; omega⟩, List.pairwise_singleton _ _⟩
  have hb : bagB [⟨oneR 0, b + 1⟩] = 0 := (bagB_iff _).2 ⟨by simp, fun e he => by
    rw [List.mem_singleton.1 he]
    exact ⟨(fitB_iff _).2 ⟨hr, (smallB_iff _).2 ⟨by simp only []; omega, by simp only []; omega⟩, hv⟩, by simp only []; omega⟩, List.pairwise_singleton _ _⟩
  have hm : mrg [⟨oneR 0, K⟩] [⟨oneR 0, b + 1⟩] = [⟨oneR 0, K + b + 1⟩] := by
    rw [mrg_cons, oneC, if_neg (by decide), if_neg (by decide), mrg_nil, Int.add_assoc]
  rw [addP, if_neg (by simp [ha]), if_neg (by simp [hb]), hm, resP]
  have e1 : [(⟨oneR 0, K + b + 1⟩ : Ent)].filter nzB = [⟨oneR 0, K + b + 1⟩] := by
    rw [List.filter_cons, if_pos (by simp [nzB]; omega)]; rfl
  have e2 : ([(⟨oneR 0, K + b + 1⟩ : Ent)].all fun e => smallB e.cnt) = decide (K + b + 1 ≤ 65536) := by
    simp [smallB]; omega
  rw [e1, e2]
  by_cases h : K + b + 1 ≤ 65536
  · rw [if_pos h, if_pos ⟨by simpa using h, by simp⟩]
  · rw [if_neg h, if_neg (by simp; omega)]

set_option maxHeartbeats 1000000 in
set_option maxRecDepth 20000 in
theorem law_BagLimits {P : Program} (F : F_warehouselaw6_BagLimits P) (hS : SortL P F.warehouselaw6_known.bag_Normalize) (hS2 : SortL P F.bag_Normalize) (n by' : Int) :
    ACalls P F.id [.int .i64 n, .int .i64 by'] [] (fun q _ => q = .bool true) := by
  have known := fun H => known6_spec F.warehouselaw6_known hS H
  have o := fun n H => one6_spec F.warehouselaw6_one n H
  have n3 : and64 n 3 = n % 4 := and_3 n
  have b7 : and64 by' 7 = by' % 8 := and_7 by'
  obtain ⟨K, eK⟩ : ∃ K, K = 65536 - n % 4 := ⟨_, rfl⟩
  obtain ⟨b, eb⟩ : ∃ b, b = by' % 8 := ⟨_, rfl⟩
  have k1 : 65533 ≤ K ∧ K ≤ 65536 := by omega
  have k2 : 0 ≤ b ∧ b ≤ 7 := by omega
  have w1 : IntKind.i64.wrap (65536 - IntKind.i64.wrap ↑(BitVec.ofInt IntKind.i64.bits n &&& BitVec.ofInt IntKind.i64.bits 3).toNat) = K := by
    show IntKind.i64.wrap (65536 - and64 n 3) = K
    rw [n3, wrapI _ (by omega) (by omega), eK]
  have wb : IntKind.i64.wrap ↑(BitVec.ofInt IntKind.i64.bits by' &&& BitVec.ofInt IntKind.i64.bits 7).toNat = b := b7.trans eb.symm
  have w2 : IntKind.i64.wrap (b + 1) = b + 1 := wrapI _ (by omega) (by omega)
  have w3 : IntKind.i64.wrap (K + b) = K + b := wrapI _ (by omega) (by omega)
  have w4 : IntKind.i64.wrap (K + b + 1) = K + b + 1 := wrapI _ (by omega) (by omega)
  have hadd := add_lim k1.1 k1.2 k2.1 k2.2
  obtain ⟨c, ec, hc⟩ : ∃ c, IntKind.i64.wrap (1 + and64 (shrI n 3) 1) = c ∧ (c = 1 ∨ c = 2) := ⟨_, rfl, by
    rw [and_1, wrapI _ (by omega) (by omega)]; omega⟩
  obtain ⟨M, eM, hM⟩ : ∃ M : Nat, IntKind.i64.wrap (4096 + and64 (shrI n 2) 1) = M ∧ (M = 4096 ∨ M = 4097) := ⟨(4096 + shrI n 2 % 2).toNat, by
    rw [and_1, wrapI _ (by omega) (by omega)]; omega, by omega⟩
  refine acalls_of_body F.has ?_
  conv => whnf
  rw [w1, wb]
  (conv => whnf); refine ACalls.use (o 0 _) ?_
  (conv => whnf); refine ACalls.use (o 0 _) ?_
  have hA := fun H => bag_Add_w F.bag_Add true true [⟨oneR 0, K⟩] [⟨oneR 0, b + 1⟩] H
  rw [hadd] at hA
  conv => whnf
  rw [w2]
  by_cases hlim : K + b + 1 ≤ 65536
  · rw [if_pos hlim] at hA
    (conv => whnf); refine ACalls.use (hA _) ?_
    (conv => whnf); refine recF (by rw [w3, w4]; simp [hlim]) ?_
    (conv => whnf); refine And.intro (by decide) ?_
    (conv => whnf); refine recF (by rw [w3, w4]; simp) ?_
    conv => whnf
    refine ⟨fun m ρ H1 => ∃ k : Nat, k + m = M ∧ H1 = [.arr 2 (eC (mnL c k))] ∧ Sv 144 [(0, .int .i64 n), (10, .sl 0 k 0 k), (11, .int .i64 k)] ρ, M, [(10, 2)], ?_, ?_⟩
    · exact ⟨0, by omega, rfl, Sv.intro rfl ⟨rfl, rfl, rfl, trivial⟩⟩
    rintro m ρ H1 ⟨k, hk, rfl, d, rfl⟩
    (conv => whnf); refine And.intro (by decide) ?_
    (conv => whnf); refine recA (fun hlt => ?_) (fun hlt => ?_)
    · replace hlt : decide ((k : Int) < IntKind.i64.wrap (4096 + and64 (shrI n 2) 1)) = true := hlt
      rw [eM] at hlt
      simp at hlt
      (conv => whnf); refine ACalls.use (o k _) ?_
      (conv => whnf); refine And.intro (by decide) ?_
      (conv => whnf); refine recT (by rw [eC_length, mnL_len]; exact Nat.beq_refl _) ?_
      (conv => whnf); refine And.intro (⟨roomMul (by simp; omega) (by omega), roomB_le (by simp; omega), rfl, by rw [eC_length, mnL_len]⟩) ?_
      conv => whnf
      have hDl : ∀ z : List AVal, (eC (mnL c k) ++ [z]).length = k + 1 := fun z => by rw [List.length_append, eC_length, mnL_len]; rfl
      refine ⟨m - 1, by omega, Gp.one 0 2 (eC (mnL c (k + 1))) (by rw [mnL_succ, eC_append, ← ec]; rfl) (pureEs_eC _) rfl ?_ fun ρ1 h => ⟨k + 1, by omega, rfl, h⟩⟩
      exact ⟨.closed _ rfl, pubSl (k := 0) rfl rfl (hDl _) (hDl _), pub_int (wrapI _ (by omega) (by omega)), trivial⟩
    · replace hlt : decide ((k : Int) < IntKind.i64.wrap (4096 + and64 (shrI n 2) 1)) = false := hlt
      rw [eM] at hlt
      simp at hlt
      have hkM : k = M := by omega
      subst hkM
      have hel : (eC (mnL c k)).length = k := by rw [eC_length, mnL_len]
      conv => whnf
      refine Ghost.none (n := 144) (live := [(10, .list false 2 (eC (mnL c k)))]) rfl ?_ ?_
      · exact ⟨pubF rfl hel.symm hel.symm (pureEs_eC _), trivial⟩
      rintro ρ1 ⟨d, rfl⟩
      have hN := fun H => bag_Normalize_w F.bag_Normalize hS2 false (mnL c k) (by rw [mnL_len]; omega) H
      rw [mnL_nor hc (by omega)] at hN
      by_cases h46 : k ≤ 4096
      · rw [if_pos h46] at hN
        (conv => whnf); refine ACalls.use (hN _) ?_
        (conv => whnf); refine ACalls.use (bag_Expand_w F.bag_Expand false (mnL c k) _) ?_
        (conv => whnf); refine ACalls.use (ref6_Expand_w F.warehouseref6_Expand false (mnL c k) _) ?_
        (conv => whnf); refine recT (by rw [hel]; simp; omega) ?_
        (conv => whnf); refine recT (by simp) ?_
        (conv => whnf); refine recT (by simp) ?_
        (conv => whnf); refine recT (by simp) ?_
        (conv => whnf); refine ACalls.mono (known _) ?_
        rintro r H1 ⟨rfl, rfl⟩
        conv => whnf
      · rw [if_neg h46] at hN
        (conv => whnf); refine ACalls.use (hN _) ?_
        (conv => whnf); refine ACalls.use (bag_Expand_w F.bag_Expand false (mnL c k) _) ?_
        (conv => whnf); refine ACalls.use (ref6_Expand_w F.warehouseref6_Expand false (mnL c k) _) ?_
        (conv => whnf); refine recT (by rw [hel]; simp; omega) ?_
        (conv => whnf); refine recT (by simp) ?_
        (conv => whnf); refine recT (by simp) ?_
        (conv => whnf); refine ACalls.mono (known _) ?_
        rintro r H1 ⟨rfl, rfl⟩
        conv => whnf
  · rw [if_neg hlim] at hA
    (conv => whnf); refine ACalls.use (hA _) ?_
    (conv => whnf); refine recF (by rw [w3, w4]; simp [hlim]) ?_
    conv => whnf
    refine ⟨fun m ρ H1 => ∃ k : Nat, k + m = M ∧ H1 = [.arr 2 (eC (mnL c k))] ∧ Sv 144 [(0, .int .i64 n), (10, .sl 0 k 0 k), (11, .int .i64 k)] ρ, M, [(10, 2)], ?_, ?_⟩
    · exact ⟨0, by omega, rfl, Sv.intro rfl ⟨rfl, rfl, rfl, trivial⟩⟩
    rintro m ρ H1 ⟨k, hk, rfl, d, rfl⟩
    (conv => whnf); refine And.intro (by decide) ?_
    (conv => whnf); refine recA (fun hlt => ?_) (fun hlt => ?_)
    · replace hlt : decide ((k : Int) < IntKind.i64.wrap (4096 + and64 (shrI n 2) 1)) = true := hlt
      rw [eM] at hlt
      simp at hlt
      (conv => whnf); refine ACalls.use (o k _) ?_
      (conv => whnf); refine And.intro (by decide) ?_
      (conv => whnf); refine recT (by rw [eC_length, mnL_len]; exact Nat.beq_refl _) ?_
      (conv => whnf); refine And.intro (⟨roomMul (by simp; omega) (by omega), roomB_le (by simp; omega), rfl, by rw [eC_length, mnL_len]⟩) ?_
      conv => whnf
      have hDl : ∀ z : List AVal, (eC (mnL c k) ++ [z]).length = k + 1 := fun z => by rw [List.length_append, eC_length, mnL_len]; rfl
      refine ⟨m - 1, by omega, Gp.one 0 2 (eC (mnL c (k + 1))) (by rw [mnL_succ, eC_append, ← ec]; rfl) (pureEs_eC _) rfl ?_ fun ρ1 h => ⟨k + 1, by omega, rfl, h⟩⟩
      exact ⟨.closed _ rfl, pubSl (k := 0) rfl rfl (hDl _) (hDl _), pub_int (wrapI _ (by omega) (by omega)), trivial⟩
    · replace hlt : decide ((k : Int) < IntKind.i64.wrap (4096 + and64 (shrI n 2) 1)) = false := hlt
      rw [eM] at hlt
      simp at hlt
      have hkM : k = M := by omega
      subst hkM
      have hel : (eC (mnL c k)).length = k := by rw [eC_length, mnL_len]
      conv => whnf
      refine Ghost.none (n := 144) (live := [(10, .list false 2 (eC (mnL c k)))]) rfl ?_ ?_
      · exact ⟨pubF rfl hel.symm hel.symm (pureEs_eC _), trivial⟩
      rintro ρ1 ⟨d, rfl⟩
      have hN := fun H => bag_Normalize_w F.bag_Normalize hS2 false (mnL c k) (by rw [mnL_len]; omega) H
      rw [mnL_nor hc (by omega)] at hN
      by_cases h46 : k ≤ 4096
      · rw [if_pos h46] at hN
        (conv => whnf); refine ACalls.use (hN _) ?_
        (conv => whnf); refine ACalls.use (bag_Expand_w F.bag_Expand false (mnL c k) _) ?_
        (conv => whnf); refine ACalls.use (ref6_Expand_w F.warehouseref6_Expand false (mnL c k) _) ?_
        (conv => whnf); refine recT (by rw [hel]; simp; omega) ?_
        (conv => whnf); refine recT (by simp) ?_
        (conv => whnf); refine recT (by simp) ?_
        (conv => whnf); refine recT (by simp) ?_
        (conv => whnf); refine ACalls.mono (known _) ?_
        rintro r H1 ⟨rfl, rfl⟩
        conv => whnf
      · rw [if_neg h46] at hN
        (conv => whnf); refine ACalls.use (hN _) ?_
        (conv => whnf); refine ACalls.use (bag_Expand_w F.bag_Expand false (mnL c k) _) ?_
        (conv => whnf); refine ACalls.use (ref6_Expand_w F.warehouseref6_Expand false (mnL c k) _) ?_
        (conv => whnf); refine recT (by rw [hel]; simp; omega) ?_
        (conv => whnf); refine recT (by simp) ?_
        (conv => whnf); refine recT (by simp) ?_
        (conv => whnf); refine ACalls.mono (known _) ?_
        rintro r H1 ⟨rfl, rfl⟩
        conv => whnf

end Go.AW

namespace Go.AW
open Go.Sort
section
variable {P : Program} {β : Type}
structure El (C : Nat → Nat) (w : World) (k : Nat) (cells : β → List AVal) where
  vs : List Value
  x : β
  len : vs.length = k
  one : ∀ v ∈ vs, v.oneCell' = true
  rd : ∀ (j : Nat) (c : AVal) (v : Value), (cells x)[j]? = some c → vs[j]? = some v → Rd C w c v

theorem Rd.later {C : Nat → Nat} {w w' : World} {a : AVal} {v : Value} (h : Rd C w a v) (hc : ∀ b i, i < C b → w'.cell? ⟨b, i, none⟩ = w.cell? ⟨b, i, none⟩) : Rd C w' a v := by
  have s : Step C (fun _ => none) [] w C (fun _ => none) [] { w with heap := w.heap } := Step.refl
  induction h with
  | junk v h => exact .junk v h
  | bool b => exact .bool b
  | int k n => exact .int k n
  | str s => exact .str s
  | nil => exact .nil
  | list0 x sz a cap hx => exact .list0 x sz a cap hx
  | list x sz es b off cap vs hx hcap hsz hC hcell hp hrd ih =>
    refine .list x sz es b off cap vs hx hcap hsz hC (fun i j hi hj => ?_) hp fun i j e d he hd => ih i j e d he hd
    rw [hc b _ ?_, hcell i j hi hj]
    have : i * sz + sz ≤ es.length * sz := by
      have := Nat.mul_le_mul_right sz (show i + 1 ≤ es.length by omega)
      rwa [Nat.add_mul, Nat.one_mul] at this
    omega
  | cptr cs fld b off vs hC hcell hp hrd ih =>
    refine .cptr cs fld b off vs hC (fun j hj => ?_) hp fun j d hd => ih j d hd
    rw [hc b _ (by omega), hcell j hj]
  | fn f => exact .fn f

theorem cmpLays_of {C : Nat → Nat} {w : World} {k : Nat} {cells : β → List AVal} (hk : ∀ x, (cells x).length = k) [Inhabited (El C w k cells)] {cmp : β → β → Int} {g : FuncId}
    (eg : ∀ args w, (callFunc g args).run P w = .ok (.enter g args) w)
    (hg : ∀ x y, ACalls P g [.agg (cells x), .agg (cells y)] [] (fun r _ => r = .int .i64 (cmp x y)))
    {blk off size : Nat} (hlt : ∀ b, 0 < C b → b < w.heap.size) (hblk : C blk = 0) :
    Go.Proofs.CmpLays P g #[] (fun e : El C w k cells => e.vs) k (fun a b => cmp a.x b.x) blk off size w := by
  intro m os dk hs x y
  obtain ⟨W, hW⟩ : ∃ W, Go.Proofs.sortWorldK (fun e : El C w k cells => e.vs) k w blk off m dk os = W := ⟨_, rfl⟩
  rw [hW]
  have hcell : ∀ b i, i < C b → W.cell? ⟨b, i, none⟩ = w.cell? ⟨b, i, none⟩ := by
    intro b i hi
    have hb : b < w.heap.size := hlt b (by omega)
    have hbb : b ≠ blk := fun e => by rw [e, hblk] at hi; omega
    refine cell_heap ?_
    rw [← hW]
    unfold Go.Proofs.sortWorldK Go.Sort.putRowK putRow mapBlock grow Go.Sort.ahead
    simp only []
    rw [Array.getElem?_append_left (by simp; exact hb), Array.getElem?_modify, if_neg (Ne.symm hbb)]
  have hsz : w.heap.size ≤ W.heap.size := by rw [← hW]; exact Go.Proofs.size_sortWorldK_c _ _ _ _ _ _ _ _
  have hwf : WF C (fun _ => none) [] W := ⟨fun id o h => by simp at h, fun id o h => by simp at h, fun id o l h => by simp at h, fun id l h => by simp at h, fun i j li lj h => by simp at h, fun b hb => Nat.lt_of_lt_of_le (hlt b hb) hsz⟩
  have hrel : ∀ e : El C w k cells, Rel C W (fun _ => none) [] (.agg (cells e.x)) (.agg e.vs.toArray) := fun e => by
    refine .agg _ _ (by simp [hk, e.len]) fun i c v hc hv => .rd ((e.rd i c v hc ?_).later hcell)
    simpa using hv
  have h := hg x.x y.x C (fun _ => none) W #[.agg x.vs.toArray, .agg y.vs.toArray] hwf rfl fun i a v ha hv => by
    rcases i with _ | _ | i
    · cases ha; cases hv; exact hrel x
    · cases ha; cases hv; exact hrel y
    · simp at ha
  unfold CallsX at h
  rw [eg] at h
  refine Calls.mono h fun e w' => ?_
  rintro ⟨v, r, C', τ', H', rfl, rfl, hrv, hst, _⟩
  refine ⟨?_, w'.drawn - W.drawn, w'.heap.extract W.heap.size w'.heap.size, ?_⟩
  · cases hrv with
    | rd h => cases h; rfl
  · have f := hst.fr
    have hp : ∀ b, b < W.heap.size → w'.heap[b]? = W.heap[b]? := fun b hb => f.prot b ⟨hb, by rintro ⟨id, l, h, _⟩; simp at h⟩
    have hh : w'.heap = W.heap ++ w'.heap.extract W.heap.size w'.heap.size := by
      refine Array.ext_getElem? fun i => ?_
      by_cases hi : i < W.heap.size
      · rw [Array.getElem?_append_left hi]; exact hp i hi
      · rw [Array.getElem?_append_right (by omega), Array.getElem?_extract]
        by_cases hi2 : i < w'.heap.size
        · rw [if_pos (by omega)]; congr 1; omega
        · rw [if_neg (by omega)]; exact Array.getElem?_eq_none (by omega)
    have hd : w'.drawn = W.drawn + (w'.drawn - W.drawn) := by have := f.drawn; omega
    obtain ⟨h1, h2, h3, h4, h5⟩ := w'
    unfold grow World.drewN
    simp only [World.mk.injEq]
    exact ⟨hh, f.tape, hd, f.os, f.output⟩

theorem St.grow {w0 w : World} {Pr : Nat → Prop} {C : Nat → Nat} {τ : Nat → Option Loc} {H : List AObj} (h : St w0 Pr C τ H w) : ∀ (os : List Obj), St w0 Pr C τ H (Go.Sort.grow w os.toArray) ∧ Step C τ H w C τ H (Go.Sort.grow w os.toArray) := by
  intro os
  induction os generalizing w with
  | nil => simpa using ⟨h, Step.refl⟩
  | cons o os ih =>
    obtain ⟨st, s⟩ := h.alloc_comm o 0
    have hCC : updF C w.heap.size (C w.heap.size + 0) = C := by
      funext b
      by_cases e : b = w.heap.size
      · subst e; rw [updF_same]; rfl
      · rw [updF_other _ _ e]
    rw [hCC] at st s
    obtain ⟨st2, s2⟩ := ih st
    have e : Go.Sort.grow (w.alloc o) os.toArray = Go.Sort.grow w (o :: os).toArray := by
      rw [alloc_eq_grow, grow_grow]
      congr 1
      simp
    rw [e] at st2 s2
    exact ⟨st2, s.trans s2⟩

theorem St.putRow {w0 w : World} {Pr : Nat → Prop} {C : Nat → Nat} {τ : Nat → Option Loc} {H : List AObj} {k : Nat} {cells : β → List AVal} (hk : ∀ x, (cells x).length = k) (hk0 : 0 < k) (hcl : ∀ x, ∀ c ∈ cells x, c.isCell = true) [Inhabited (El C w k cells)]
    (h : St w0 Pr C τ H w) {i0 : Nat} {es : List β} {l : Loc} (ho : H[i0]? = some (.arr k (es.map cells))) (hl : τ i0 = some l) (d : Array (El C w k cells)) (hd : d.size = es.length) :
    St w0 Pr C τ (H.set i0 (.arr k (d.toList.map fun e => cells e.x))) (putRowK (fun e : El C w k cells => e.vs) k w l.b 0 d) ∧ Step C τ H w C τ (H.set i0 (.arr k (d.toList.map fun e => cells e.x))) (putRowK (fun e : El C w k cells => e.vs) k w l.b 0 d) := by
  obtain ⟨hcap, cs, elem, fz, h1, h2, h3, _⟩ := h.wf.objs i0 _ l ho hl
  rw [List.length_map] at hcap
  have hw : (putRowK (fun e : El C w k cells => e.vs) k w l.b 0 d).heap[l.b]? = some (.cells (Go.Sort.putCells id 0 (flatK (fun e : El C w k cells => e.vs) k d) cs) elem fz) := by
    unfold putRowK Go.Sort.putRow mapBlock
    simp only [Array.getElem?_modify, if_true, h1, Option.map_some, onCells]
  refine h.set_obj (w' := putRowK (fun e : El C w k cells => e.vs) k w l.b 0 d) (o' := .arr k (d.toList.map fun e => cells e.x)) ho hl (fun b hb => ?_) (by simp [putRowK]) rfl rfl rfl rfl ⟨rfl, by simp; omega, fun _ => rfl⟩ (fun e he => ?_) fun C' τ' H' s => ?_
  · unfold putRowK Go.Sort.putRow mapBlock
    simp only [Array.getElem?_modify]
    rw [if_neg (Ne.symm hb)]
  · obtain ⟨x, _, rfl⟩ := List.mem_map.1 he
    exact ⟨hk x.x, hcl x.x⟩
  · refine ⟨by simp; omega, _, elem, fz, hw, by simp [Go.Sort.putCells, h2], by simpa [Go.Sort.putCells] using h3, fun i j e c he hc => ?_⟩
    rw [List.getElem?_map] at he
    obtain ⟨x, hx, rfl⟩ := Option.map_eq_some_iff.1 he
    have hi : i < d.size := by have := (List.getElem?_eq_some_iff.1 hx).1; simpa using this
    have hj : j < k := by have := (List.getElem?_eq_some_iff.1 hc).1; rwa [hk] at this
    have hxd : d[i]! = x := by
      rw [getElem!_pos d i hi]
      have := (List.getElem?_eq_some_iff.1 hx).2
      simpa using this
    have ht : i * k + j < d.size * k := by
      have := Nat.mul_le_mul_right k (show i + 1 ≤ d.size by omega)
      rw [Nat.add_mul, Nat.one_mul] at this
      omega
    have htc : i * k + j < cs.size := by
      have := Nat.mul_le_mul_right k (show d.size ≤ l.cap by omega)
      omega
    have hjv : j < x.vs.length := by rw [x.len]; exact hj
    refine ⟨x.vs[j], ?_, ?_⟩
    · unfold Go.Sort.putCells
      rw [Array.getElem?_mapIdx, Array.getElem?_eq_getElem htc]
      have hf := get_flatK (fun e : El C w k cells => e.vs) k d (i * k + j) ht
      have e1 : (i * k + j) / k = i := by rw [Nat.mul_comm, Nat.mul_add_div hk0, Nat.div_eq_of_lt hj, Nat.add_zero]
      have e2 : (i * k + j) % k = j := by rw [Nat.mul_comm, Nat.mul_add_mod, Nat.mod_eq_of_lt hj]
      rw [e1, e2, hxd] at hf
      simp only [Option.map_some, size_flatK, Nat.zero_le, true_and, Nat.zero_add, ht, if_true, Nat.sub_zero, hf]
      rw [getElem!_pos x.vs j hjv]
      rfl
    · exact (Rel.rd (x.rd j c _ hc (List.getElem?_eq_getElem hjv))).mono s

theorem row_of {w0 w : World} {Pr : Nat → Prop} {C : Nat → Nat} {τ : Nat → Option Loc} {H : List AObj} {k : Nat} {cells : β → List AVal} (hk : ∀ x, (cells x).length = k) (hk0 : 0 < k) (hpu : ∀ x, ∀ c ∈ cells x, c.isPure = true)
    (h : St w0 Pr C τ H w) {i0 : Nat} {es : List β} {l : Loc} (ho : H[i0]? = some (.arr k (es.map cells))) (hl : τ i0 = some l) :
    ∃ d : Array (El C w k cells), d.size = es.length ∧ d.toList.map (fun e => e.x) = es ∧ ∀ [Inhabited (El C w k cells)], HoldsK (fun e : El C w k cells => e.vs) k w l.b 0 d := by
  obtain ⟨hcap, cs, elem, fz, h1, h2, h3, h4⟩ := h.wf.objs i0 _ l ho hl
  rw [List.length_map] at hcap
  have hroom : es.length * k ≤ cs.size := by rw [h2]; exact Nat.mul_le_mul_right k hcap
  have get : ∀ (i j : Nat) (hi : i < es.length) (hj : j < k), i * k + j < cs.size := fun i j hi hj => by
    have := Nat.mul_le_mul_right k (show i + 1 ≤ es.length by omega)
    rw [Nat.add_mul, Nat.one_mul] at this
    omega
  have rel : ∀ (i j : Nat) (hi : i < es.length) (c : AVal) (v : Value), (cells es[i])[j]? = some c → cs[i * k + j]? = some v → Rd C w c v := fun i j hi c v hc hv => by
    obtain ⟨v', hv', hr⟩ := h4 i j (cells es[i]) c (by rw [List.getElem?_map, List.getElem?_eq_getElem hi]; rfl) hc
    rw [hv] at hv'
    cases hv'
    exact hr.pure (hpu _ c (List.mem_of_getElem? hc))
  have vget : ∀ (i j : Nat), ((cs.extract (i * k) (i * k + k)).toList)[j]? = if j < min (i * k + k) cs.size - i * k then cs[i * k + j]? else none := fun i j => by
    rw [Array.getElem?_toList, Array.getElem?_extract]
  have mk : ∀ i : Fin es.length, ∃ e : El C w k cells, e.vs = (cs.extract (i.1 * k) (i.1 * k + k)).toList ∧ e.x = es[i.1] := fun ⟨i, hi⟩ => by
    have hik := get i (k - 1) hi (by omega)
    have hlen : (cs.extract (i * k) (i * k + k)).size = k := by rw [Array.size_extract]; omega
    refine ⟨⟨(cs.extract (i * k) (i * k + k)).toList, es[i], by rw [Array.length_toList]; exact hlen, ?_, fun j c v hc hv => ?_⟩, rfl, rfl⟩
    · refine rel_cellsPlain (C := C) (w := w) (τ := τ) (H := H) (cs := cells es[i]) (by rw [hk, hlen]) (fun j c v hc hv => ?_) (List.all_eq_true.2 fun c hc => AVal.isCell_of_isPure (hpu _ c hc))
      have := vget i j
      rw [Array.getElem?_toList, hv] at this
      split at this
      · exact .rd (rel i j hi c v hc this.symm)
      · cases this
    · have := vget i j
      rw [hv] at this
      split at this
      · exact rel i j hi c v hc this.symm
      · cases this
  refine ⟨Array.ofFn fun i => (mk i).choose, by simp, ?_, ?_⟩
  · refine List.ext_getElem? fun i => ?_
    by_cases hi : i < es.length
    · rw [List.getElem?_map, Array.getElem?_toList, Array.getElem?_ofFn, dif_pos hi, List.getElem?_eq_getElem hi]
      show some ((mk ⟨i, hi⟩).choose).x = _
      rw [(mk ⟨i, hi⟩).choose_spec.2]
    · rw [List.getElem?_eq_none (by simp; omega), List.getElem?_eq_none (by omega)]
  · intro _ t ht
    rw [size_flatK, Array.size_ofFn] at ht
    have hi : t / k < es.length := Nat.div_lt_of_lt_mul (by rwa [Nat.mul_comm] at ht)
    have hj : t % k < k := Nat.mod_lt _ hk0
    have htk : t / k * k + t % k = t := by rw [Nat.mul_comm]; exact Nat.div_add_mod t k
    have htc := get _ _ hi hj
    rw [htk] at htc
    rw [get_flatK _ _ _ t (by rw [Array.size_ofFn]; exact ht), getElem!_pos _ (t / k) (by rw [Array.size_ofFn]; exact hi), Array.getElem_ofFn]
    have hv := vget (t / k) (t % k)
    rw [if_pos (by have := get (t / k) (k - 1) hi (by omega); omega), htk, Array.getElem?_eq_getElem htc, ← (mk ⟨t / k, hi⟩).choose_spec.1] at hv
    have hb := (List.getElem?_eq_some_iff.1 hv).1
    have hv2 := (List.getElem?_eq_some_iff.1 hv).2
    rw [getElem!_pos _ (t % k) hb]
    refine ⟨?_, ?_⟩
    · simp only [World.cell?, h1, Nat.zero_add]
      simp [Array.getElem?_eq_getElem htc, ← hv2]
    · simp only [World.frozen?, h1, Nat.zero_add]
      simp only [Bool.and_eq_false_iff, decide_eq_false_iff_not]
      omega

def Sorted (cmp : β → β → Int) (es es' : List β) : Prop := es'.Perm es ∧ ∀ (i j : Nat) (x y : β), i < j → es'[i]? = some x → es'[j]? = some y → 0 ≤ cmp y x

theorem sort_spec {ρ : Go.Shelf.Ren} (L : Go.Proofs.SlLaysF0.n6 P ρ) {k : Nat} (hk0 : 0 < k) (aE : ∀ w, (isAgg (ρ.t 24)).run P w = .ok true w) (zE : ∀ w, (Go.sizeOf (ρ.t 24)).run P w = .ok k w)
    {cells : β → List AVal} (hk : ∀ x, (cells x).length = k) (hpu : ∀ x, ∀ c ∈ cells x, c.isPure = true) {cmp : β → β → Int} (hO : SWO (Go.Proofs.ltOf cmp)) {g : FuncId}
    (eg : ∀ args w, (callFunc g args).run P w = .ok (.enter g args) w)
    (hg : ∀ x y, ACalls P g [.agg (cells x), .agg (cells y)] [] (fun r _ => r = .int .i64 (cmp x y)))
    {es : List β} (hne : es ≠ []) (hlen : es.length ≤ 1000000) {H : List AObj} {i0 : Nat} (ho : H[i0]? = some (.arr k (es.map cells))) :
    ACalls P (ρ.f 6) [.sl i0 es.length 0 es.length, .fn g []] H (fun r H' => r = .tuple [] ∧ ∃ es', Sorted cmp es es' ∧ H' = H.set i0 (.arr k (es'.map cells))) := by
  intro C τ w vs hw hl hr
  obtain ⟨v0, v1, rfl⟩ : ∃ v0 v1, vs = #[v0, v1] := by
    obtain ⟨m⟩ := vs
    match m, hl with
    | [v0, v1], _ => exact ⟨v0, v1, rfl⟩
  have r0 := hr 0 _ v0 rfl rfl
  have r1 := hr 1 _ v1 rfl rfl
  have e1 : v1 = .func (.func g) #[] #[] := by
    cases r1 with
    | rd h => cases h; rfl
    | fn _ _ vs hl2 h =>
      have : vs = #[] := Array.eq_empty_of_size_eq_zero hl2.symm
      rw [this]
  subst e1
  have hpos : 0 < es.length := List.length_pos_iff.2 hne
  cases r0 with
  | rd h => cases h
  | sl _ _ _ _ a cap esz es0 ho' hep hcur =>
  rw [ho] at ho'
  cases ho'
  obtain ⟨_, hcap, hor⟩ := hcur (by simp)
  rcases hor with ⟨_, h0⟩ | ⟨l, hlt, hlc, ha⟩
  · omega
  have ha2 : a = some ⟨l.b, 0, none⟩ := by
    rcases ha with h0 | h0
    · omega
    · rw [h0, Nat.zero_mul]
  subst ha2
  have st := St.start hw
  obtain ⟨d, hd, hdx, hH⟩ := row_of hk hk0 hpu st ho hlt
  haveI : Inhabited (El C w k cells) := ⟨d[0]'(by omega)⟩
  have hid := (List.getElem?_eq_some_iff.1 ho).1
  have hcmp := cmpLays_of (P := P) (C := C) (w := w) hk eg hg (blk := l.b) (off := 0) (size := d.size) hw.lt (hw.comm i0 l hid hlt)
  have hO2 : SWO (Go.Proofs.ltOf fun a b : El C w k cells => cmp a.x b.x) := ⟨fun x => hO.irrefl x.x, fun x y z => hO.trans x.x y.x z.x, fun x y z => hO.ntrans x.x y.x z.x⟩
  have main := Go.Proofs.AnyQ.slices_SortFunc L k aE zE (fun e : El C w k cells => e.vs) (fun x => x.len) (fun x => x.one) (fun a b => cmp a.x b.x) hO2 g #[] l.b 0 cap d w eg hcmp hH (hw.locLt hid hlt) (by omega)
  rw [hd] at main
  unfold CallsX
  have en : ∀ args w, (callFunc (ρ.f 6) args).run P w = .ok (.enter (ρ.f 6) args) w := L.f6.enters rfl
  rw [en]
  refine Calls.mono main fun e w' => ?_
  rintro ⟨rfl, d', n, os, hp, hs, rfl⟩
  have hd's : d'.size = es.length := by have := hp.1; omega
  obtain ⟨st1, s1⟩ := st.putRow hk hk0 (fun x c hc => AVal.isCell_of_isPure (hpu x c hc)) ho hlt d' hd's
  obtain ⟨st2, s2⟩ := st1.same (w' := Go.Sort.ahead (putRowK (fun e : El C w k cells => e.vs) k w l.b 0 d') n) rfl rfl rfl rfl (Nat.le_add_right _ _)
  obtain ⟨st3, s3⟩ := st2.grow os.toList
  have ew : Go.Sort.grow (Go.Sort.ahead (putRowK (fun e : El C w k cells => e.vs) k w l.b 0 d') n) os.toList.toArray = Go.Proofs.sortWorldK (fun e : El C w k cells => e.vs) k w l.b 0 n d' os := by
    rw [Array.toArray_toList]; rfl
  rw [ew] at st3 s3
  refine ⟨.tuple #[], .tuple [], C, τ, _, rfl, ⟨rfl, d'.toList.map (fun e => e.x), ⟨?_, fun i j x y hij hx hy => ?_⟩, by rw [List.map_map]; rfl⟩, .tuple _ _ rfl fun i c v h => by simp at h, st3, (s1.trans s2).trans s3⟩
  · have h3 := hp.2.2
    have a1 : d'.extract 0 es.length = d' := by rw [← hd's]; simp
    have a2 : d.extract 0 es.length = d := by rw [← hd]; simp
    rw [a1, a2] at h3
    have := h3.map (fun e : El C w k cells => e.x)
    rwa [hdx] at this
  · rw [List.getElem?_map] at hx hy
    obtain ⟨ex, hx1, rfl⟩ := Option.map_eq_some_iff.1 hx
    obtain ⟨ey, hy1, rfl⟩ := Option.map_eq_some_iff.1 hy
    clear hx hy
    have hj := (List.getElem?_eq_some_iff.1 hy1).1
    rw [Array.length_toList, hd's] at hj
    have h4 := hs i j (Nat.zero_le _) hij hj
    have b1 : d'[i]! = ex := by
      rw [getElem!_pos d' i (by omega)]
      have := (List.getElem?_eq_some_iff.1 hx1).2
      simpa using this
    have b2 : d'[j]! = ey := by
      rw [getElem!_pos d' j (by omega)]
      have := (List.getElem?_eq_some_iff.1 hy1).2
      simpa using this
    rw [b1, b2] at h4
    unfold Go.Proofs.ltOf at h4
    simp at h4
    exact h4

end
end Go.AW

namespace Go.AW
open Go.Sort
attribute [local irreducible] ACalls
abbrev EntS := {e : Ent // e.row.length ≤ 1000}

def subL : (l : List Ent) → (∀ e ∈ l, e.row.length ≤ 1000) → List EntS
  | [], _ => []
  | e :: l, h => ⟨e, h e (List.mem_cons_self ..)⟩ :: subL l fun e he => h e (List.mem_cons_of_mem _ he)

theorem subL_map : ∀ (l : List Ent) (h : ∀ e ∈ l, e.row.length ≤ 1000), (subL l h).map (fun e => e.1) = l
  | [], _ => rfl
  | e :: l, h => by rw [subL, List.map_cons, subL_map l]

theorem swo_rows : SWO (Go.Proofs.ltOf fun a b : EntS => rowsCmp a.1.row b.1.row) where
  irrefl x := by simp [Go.Proofs.ltOf, (rowsCmp_zero x.1.row x.1.row).2 rfl]
  trans x y z h1 h2 := by
    simp [Go.Proofs.ltOf] at h1 h2 ⊢
    exact rowsCmp_trans _ _ _ h1 h2
  ntrans x y z h1 h2 := by
    simp [Go.Proofs.ltOf] at h1 h2 ⊢
    refine Int.not_lt.1 fun hn => ?_
    by_cases hz : rowsCmp y.1.row z.1.row = 0
    · rw [(rowsCmp_zero _ _).1 hz] at h1
      omega
    · have h3 : rowsCmp z.1.row y.1.row < 0 := by rw [rowsCmp_anti]; omega
      have := rowsCmp_trans _ _ _ hn h3
      omega

theorem sortE_of {P : Program} {ρ : Go.Shelf.Ren} (L : Go.Proofs.SlLaysF0.n6 P ρ) (aE : ∀ w, (isAgg (ρ.t 24)).run P w = .ok true w) (zE : ∀ w, (Go.sizeOf (ρ.t 24)).run P w = .ok 2 w) (F : F_bag_sum_1 P) :
    SortE P (ρ.f 6) F.id := by
  intro l hne hl hr H i0 ho
  have eg : ∀ args w, (callFunc F.id args).run P w = .ok (.enter F.id args) w := by
    obtain ⟨fn, c, h1, h2, h3, _⟩ := F.has
    exact Go.Proofs.enters_of h1 h2 h3
  have hm := subL_map l hr
  have hcells : (subL l hr).map (fun e => entC e.1) = eC l := by
    have := congrArg (List.map entC) hm
    rw [List.map_map] at this
    exact this
  have hlen : (subL l hr).length = l.length := by rw [← List.length_map (f := fun e : EntS => e.1), hm]
  have main := sort_spec (P := P) L (k := 2) (by decide) aE zE (cells := fun e : EntS => entC e.1) (fun _ => rfl) (fun x c hc => by
    simp [entC] at hc
    rcases hc with rfl | rfl
    · simp [AVal.isPure]
    · rfl) (cmp := fun a b => rowsCmp a.1.row b.1.row) swo_rows (g := F.id) eg (fun x y => (bag_sum_1_spec F x.1 y.1 (by have := x.2; omega) []).mono fun _ _ h => h.1)
    (es := subL l hr) (fun h => by rw [h] at hm; exact hne hm.symm) (by omega) (i0 := i0) (by rw [hcells]; exact ho)
  rw [hlen] at main
  refine main.mono ?_
  rintro r H' ⟨rfl, es', ⟨hp, hs⟩, rfl⟩
  refine ⟨rfl, es'.map (fun e => e.1), by have := hp.map (fun e : EntS => e.1); rwa [hm] at this, ?_, ?_⟩
  · refine List.pairwise_iff_getElem.2 fun i j hi hj hij => ?_
    rw [List.length_map] at hi hj
    have := hs i j es'[i] es'[j] hij (List.getElem?_eq_getElem hi) (List.getElem?_eq_getElem hj)
    replace this : 0 ≤ rowsCmp (es'[j]).1.row (es'[i]).1.row := this
    rw [rowsCmp_anti] at this
    simp only [List.getElem_map]
    omega
  · rw [eC, List.map_map]; rfl

end Go.AW

