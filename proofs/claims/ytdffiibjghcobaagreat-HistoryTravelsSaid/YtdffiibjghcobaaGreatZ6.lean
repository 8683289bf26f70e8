/-
  An abstract machine over the model, the code of functions on it, and their contracts: what the claim needs.
  No condition: definitions, plain laws, contracts over any program that has this code.
-/
import Derived.Test.YtdffiibjghcobaaGreatZ5
set_option linter.all false
namespace Go.AW
variable [Draws]
attribute [local irreducible] ACalls
def SortE (P : Program) (f g : FuncId) : Prop :=
 ∀ (l : List Ent), l ≠ [] → l.length ≤ 1000000 → (∀ e ∈ l, e.row.length ≤ 1000) → ∀ (H : List AObj) (i0 : Nat), H[i0]? = some (.arr 2 (eC l)) →
  ACalls P f [.sl i0 l.length 0 l.length, .fn g []] H (fun r H' => r = .tuple [] ∧ ∃ s : List Ent, s.Perm l ∧ Asc s ∧ H' = H.set i0 (.arr 2 (eC s)))
theorem bag_sum_1_spec {P : Program} (F : F_z06 P) (x y : Ent) (hx : x.row.length ≤ 1000000) (H : List AObj) :
  ACalls P F.id [.agg (entC x), .agg (entC y)] H (fun r H' => r = .int .i64 (rowsCmp x.row y.row) ∧ H' = H) := by
 refine ACalls.pure rfl (acalls_of_body F.has ?_)
 (conv => whnf); refine ACalls.use (value_CompareRows_spec F.z22 false false x.row y.row hx _) ?_
 conv => whnf
 exact .closed _ rfl
set_option maxRecDepth 20000 in
theorem put1_spec {P : Program} (F : F_z04 P) (o : AObj) (ex : Bool) (O : List Ent) (hO : O.length ≤ 100000) (row : List V) (hr : row.length ≤ 1000) (c : Int) :
  ACalls P F.id [.sl 1 O.length 0 O.length, .list ex 3 (vC row), .int .i64 c] [o, .arr 2 (eC O)]
   (fun r H' => (smallB c = false ∧ r = .tuple [.nil, .bool false] ∧ H' = [o, .arr 2 (eC O)]) ∨ (smallB c = true ∧ c = 0 ∧ r = .tuple [.sl 1 O.length 0 O.length, .bool true] ∧ H' = [o, .arr 2 (eC O)]) ∨
    (smallB c = true ∧ c ≠ 0 ∧ r = .tuple [.sl 1 (O.length + 1) 0 (O.length + 1), .bool true] ∧ H' = [o, .arr 2 (eC (O ++ [⟨row, c⟩]))])) := by
 refine acalls_of_body F.has ?_
 (conv => whnf); refine recA (fun h => ?_) (fun h => ?_)
 ·simp at h
  conv => whnf
  exact .inl ⟨by rw [smallB]; simp; omega, rfl, rfl⟩
 simp at h
 (conv => whnf); refine recA (fun h2 => ?_) (fun h2 => ?_)
 ·simp at h2
  conv => whnf
  exact .inl ⟨by rw [smallB]; simp; omega, rfl, rfl⟩
 simp at h2
 have hs : smallB c = true := by simp [smallB]; omega
 (conv => whnf); refine recA (fun hz => ?_) (fun hz => ?_)
 ·replace hz : (!(c == 0)) = true := hz
  simp at hz
  conv => whnf
  refine ACalls.use (CloneV_spec F.z1e ex row (by omega) _) ?_
  (conv => whnf); refine recT (by rw [eC_length]; exact Nat.beq_refl _) ?_
  (conv => whnf); refine And.intro (⟨roomMul (by simp; omega) (by omega), roomB_le (by simp; omega), rfl, by rw [eC_length]⟩) ?_
  conv => whnf
  have hl : (eC O ++ [[AVal.list false 3 (vC row), .int .i64 c]]).length = O.length + 1 := by rw [List.length_append, eC_length]; rfl
  refine .inr (.inr ⟨hs, hz, ?_, ?_⟩)
  ·exact congrArg (fun n => AVal.tuple [.sl 1 n 0 n, .bool true]) hl
  ·rw [eC_append]; rfl
 ·replace hz : (!(c == 0)) = false := hz
  simp at hz
  conv => whnf
  exact .inr (.inl ⟨hs, hz, rfl, rfl⟩)
set_option maxRecDepth 20000 in
theorem done1_spec {P : Program} (F : F_z02 P) (o : AObj) (O : List Ent) :
  ACalls P F.id [.sl 1 O.length 0 O.length] [o, .arr 2 (eC O)]
   (fun r H' => H' = [o, .arr 2 (eC O)] ∧ ((4096 < O.length ∧ r = .tuple [.nil, .int .i64 2]) ∨ (O.length ≤ 4096 ∧ r = .tuple [.sl 1 O.length 0 O.length, .int .i64 0]))) := by
 refine acalls_of_body F.has ?_
 (conv => whnf); refine recT (by rw [eC_length]; exact Nat.beq_refl _) ?_
 (conv => whnf); refine recA (fun h => ?_) (fun h => ?_)
 ·simp at h
  conv => whnf
  exact ⟨rfl, .inl ⟨by omega, rfl⟩⟩
 ·simp at h
  conv => whnf
  exact ⟨rfl, .inr ⟨by omega, rfl⟩⟩
theorem eC_at0 {l : List Ent} {k : Nat} {x : Ent} (h : l[k]? = some x) : (eC l)[0 + k]? = some (entC x) := by rw [Nat.zero_add]; exact eC_at h
theorem grpL_drop {S : List Ent} {i : Nat} {x : Ent} (h : S[i]? = some x) : grpL (S.drop i) = grpA x (S.drop (i + 1)) := by
 obtain ⟨hi, rfl⟩ := List.getElem?_eq_some_iff.1 h
 rw [List.drop_eq_getElem_cons hi]; rfl
theorem grpA_end {S : List Ent} {k : Nat} {c : Ent} (h : S.length ≤ k ∨ ∃ y, S[k]? = some y ∧ rowsCmp c.row y.row ≠ 0) : grpA c (S.drop k) = c :: grpL (S.drop k) := by
 rcases h with h | ⟨y, hy, hn⟩
 ·rw [List.drop_of_length_le h]; rfl
 ·obtain ⟨hk, rfl⟩ := List.getElem?_eq_some_iff.1 hy
  rw [List.drop_eq_getElem_cons hk, grpA, if_neg hn]; rfl
theorem grpA_step {S : List Ent} {k : Nat} {c y : Ent} (hy : S[k]? = some y) (h : rowsCmp c.row y.row = 0) : grpA c (S.drop k) = grpA ⟨c.row, c.cnt + y.cnt⟩ (S.drop (k + 1)) := by
 obtain ⟨hk, rfl⟩ := List.getElem?_eq_some_iff.1 hy
 rw [List.drop_eq_getElem_cons hk, grpA, if_pos h]
theorem cntL_perm {a b : List Ent} (h : a.Perm b) : ∀ r, cntL a r = cntL b r := by
 induction h with
 | nil => intro r; rfl
 | cons x _ ih => intro r; rw [cntL, cntL, ih]
 | swap x y l => intro r; rw [cntL, cntL, cntL, cntL]; split <;> split <;> omega
 | trans _ _ h1 h2 => intro r; rw [h1, h2]
theorem SortE.all {P : Program} {F : F_z1m P} {g : FuncId} (hS : SortE P F.id g) (l : List Ent) (hl : l.length ≤ 1000000) (hr : ∀ e ∈ l, e.row.length ≤ 1000) (H : List AObj) (i0 : Nat) (ho : H[i0]? = some (.arr 2 (eC l))) :
  ACalls P F.id [.sl i0 l.length 0 l.length, .fn g []] H (fun r H' => r = .tuple [] ∧ ∃ s : List Ent, s.Perm l ∧ Asc s ∧ H' = H.set i0 (.arr 2 (eC s))) := by
 cases l with
 | nil =>
  refine (sort0_spec F i0 g H ho).mono ?_
  rintro r H' ⟨rfl, rfl⟩
  refine ⟨rfl, [], List.Perm.refl _, List.Pairwise.nil, ?_⟩
  obtain ⟨h, e⟩ := List.getElem?_eq_some_iff.1 ho
  rw [← e, List.set_getElem_self]
 | cons x l => exact hS (x :: l) (by simp) hl hr H i0 ho
def sumI (S : List Ent) (n : Nat) (m : Nat) (ρ : List AVal) (H : List AObj) : Prop :=
 (∃ (i : Nat) (pre : List Ent), i + m = n ∧ grpL S = pre ++ grpL (S.drop i) ∧ (pre.all fun e => smallB e.cnt) = true ∧ pre.length ≤ i ∧ H = [.arr 2 (eC S), .arr 2 (eC (pre.filter nzB))] ∧
  Sv 66 [(0, .sl 0 n 0 n), (4, .sl 1 (pre.filter nzB).length 0 (pre.filter nzB).length), (5, .bool true), (6, .int .i64 i)] ρ) ∨
 (∃ i : Nat, ((grpL S).all fun e => smallB e.cnt) = false ∧ i ≤ n ∧ H = [.arr 2 (eC S)] ∧ Sv 66 [(0, .sl 0 n 0 n), (4, .nil), (5, .bool false), (6, .int .i64 i)] ρ)
set_option maxHeartbeats 2000000 in
set_option maxRecDepth 20000 in
theorem bag_sum_spec {P : Program} (F : F_z05 P) (hS : SortE P F.z1m.id F.z06.id) (ex : Bool) (l : List Ent) (hl : l.length ≤ 100000) (hE : ∀ e ∈ l, EntOk e) (H : List AObj) :
  ACalls P F.id [.list ex 2 (eC l)] H (fun r H' => r = resR (srtM l.length l) ∧ H' = H) := by
 have hN : ∀ S : List Ent, S.Perm l → Asc S → resR (srtM l.length l) = resR (grpL S) ∧ (∀ e ∈ S, EntOk e) ∧ S.length = l.length := fun S hp hs =>
  ⟨resR_ext (srt_srtM _ _ (by omega)) (by cases S with | nil => exact List.Pairwise.nil | cons x S => exact srt_grpA S x hs) fun r => by rw [cntL_srtM, cntL_grpL, cntL_perm hp], fun e h => hE e (hp.mem_iff.1 h), hp.length_eq⟩
 refine ACalls.pure (by simp [AVal.closed, AVal.isPure]) (acalls_of_body F.has ?_)
 (conv => whnf); refine ACalls.mono (CloneE_raw F.z1d ex l (by omega)) ?_
 rintro r H1 (⟨rfl, h0, rfl⟩ | ⟨rfl, rfl⟩)
 ·subst h0
  (conv => whnf); refine ACalls.use (sort0n_spec F.z1m _ _) ?_
  conv => whnf
  refine ⟨fun m ρ H1 => H1 = [.arr 2 []] ∧ Sv 66 [(0, .nil), (4, .sl 0 0 0 0), (5, .bool true), (6, .int .i64 0)] ρ, 0, [(4, 2)], ?_, ?_⟩
  ·exact ⟨rfl, Sv.intro rfl ⟨rfl, rfl, rfl, rfl, trivial⟩⟩
  rintro m ρ H1 ⟨rfl, d, rfl⟩
  conv => whnf
  refine (done_spec F.z02 []).mono ?_
  rintro r H1 ⟨rfl, ⟨h, rfl⟩ | ⟨h, rfl⟩⟩
  ·cases h
  ·conv => whnf
   exact pub2 (pubF rfl rfl rfl rfl) (.closed _ rfl)
 ·(conv => whnf); refine ACalls.mono (hS.all l (by omega) (fun e h => by have := (hE e h).1; omega) _ 0 rfl) ?_
  rintro r H1 ⟨rfl, S, hp, hs, rfl⟩
  obtain ⟨hR, hA, hSl⟩ := hN S hp hs
  replace hA : ∀ e ∈ S, EntOk e := hA
  clear hN hE
  have hl2 : S.length ≤ 100000 := by omega
  rw [hR, ← hSl]
  clear hR hSl hl
  conv => whnf
  refine ⟨sumI S S.length, S.length, [(4, 2)], ?_, ?_⟩
  ·exact .inl ⟨0, [], by omega, rfl, rfl, Nat.le_refl _, rfl, Sv.intro rfl ⟨rfl, rfl, rfl, rfl, trivial⟩⟩
  rintro m ρ H1 (⟨i, pre, hm, hG, hP, hpl, rfl, d, rfl⟩ | ⟨i, hbad, hi, rfl, d, rfl⟩)
  ·have hO : (pre.filter nzB).length ≤ pre.length := List.length_filter_le _ _
   (conv => whnf); refine recT (by rw [eC_length]; exact Nat.beq_refl _) ?_
   (conv => whnf); refine recA (fun hlt => ?_) (fun hlt => ?_)
   ·simp at hlt
    obtain ⟨x, hx⟩ : ∃ x, S[i]? = some x := ⟨S[i], List.getElem?_eq_getElem hlt⟩
    obtain ⟨hx1, hx2, hx3⟩ := hA x (List.mem_of_getElem? hx)
    conv => whnf
    refine ⟨fun m1 ρ1 H2 => ∃ (k : Nat) (acc : Int), k + m1 = S.length ∧ ((k = i ∧ acc = 0) ∨ (i < k ∧ grpL (S.drop i) = grpA ⟨x.row, acc⟩ (S.drop k))) ∧ -(65536 * ((k : Int) - i)) ≤ acc ∧ acc ≤ 65536 * ((k : Int) - i) ∧
     H2 = [.arr 2 (eC S), .arr 2 (eC (pre.filter nzB))] ∧ Sv 66 [(0, .sl 0 S.length 0 S.length), (4, .sl 1 (pre.filter nzB).length 0 (pre.filter nzB).length), (6, .int .i64 i), (7, .int .i64 acc), (8, .int .i64 k)] ρ1, S.length - i, [], ?_, ?_⟩
    ·exact ⟨i, 0, by omega, .inl ⟨rfl, rfl⟩, by omega, by omega, rfl, Sv.intro rfl ⟨rfl, rfl, rfl, rfl, rfl, trivial⟩⟩
    rintro m1 ρ1 H2 ⟨k, acc, hk, hc, hb1, hb2, rfl, d1, rfl⟩
    (conv => whnf); refine recT (by rw [eC_length]; exact Nat.beq_refl _) ?_
    (conv => whnf); refine recA (fun hkl => ?_) (fun hkl => ?_)
    ·simp at hkl
     obtain ⟨y, hy⟩ : ∃ y, S[k]? = some y := ⟨S[k], List.getElem?_eq_getElem hkl⟩
     obtain ⟨hy1, hy2, hy3⟩ := hA y (List.mem_of_getElem? hy)
     (conv => whnf); refine recT (by rw [eC_length]; exact Nat.beq_refl _) ?_
     (conv => whnf); refine And.intro (by omega) ?_
     (conv => whnf); refine recT (by rw [eC_length]; exact Nat.beq_refl _) ?_
     (conv => whnf); refine recO (eC_at0 hx) ?_
     (conv => whnf); refine recT (by rw [eC_length]; exact Nat.beq_refl _) ?_
     (conv => whnf); refine And.intro (by omega) ?_
     (conv => whnf); refine recT (by rw [eC_length]; exact Nat.beq_refl _) ?_
     (conv => whnf); refine recO (eC_at0 hy) ?_
     (conv => whnf); refine ⟨_, value_CompareRows_spec F.z22 false false x.row y.row (by omega) _, ?_⟩
     (conv => whnf); refine recA (fun hc2 => ?_) (fun hc2 => ?_)
     ·replace hc2 : (rowsCmp x.row y.row == 0) = true := hc2
      have hc3 : rowsCmp x.row y.row = 0 := by simpa using hc2
      (conv => whnf); refine recT (by rw [eC_length]; exact Nat.beq_refl _) ?_
      (conv => whnf); refine And.intro (by omega) ?_
      (conv => whnf); refine recT (by rw [eC_length]; exact Nat.beq_refl _) ?_
      (conv => whnf); refine recO (eC_at0 hy) ?_
      conv => whnf
      have ew := wrapI (acc + y.cnt) (by omega) (by omega)
      refine ⟨m1 - 1, by omega, Gp.two 0 1 (by decide) 2 2 (eC S) (eC (pre.filter nzB)) rfl rfl (pureEs_eC _) (pureEs_eC _) rfl ?_ fun ρ2 h => ⟨k + 1, acc + y.cnt, by omega, .inr ⟨by omega, ?_⟩, by omega, by omega, rfl, h⟩⟩
      ·exact ⟨pubSl (k := 0) rfl rfl rfl rfl, pubSl (k := 1) rfl rfl rfl rfl, .closed _ rfl, pub_int ew, pub_int (wrapI _ (by omega) (by omega)), trivial⟩
      ·rcases hc with ⟨h1, h2⟩ | ⟨h1, h2⟩
       ·subst h1 h2
        rw [hx] at hy
        cases hy
        rw [grpL_drop hx, Int.zero_add]
       ·exact h2.trans (grpA_step (c := ⟨x.row, acc⟩) hy hc3)
     ·replace hc2 : (rowsCmp x.row y.row == 0) = false := hc2
      have hc3 : rowsCmp x.row y.row ≠ 0 := by simpa using hc2
      have hik : i < k ∧ grpL (S.drop i) = grpA ⟨x.row, acc⟩ (S.drop k) := by
       rcases hc with ⟨h1, h2⟩ | h
       ·subst h1
        rw [hx] at hy
        cases hy
        exact absurd ((rowsCmp_zero _ _).2 rfl) hc3
       ·exact h
      have hend := hik.2.trans (grpA_end (.inr ⟨y, hy, hc3⟩))
      conv => whnf
      have hN : grpL S = (pre ++ [⟨x.row, acc⟩]) ++ grpL (S.drop k) := by rw [hG, hend, List.append_assoc]; rfl
      (conv => whnf); refine recT (by rw [eC_length]; exact Nat.beq_refl _) ?_
      (conv => whnf); refine And.intro (by omega) ?_
      (conv => whnf); refine recT (by rw [eC_length]; exact Nat.beq_refl _) ?_
      (conv => whnf); refine recO (eC_at0 hx) ?_
      (conv => whnf); refine ACalls.mono (put1_spec F.z04 (.arr 2 (eC S)) false (pre.filter nzB) (by omega) x.row (by omega) acc) ?_
      rintro r H1 (⟨hsm, rfl, rfl⟩ | ⟨hsm, hz0, rfl, rfl⟩ | ⟨hsm, hz0, rfl, rfl⟩)
      ·conv => whnf
       refine ⟨m - 1, by omega, Gp.one 0 2 (eC S) rfl (pureEs_eC _) rfl ?_ fun ρ2 h => .inr ⟨k, by rw [hN]; simp [hsm], by omega, rfl, h⟩⟩
       exact ⟨pubSl (k := 0) rfl rfl rfl rfl, .closed _ rfl, .closed _ rfl, .closed _ rfl, trivial⟩
      ·have hPN : ((pre ++ [(⟨x.row, acc⟩ : Ent)]).all fun e => smallB e.cnt) = true := by rw [List.all_append, hP]; simp [hsm]
       have hF : (pre ++ [(⟨x.row, acc⟩ : Ent)]).filter nzB = pre.filter nzB := by rw [List.filter_append]; simp [nzB, hz0]
       conv => whnf
       refine ⟨S.length - k, by omega, Gp.two 0 1 (by decide) 2 2 (eC S) (eC ((pre ++ [(⟨x.row, acc⟩ : Ent)]).filter nzB)) rfl (by rw [hF]; rfl) (pureEs_eC _) (pureEs_eC _) rfl ?_ fun ρ2 h => .inl ⟨k, pre ++ [⟨x.row, acc⟩], by omega, hN, hPN, by simp; omega, rfl, h⟩⟩
       exact ⟨pubSl (k := 0) rfl rfl rfl rfl, by rw [hF]; exact pubSl (k := 1) rfl rfl rfl rfl, .closed _ rfl, .closed _ rfl, trivial⟩
      ·have hPN : ((pre ++ [(⟨x.row, acc⟩ : Ent)]).all fun e => smallB e.cnt) = true := by rw [List.all_append, hP]; simp [hsm]
       have hF : (pre ++ [(⟨x.row, acc⟩ : Ent)]).filter nzB = pre.filter nzB ++ [⟨x.row, acc⟩] := by rw [List.filter_append]; simp [nzB, hz0]
       have hFl : ((pre ++ [(⟨x.row, acc⟩ : Ent)]).filter nzB).length = (pre.filter nzB).length + 1 := by rw [hF, List.length_append]; rfl
       conv => whnf
       refine ⟨S.length - k, by omega, Gp.two 0 1 (by decide) 2 2 (eC S) (eC ((pre ++ [(⟨x.row, acc⟩ : Ent)]).filter nzB)) rfl (by rw [hF]; rfl) (pureEs_eC _) (pureEs_eC _) rfl ?_ fun ρ2 h => .inl ⟨k, pre ++ [⟨x.row, acc⟩], by omega, hN, hPN, by simp; omega, rfl, h⟩⟩
       exact ⟨pubSl (k := 0) rfl rfl rfl rfl, pubSl (k := 1) rfl rfl hFl.symm hFl.symm, .closed _ rfl, .closed _ rfl, trivial⟩
    ·simp at hkl
     have hik : i < k ∧ grpL (S.drop i) = grpA ⟨x.row, acc⟩ (S.drop k) := by
      rcases hc with ⟨h1, h2⟩ | h
      ·omega
      ·exact h
     have hend := hik.2.trans (grpA_end (.inl hkl))
     conv => whnf
     have hN : grpL S = (pre ++ [⟨x.row, acc⟩]) ++ grpL (S.drop k) := by rw [hG, hend, List.append_assoc]; rfl
     (conv => whnf); refine recT (by rw [eC_length]; exact Nat.beq_refl _) ?_
     (conv => whnf); refine And.intro (by omega) ?_
     (conv => whnf); refine recT (by rw [eC_length]; exact Nat.beq_refl _) ?_
     (conv => whnf); refine recO (eC_at0 hx) ?_
     (conv => whnf); refine ACalls.mono (put1_spec F.z04 (.arr 2 (eC S)) false (pre.filter nzB) (by omega) x.row (by omega) acc) ?_
     rintro r H1 (⟨hsm, rfl, rfl⟩ | ⟨hsm, hz0, rfl, rfl⟩ | ⟨hsm, hz0, rfl, rfl⟩)
     ·conv => whnf
      refine ⟨m - 1, by omega, Gp.one 0 2 (eC S) rfl (pureEs_eC _) rfl ?_ fun ρ2 h => .inr ⟨k, by rw [hN]; simp [hsm], by omega, rfl, h⟩⟩
      exact ⟨pubSl (k := 0) rfl rfl rfl rfl, .closed _ rfl, .closed _ rfl, .closed _ rfl, trivial⟩
     ·have hPN : ((pre ++ [(⟨x.row, acc⟩ : Ent)]).all fun e => smallB e.cnt) = true := by rw [List.all_append, hP]; simp [hsm]
      have hF : (pre ++ [(⟨x.row, acc⟩ : Ent)]).filter nzB = pre.filter nzB := by rw [List.filter_append]; simp [nzB, hz0]
      conv => whnf
      refine ⟨S.length - k, by omega, Gp.two 0 1 (by decide) 2 2 (eC S) (eC ((pre ++ [(⟨x.row, acc⟩ : Ent)]).filter nzB)) rfl (by rw [hF]; rfl) (pureEs_eC _) (pureEs_eC _) rfl ?_ fun ρ2 h => .inl ⟨k, pre ++ [⟨x.row, acc⟩], by omega, hN, hPN, by simp; omega, rfl, h⟩⟩
      exact ⟨pubSl (k := 0) rfl rfl rfl rfl, by rw [hF]; exact pubSl (k := 1) rfl rfl rfl rfl, .closed _ rfl, .closed _ rfl, trivial⟩
     ·have hPN : ((pre ++ [(⟨x.row, acc⟩ : Ent)]).all fun e => smallB e.cnt) = true := by rw [List.all_append, hP]; simp [hsm]
      have hF : (pre ++ [(⟨x.row, acc⟩ : Ent)]).filter nzB = pre.filter nzB ++ [⟨x.row, acc⟩] := by rw [List.filter_append]; simp [nzB, hz0]
      have hFl : ((pre ++ [(⟨x.row, acc⟩ : Ent)]).filter nzB).length = (pre.filter nzB).length + 1 := by rw [hF, List.length_append]; rfl
      conv => whnf
      refine ⟨S.length - k, by omega, Gp.two 0 1 (by decide) 2 2 (eC S) (eC ((pre ++ [(⟨x.row, acc⟩ : Ent)]).filter nzB)) rfl (by rw [hF]; rfl) (pureEs_eC _) (pureEs_eC _) rfl ?_ fun ρ2 h => .inl ⟨k, pre ++ [⟨x.row, acc⟩], by omega, hN, hPN, by simp; omega, rfl, h⟩⟩
      exact ⟨pubSl (k := 0) rfl rfl rfl rfl, pubSl (k := 1) rfl rfl hFl.symm hFl.symm, .closed _ rfl, .closed _ rfl, trivial⟩
   ·simp at hlt
    have hi : S.drop i = [] := List.drop_of_length_le hlt
    rw [hi] at hG
    have hGG : grpL S = pre := by rw [hG]; simp [grpL]
    conv => whnf
    refine (done1_spec F.z02 _ (pre.filter nzB)).mono ?_
    rintro r H1 ⟨rfl, ⟨h, rfl⟩ | ⟨h, rfl⟩⟩
    ·conv => whnf
     rw [hGG, resR, if_neg (by omega)]
     exact pub2 (.closed _ rfl) (.closed _ rfl)
    ·conv => whnf
     rw [hGG, resR, if_pos ⟨hP, h⟩]
     exact pub2 (pubF rfl (eC_length _).symm (eC_length _).symm (pureEs_eC _)) (.closed _ rfl)
  ·(conv => whnf); refine recT (by rw [eC_length]; exact Nat.beq_refl _) ?_
   (conv => whnf); refine recA (fun hlt => ?_) (fun hlt => ?_)
   all_goals
    conv => whnf
    rw [resR_bad _ hbad]
    exact pub2 (.closed _ rfl) (.closed _ rfl)
theorem mrg_bnd {A B : Int} (hA0 : 0 ≤ A) (hB0 : 0 ≤ B) : ∀ (a b : List Ent), (∀ e ∈ a, EntB A e) → (∀ e ∈ b, EntB B e) → ∀ e ∈ mrg a b, EntB (A + B) e
 | [], b, ha, hb, e, he => by
  rw [mrg_nil] at he
  obtain ⟨h1, h2, h3⟩ := hb e he
  exact ⟨h1, by omega, by omega⟩
 | x :: a, [], ha, hb, e, he => by
  rw [mrg_nil2] at he
  obtain ⟨h1, h2, h3⟩ := ha e he
  exact ⟨h1, by omega, by omega⟩
 | x :: a, y :: b, ha, hb, e, he => by
  obtain ⟨h1, h2, h3⟩ := ha x (List.mem_cons_self ..)
  obtain ⟨k1, k2, k3⟩ := hb y (List.mem_cons_self ..)
  have ha' : ∀ e ∈ a, EntB A e := fun e h => ha e (List.mem_cons_of_mem _ h)
  have hb' : ∀ e ∈ b, EntB B e := fun e h => hb e (List.mem_cons_of_mem _ h)
  rw [mrg_cons] at he
  split at he
  ·rcases List.mem_cons.1 he with rfl | he
   ·exact ⟨h1, by omega, by omega⟩
   ·exact mrg_bnd hA0 hB0 a (y :: b) ha' hb e he
  split at he
  ·rcases List.mem_cons.1 he with rfl | he
   ·exact ⟨k1, by omega, by omega⟩
   ·exact mrg_bnd hA0 hB0 (x :: a) b ha hb' e he
  ·rcases List.mem_cons.1 he with rfl | he
   ·exact ⟨h1, by simp only []; omega, by simp only []; omega⟩
   ·exact mrg_bnd hA0 hB0 a b ha' hb' e he
termination_by a b => a.length + b.length
theorem entB_mono {A B : Int} (h : A ≤ B) {e : Ent} (he : EntB A e) : EntB B e := ⟨he.1, by have := he.2.1; omega, by have := he.2.2; omega⟩
theorem srtM_bnd : ∀ (n : Nat) (l : List Ent), (∀ e ∈ l, EntOk e) → ∀ e ∈ srtM n l, EntB (65536 * (l.length : Int)) e
 | 0, l, h, e, he => by
  rw [srtM] at he
  have := List.length_pos_of_mem he
  exact entB_mono (A := 65536) (by omega) (h e he)
 | n + 1, l, h, e, he => by
  rw [srtM] at he
  split at he
  ·have := List.length_pos_of_mem he
   exact entB_mono (A := 65536) (by omega) (h e he)
  ·refine entB_mono ?_ (mrg_bnd (by omega) (by omega) _ _ (srtM_bnd n _ fun e h1 => h e (List.mem_of_mem_take h1)) (srtM_bnd n _ fun e h1 => h e (List.mem_of_mem_drop h1)) e he)
   rw [List.length_take, List.length_drop]; omega
theorem srtM_length : ∀ (n : Nat) (l : List Ent), (srtM n l).length ≤ l.length
 | 0, l => Nat.le_refl _
 | n + 1, l => by
  rw [srtM]
  split
  ·exact Nat.le_refl _
  ·have h := mrg_length (srtM n (l.take (l.length / 2))) (srtM n (l.drop (l.length / 2)))
   have h1 := srtM_length n (l.take (l.length / 2))
   have h2 := srtM_length n (l.drop (l.length / 2))
   rw [List.length_take] at h1
   rw [List.length_drop] at h2
   omega
set_option maxRecDepth 20000 in
theorem ref6_sorted_spec {P : Program} (F : F_z3p P) : ∀ (n : Nat) (ex : Bool) (l : List Ent), l.length ≤ n → l.length ≤ 100000 → (∀ e ∈ l, EntOk e) → ∀ (H : List AObj),
  ACalls P F.id [.list ex 2 (eC l)] H (fun r H' => r = .list false 2 (eC (srtM n l)) ∧ H' = H) := by
 intro n
 induction n with
 | zero =>
  intro ex l hl _ hE H
  have : l = [] := List.length_eq_zero_iff.1 (by omega)
  subst this
  refine ACalls.pure rfl (acalls_of_body F.has ?_)
  (conv => whnf); refine And.intro (by decide) ?_
  conv => whnf
  exact pubF rfl rfl rfl rfl
 | succ n ih =>
  intro ex l hl hl2 hE H
  refine ACalls.pure (by simp [AVal.closed, AVal.isPure]) (acalls_of_body F.has ?_)
  (conv => whnf); refine recA (fun h => ?_) (fun h => ?_)
  ·simp [eC_length] at h
   (conv => whnf); refine And.intro (⟨roomMul (by simp [eC_length]; omega) (by omega), roomB_le (by simp [eC_length]; omega)⟩) ?_
   conv => whnf
   rw [srtM, if_pos (by omega)]
   exact pubF rfl rfl rfl (pureEs_eC _)
  ·simp [eC_length] at h
   have ew : IntKind.i64.wrap (((eC l).length : Int).tdiv 2) = ((l.length / 2 : Nat) : Int) := by
    rw [eC_length, Int.tdiv_eq_ediv_of_nonneg (by omega), wrapI _ (by omega) (by omega)]; omega
   have es1 : List.drop 0 (List.take (IntKind.i64.wrap (((eC l).length : Int).tdiv 2)).toNat (eC l)) = eC (l.take (l.length / 2)) := by rw [ew, Int.toNat_natCast, List.drop_zero, eC, eC, List.map_take]
   have es2 : List.drop (IntKind.i64.wrap (((eC l).length : Int).tdiv 2)).toNat (List.take (eC l).length (eC l)) = eC (l.drop (l.length / 2)) := by rw [ew, Int.toNat_natCast, List.take_length, eC, eC, List.map_drop]
   (conv => whnf); refine And.intro (by decide) ?_
   (conv => whnf); refine And.intro (⟨by rw [ew]; omega, by rw [ew, eC_length]; omega⟩) ?_
   conv => whnf
   rw [es1]
   (conv => whnf); refine ⟨_, ih _ (l.take (l.length / 2)) (by rw [List.length_take]; omega) (by rw [List.length_take]; omega) (fun e h => hE e (List.mem_of_mem_take h)) _, ?_⟩
   (conv => whnf); refine And.intro (by decide) ?_
   (conv => whnf); refine And.intro (⟨by rw [ew]; omega, by rw [ew, eC_length]; omega⟩) ?_
   conv => whnf
   rw [es2]
   (conv => whnf); refine ⟨_, ih _ (l.drop (l.length / 2)) (by rw [List.length_drop]; omega) (by rw [List.length_drop]; omega) (fun e h => hE e (List.mem_of_mem_drop h)) _, ?_⟩
   have b1 := srtM_bnd n (l.take (l.length / 2)) fun e h => hE e (List.mem_of_mem_take h)
   have b2 := srtM_bnd n (l.drop (l.length / 2)) fun e h => hE e (List.mem_of_mem_drop h)
   have c1 := srtM_length n (l.take (l.length / 2))
   have c2 := srtM_length n (l.drop (l.length / 2))
   rw [List.length_take] at b1 c1
   rw [List.length_drop] at b2 c2
   (conv => whnf); refine ⟨_, ref6_mergeB_spec F.z3m (B := 65536 * 100000) (by decide) false false _ _ (by omega) (by omega) (fun e h => entB_mono (by omega) (b1 e h)) (fun e h => entB_mono (by omega) (b2 e h)) _, ?_⟩
   conv => whnf
   rw [srtM, if_neg (by omega)]
   exact .closed _ (by simp [AVal.closed, AVal.isPure])
set_option maxRecDepth 20000 in
theorem ref6_Sum_spec {P : Program} (F : F_z3k P) (ex : Bool) (l : List Ent) (hl : l.length ≤ 100000) (hE : ∀ e ∈ l, EntOk e) (H : List AObj) :
  ACalls P F.id [.list ex 2 (eC l)] H (fun r H' => r = resR (srtM l.length l) ∧ H' = H) := by
 refine ACalls.pure (by simp [AVal.closed, AVal.isPure]) (acalls_of_body F.has ?_)
 (conv => whnf); refine ACalls.use (ref6_sorted_spec F.z3p l.length ex l (Nat.le_refl _) hl hE _) ?_
 have hb := srtM_bnd l.length l hE
 have hc := srtM_length l.length l
 (conv => whnf); refine ACalls.use (ref6_result_spec F.z3n false (srtM l.length l) (by omega) (fun e h => by have := (hb e h).1; omega) _) ?_
 rcases resR_cases (srtM l.length l) with h | h
 all_goals
  rw [h]
  conv => whnf
  exact pub2 (.closed _ rfl) (.closed _ rfl)
def frmE : List Ent → Int
 | [] => 0
 | e :: l => if fitB e ≠ 0 then fitB e else frmE l
def norR (l : List Ent) : AVal := if frmE l ≠ 0 then .tuple [.nil, .int .i64 (frmE l)] else resR (srtM l.length l)
theorem frmE_ok : ∀ (l : List Ent), frmE l = 0 → ∀ e ∈ l, fitB e = 0
 | [], _, e, he => by cases he
 | x :: l, h, e, he => by
  rw [frmE] at h
  by_cases hx : fitB x = 0
  ·rw [if_neg (by simp [hx])] at h
   rcases List.mem_cons.1 he with rfl | he
   ·exact hx
   ·exact frmE_ok l h e he
  ·rw [if_pos hx] at h; exact absurd h hx
theorem fit_ok {e : Ent} (h : fitB e = 0) : EntOk e := by
 obtain ⟨h1, h2, h3, _⟩ := fitB_zero e h
 exact ⟨h1, h2, h3⟩
set_option maxRecDepth 20000 in
theorem ref6_Normalize_spec {P : Program} (F : F_z3j P) (ex : Bool) (l : List Ent) (hl : l.length ≤ 100000) (H : List AObj) :
  ACalls P F.id [.list ex 2 (eC l)] H (fun r H' => r = norR l ∧ H' = H) := by
 refine ACalls.pure (by simp [AVal.closed, AVal.isPure]) (acalls_of_body F.has ?_)
 conv => whnf
 refine ⟨fun m ρ H1 => ∃ k : Nat, k + m = l.length ∧ frmE l = frmE (l.drop k) ∧ H1 = [] ∧ Sv 24 [(0, .list ex 2 (eC l)), (4, .int .i64 k)] ρ, l.length, [], ?_, ?_⟩
 ·exact ⟨0, by omega, rfl, rfl, Sv.intro rfl ⟨rfl, rfl, trivial⟩⟩
 rintro m ρ H1 ⟨k, hk, hr, rfl, d, rfl⟩
 (conv => whnf); refine recA (fun hlt => ?_) (fun hlt => ?_)
 ·simp [eC_length] at hlt
  have hx : l[k]? = some l[k] := List.getElem?_eq_getElem hlt
  rw [List.drop_eq_getElem_cons hlt, frmE] at hr
  (conv => whnf); refine And.intro (by omega) ?_
  (conv => whnf); refine recO (eC_at hx) ?_
  (conv => whnf); refine ACalls.use (fits_spec F.z3l l[k] _) ?_
  (conv => whnf); refine recA (fun h1 => ?_) (fun h1 => ?_)
  ·replace h1 : (!(fitB l[k] == 0)) = true := h1
   have h2 : fitB l[k] ≠ 0 := by simpa using h1
   rw [if_pos h2] at hr
   conv => whnf
   rw [norR, hr, if_pos h2]
   exact pub2 (.closed _ rfl) (.closed _ rfl)
  ·replace h1 : (!(fitB l[k] == 0)) = false := h1
   have h2 : fitB l[k] = 0 := by simpa using h1
   rw [if_neg (by simp [h2])] at hr
   conv => whnf
   refine ⟨m - 1, by omega, Gp.keep rfl ?_ fun ρ1 h => ⟨k + 1, by omega, hr, rfl, h⟩⟩
   exact ⟨rfl, intEq (wrapI _ (by omega) (by omega)), trivial⟩
 ·simp [eC_length] at hlt
  rw [List.drop_of_length_le (by omega), frmE] at hr
  (conv => whnf); refine ACalls.use (ref6_Sum_spec F.z3k ex l hl (fun e h => fit_ok (frmE_ok l hr e h)) _) ?_
  rw [norR, if_neg (by simp [hr])]
  rcases resR_cases (srtM l.length l) with h | h
  all_goals
   rw [h]
   conv => whnf
   exact pub2 (.closed _ rfl) (.closed _ rfl)
set_option maxRecDepth 20000 in
theorem bag_Normalize_spec {P : Program} (F : F_z00 P) (hS : SortE P F.z05.z1m.id F.z05.z06.id) (ex : Bool) (l : List Ent) (hl : l.length ≤ 100000) (H : List AObj) :
  ACalls P F.id [.list ex 2 (eC l)] H (fun r H' => r = norR l ∧ H' = H) := by
 refine ACalls.pure (by simp [AVal.closed, AVal.isPure]) (acalls_of_body F.has ?_)
 conv => whnf
 refine ⟨fun m ρ H1 => ∃ k : Nat, k + m = l.length ∧ frmE l = frmE (l.drop k) ∧ H1 = [] ∧ Sv 23 [(0, .list ex 2 (eC l)), (7, .list ex 2 (eC l)), (8, .int .i64 l.length), (9, .int .i64 k)] ρ, l.length, [], ?_, ?_⟩
 ·exact ⟨0, by omega, rfl, rfl, Sv.intro rfl ⟨rfl, rfl, intEq (by rw [eC_length]), rfl, trivial⟩⟩
 rintro m ρ H1 ⟨k, hk, hr, rfl, d, rfl⟩
 (conv => whnf); refine recA (fun hlt => ?_) (fun hlt => ?_)
 ·simp at hlt
  have hx : l[k]? = some l[k] := List.getElem?_eq_getElem hlt
  rw [List.drop_eq_getElem_cons hlt, frmE] at hr
  (conv => whnf); refine And.intro (by omega) ?_
  (conv => whnf); refine recO (eC_at hx) ?_
  (conv => whnf); refine ACalls.use (formed_spec F.z03 l[k] _) ?_
  (conv => whnf); refine recA (fun h1 => ?_) (fun h1 => ?_)
  ·replace h1 : (!(fitB l[k] == 0)) = true := h1
   have h2 : fitB l[k] ≠ 0 := by simpa using h1
   rw [if_pos h2] at hr
   conv => whnf
   rw [norR, hr, if_pos h2]
   exact pub2 (.closed _ rfl) (.closed _ rfl)
  ·replace h1 : (!(fitB l[k] == 0)) = false := h1
   have h2 : fitB l[k] = 0 := by simpa using h1
   rw [if_neg (by simp [h2])] at hr
   conv => whnf
   refine ⟨m - 1, by omega, Gp.none rfl ?_ fun ρ1 h => ⟨k + 1, by omega, hr, rfl, h⟩⟩
   exact ⟨.closed (.list ex 2 (eC l)) rfl, .closed (.list ex 2 (eC l)) rfl, .closed _ rfl, pub_int (wrapI _ (by omega) (by omega)), trivial⟩
 ·simp at hlt
  rw [List.drop_of_length_le (by omega), frmE] at hr
  (conv => whnf); refine ACalls.use (bag_sum_spec F.z05 hS ex l hl (fun e h => fit_ok (frmE_ok l hr e h)) _) ?_
  rw [norR, if_neg (by simp [hr])]
  rcases resR_cases (srtM l.length l) with h | h
  all_goals
   rw [h]
   conv => whnf
   exact pub2 (.closed _ rfl) (.closed _ rfl)
def mx0 (l : List Ent) : List Ent := l.map fun e => ⟨e.row, max 0 e.cnt⟩
def lx (M : List Ent) (k : Nat) : List Ent := mx0 (M.take k) ++ M.drop k
end Go.AW
namespace Go.AW
variable [Draws]
section
variable {α : Type} {c : α → α → Int}
def insC (c : α → α → Int) (x : α) : List α → List α
 | [] => [x]
 | y :: l => if c x y ≤ 0 then x :: y :: l else y :: insC c x l
def srtC (c : α → α → Int) : List α → List α
 | [] => []
 | x :: l => insC c x (srtC c l)
end
attribute [local irreducible] ACalls
instance lawfulBytes : LawfulBEq ByteArray where
 rfl {a} := by rw [beq_bytes]; simp
 eq_of_beq {a b} h := by
  rw [beq_bytes] at h
  obtain ⟨⟨a⟩⟩ := a
  obtain ⟨⟨b⟩⟩ := b
  simp at h
  subst h; rfl
theorem CloneV_own {P : Program} (F : F_z1e P) (ex : Bool) (cs : List V) (hl : cs.length ≤ 1000000) (H : List AObj) :
  ACalls P F.id [.list ex 3 (vC cs)] H (fun r H' => (r = .nil ∧ cs = [] ∧ H' = H) ∨ (r = .sl H.length cs.length 0 cs.length ∧ H' = H ++ [.arr 3 (vC cs)])) := by
 have h0 : ACalls P F.id [.list ex 3 (vC cs)] [] (fun r H1 => (r = .nil ∧ cs = [] ∧ H1 = []) ∨ (r = .sl 0 cs.length 0 cs.length ∧ H1 = [.arr 3 (vC cs)])) := by
  refine acalls_of_body F.has ?_
  conv => whnf
  refine And.intro (fun h => ?_) ?_
  ·conv => whnf
   exact .inl ⟨rfl, by simpa [vC] using h, rfl⟩
  ·conv => whnf
   refine And.intro ⟨roomMul (by simp [vC_length]; omega) (by omega), roomB_le (by simp [vC_length]; omega), .inr rfl⟩ ?_
   conv => whnf
   have key : List.replicate 0 [AVal.int .i64 0, .int .i64 0, .str (bs [])] ++ vC cs = vC cs := by simp
   have kl : (List.replicate 0 [AVal.int .i64 0, .int .i64 0, .str (bs [])] ++ vC cs).length = cs.length := by rw [key, vC_length]
   refine .inr ⟨slEq kl kl, ?_⟩
   show [AObj.arr 3 (List.replicate 0 [AVal.int .i64 0, .int .i64 0, .str (bs [])] ++ vC cs)] = _
   rw [key]
 refine ACalls.lift (by simp [AVal.closed, AVal.isPure]) h0 ?_
 rintro r H1 (⟨rfl, h1, rfl⟩ | ⟨rfl, rfl⟩)
 ·exact ⟨[], .nil, [], .closed _ rfl, List.nodup_nil, rfl, fun k id h => by simp at h, .inl ⟨rfl, h1, by simp⟩⟩
 ·exact ⟨[0], _, [.arr 3 (vC cs)], pubSl (k := 0) rfl (Nat.add_zero _).symm rfl rfl, by simp, rfl, fun k id hk => by
   cases k with
   | zero => simp at hk; subst hk; exact ⟨rfl, 3, _, rfl, pureEs_vC _⟩
   | succ k => simp at hk, .inr ⟨rfl, rfl⟩⟩
theorem obPushI (O : List Ent) (row : List V) (c : Int) (n id : Nat) (ids : List Nat) (H : List AObj) (hid : id ∉ ids) (h1 : H[id]? = some (.arr 3 (vC row))) (hn : n = row.length) :
  ObP H ids (.arr 2 (eC O ++ [[.sl id n 0 n, .int .i64 c]])) (.arr 2 (eC (O ++ [⟨row, c⟩]))) := by
 have hp : Pub H 0 ids (.sl id n 0 n) (.list false 3 (vC row)) := by
  have h := Pub.frz (n := 0) (ids := ids) id (vC row).length 0 (vC row).length 3 (vC row) h1 rfl (pureEs_vC _) hid
  rw [List.drop_zero, List.take_length, vC_length, ← hn] at h
  exact h
 rw [eC_append]
 refine .map 2 _ _ (by simp [eC]) (fun i e e1 h1 h2 => ?_) (fun i j e e1 d d1 h1 h2 h3 h4 => ?_)
 ·by_cases hi : i < (eC O).length
  ·rw [List.getElem?_append_left hi] at h1 h2
   rw [h1] at h2; cases h2; rfl
  ·rw [List.getElem?_append_right (by omega)] at h1 h2
   rcases hk : i - (eC O).length with _ | q
   ·rw [hk] at h1 h2
    cases h1; cases h2; rfl
   ·rw [hk] at h1; simp at h1
 ·by_cases hi : i < (eC O).length
  ·rw [List.getElem?_append_left hi] at h1 h2
   rw [h1] at h2; cases h2
   rw [h3] at h4; cases h4
   have := pureEs_get (pureEs_eC O) h1 h3
   exact ⟨.closed _ (by cases d <;> first | rfl | exact this | (simp [AVal.isPure] at this)), AVal.isCell_of_isPure this⟩
  ·rw [List.getElem?_append_right (by omega)] at h1 h2
   rcases hk : i - (eC O).length with _ | q
   ·rw [hk] at h1 h2
    cases h1; cases h2
    rcases j with _ | _ | j
    ·cases h3; cases h4; exact ⟨hp, rfl⟩
    ·cases h3; cases h4; exact ⟨.closed _ rfl, rfl⟩
    ·simp at h3
   ·rw [hk] at h1; simp at h1
theorem pubFxH {H1 : List AObj} {n : Nat} {id ep len sz : Nat} {es es' : List (List AVal)} (ho : H1[id]? = some (.arr sz es')) (hx : es' = es) (he : ep = es.length) (hl : len = es.length) (hp : pureEs es = true) : Pub H1 n [] (.sl id ep 0 len) (.list false sz es) := by
 subst hx; exact pubF ho he hl hp
theorem CloneC_own {P : Program} (F : F_z1c P) (ex : Bool) (cs : List Col) (h0 : cs ≠ []) (hl : cs.length ≤ 1000000) (H : List AObj) :
  ACalls P F.id [.list ex 3 (cC cs)] H (fun r H' => r = .sl H.length cs.length 0 cs.length ∧ H' = H ++ [.arr 3 (cC cs)]) := by
 refine ACalls.lift (by simp [AVal.closed, AVal.isPure]) (Clone_raw F ex cs hl) ?_
 rintro r H1 (⟨rfl, h1, rfl⟩ | ⟨rfl, rfl⟩)
 ·exact absurd h1 h0
 ·exact ⟨[0], _, [.arr 3 (cC cs)], pubSl (k := 0) rfl (Nat.add_zero _).symm rfl rfl, by simp, rfl, fun k id hk => by
   cases k with
   | zero => simp at hk; subst hk; exact ⟨rfl, 3, _, rfl, pureEs_cC _⟩
   | succ k => simp at hk, rfl, rfl⟩
set_option maxRecDepth 20000 in
theorem IndexFuncS_spec {P : Program} (F : F_z1k P) (g : FuncId) (caps : List AVal) (p : ByteArray → Bool) (H : List AObj) (hg : ∀ c : ByteArray, ACalls P g ([.str c] ++ caps) H (fun r H' => r = .bool (p c) ∧ H' = H))
  (ex : Bool) (cs : List ByteArray) (hl : cs.length ≤ 1000000) :
  ACalls P F.id [.list ex 1 (sC cs), .fn g caps] H (fun r H' => r = .int .i64 (idxOf p cs 0) ∧ H' = H) := by
 refine acalls_of_body F.has ?_
 conv => whnf
 refine ⟨fun m ρ H1 => ∃ k : Nat, k + m = cs.length ∧ idxOf p (cs.drop k) k = idxOf p cs 0 ∧ H1 = H ∧
  Sv 19 [(0, .list ex 1 (sC cs)), (1, .fn g caps), (7, .int .i64 cs.length), (8, .int .i64 k)] ρ, cs.length, [], ?_, ?_⟩
 ·exact ⟨0, by omega, rfl, rfl, Sv.intro rfl ⟨rfl, rfl, intEq (by rw [sC_length]), rfl, trivial⟩⟩
 rintro m ρ H1 ⟨k, hk, hr, rfl, d, rfl⟩
 (conv => whnf); refine recA (fun hlt => ?_) (fun hlt => ?_)
 ·simp at hlt
  obtain ⟨c, hc, hd, _⟩ := get_drop hlt
  rw [hd] at hr
  (conv => whnf); refine And.intro (by omega) ?_
  (conv => whnf); refine recO (sC_at hc) ?_
  (conv => whnf); refine ACalls.use (hg c) ?_
  (conv => whnf); refine recA (fun hp => ?_) (fun hp => ?_)
  ·conv => whnf
   refine ⟨intEq ?_, rfl⟩
   rw [← hr, idxOf, if_pos (show p c = true from hp)]
  ·conv => whnf
   refine ⟨m - 1, by omega, Gp.keep rfl ?_ fun ρ1 h => ⟨k + 1, by omega, ?_, rfl, h⟩⟩
   ·exact ⟨rfl, rfl, rfl, intEq (wrapI ((k : Int) + 1) (by omega) (by omega)), trivial⟩
   ·rw [← hr, idxOf, if_neg (by rw [show p c = false from hp]; simp)]; rfl
 ·simp at hlt
  conv => whnf
  rw [List.drop_eq_nil_of_le hlt] at hr
  exact ⟨intEq hr, rfl⟩
theorem ContainsFuncS_spec {P : Program} (F : F_z1h P) (g : FuncId) (caps : List AVal) (p : ByteArray → Bool) (H : List AObj) (hg : ∀ c : ByteArray, ACalls P g ([.str c] ++ caps) H (fun r H' => r = .bool (p c) ∧ H' = H))
  (ex : Bool) (cs : List ByteArray) (hl : cs.length ≤ 1000000) :
  ACalls P F.id [.list ex 1 (sC cs), .fn g caps] H (fun r H' => r = .bool (cs.any p) ∧ H' = H) := by
 refine acalls_of_body F.has ?_
 (conv => whnf); refine ACalls.use (IndexFuncS_spec F.z1k g caps p H hg ex cs hl) ?_
 conv => whnf
 refine ⟨?_, rfl⟩
 have h := idxOf_any p cs 0 (Int.le_refl _)
 congr 1
 rw [Bool.eq_iff_iff, ← h]; simp
def vfrom : ByteArray := bs [118, 97, 108, 105, 100, 95, 102, 114, 111, 109]
def vto : ByteArray := bs [118, 97, 108, 105, 100, 95, 116, 111]
def hcols (s : Sou) : List Col := s.cols ++ [⟨vfrom, 4, false⟩, ⟨vto, 4, true⟩]
structure Sou.good (s : Sou) : Prop where
 vld : vldC s.cols = 0
 at0 : 0 ≤ colIdx s.cols s.att
 keys : s.key.any (fun n => decide (colIdx s.cols n < 0)) = false
 kind : ∃ c, s.cols[(colIdx s.cols s.att).toNat]? = some c ∧ c.kind = 4 ∧ c.nul = false
 ten : s.cols.length ≤ 10
 vf : colIdx s.cols vfrom < 0
 vt : colIdx s.cols vto < 0
 klen : s.key.length ≤ 1000
theorem Sou.good.ok {s : Sou} (h : s.good) : s.ok := ⟨by have := h.ten; omega, h.klen⟩
theorem Sou.good.ne {s : Sou} (h : s.good) : s.cols ≠ [] := by
 intro e
 have := h.vld
 rw [e] at this
 simp [vldC] at this
set_option maxRecDepth 20000 in
theorem hColumns_1_spec {P : Program} (F : F_z0i P) (s : Sou) (hs : s.ok) (n : ByteArray) :
  ACalls P F.id [.str n, .ptr 0 1 0 0] [.arr 7 [souC s]] (fun r H' => r = .bool (decide (colIdx s.cols n < 0)) ∧ H' = [.arr 7 [souC s]]) := by
 refine acalls_of_body F.has ?_
 (conv => whnf); refine ACalls.use (schema_Index_spec F.z15 false s.cols (by have := hs.1; omega) n _) ?_
 conv => whnf
 exact ⟨rfl, rfl⟩
set_option maxHeartbeats 1000000 in
set_option maxRecDepth 20000 in
theorem hColumns_spec {P : Program} (F : F_z0h P) (s : Sou) (hs : s.good) (H : List AObj) :
  ACalls P F.id [.agg (souC s)] H (fun r H' => r = .tuple [.list false 3 (cC (hcols s)), .int .i64 0] ∧ H' = H) := by
 have hok := hs.ok
 have hlen := hs.ten
 have hlt := colIdx_lt s.cols s.att hs.at0
 obtain ⟨c, hc, hk, hn⟩ := hs.kind
 refine ACalls.pure (by simp [souC_closed]) (acalls_of_body F.has ?_)
 (conv => whnf); refine ACalls.use (schema_Validate_spec F.z1a false s.cols (by omega) _) ?_
 (conv => whnf); refine recF (by rw [hs.vld]; rfl) ?_
 (conv => whnf); refine ACalls.use (schema_Index_spec F.z15 false s.cols (by omega) s.att _) ?_
 (conv => whnf); refine recF (by have := hs.at0; simp; omega) ?_
 (conv => whnf); refine ACalls.use (ContainsFuncS_spec F.z1h F.z0i.id [.ptr 0 1 0 0] (fun n => decide (colIdx s.cols n < 0)) [.arr 7 [souC s]] (fun n => hColumns_1_spec F.z0i s hok n) false s.key (by have := hs.klen; omega)) ?_
 (conv => whnf); refine recF (hs.keys) ?_
 (conv => whnf); refine And.intro (hs.at0) ?_
 (conv => whnf); refine recO (cC_at hc) ?_
 (conv => whnf); refine recF (by rw [hk]; rfl) ?_
 (conv => whnf); refine And.intro (hs.at0) ?_
 (conv => whnf); refine recO (cC_at hc) ?_
 (conv => whnf); refine recF (hn) ?_
 (conv => whnf); refine recF (by rw [cC_length]; simp; omega) ?_
 (conv => whnf); refine ACalls.use (schema_Index_spec F.z15 false s.cols (by omega) vfrom _) ?_
 (conv => whnf); refine recF (by have := hs.vf; simp; omega) ?_
 (conv => whnf); refine ACalls.use (schema_Index_spec F.z15 false s.cols (by omega) vto _) ?_
 (conv => whnf); refine recF (by have := hs.vt; simp; omega) ?_
 (conv => whnf); refine ACalls.mono (CloneC_own F.z1c false s.cols hs.ne (by omega) _) ?_
 rintro r H' ⟨rfl, rfl⟩
 (conv => whnf); refine recT (by rw [cC_length]; exact Nat.beq_refl _) ?_
 (conv => whnf); refine And.intro (⟨roomMul (by simp; omega) (by omega), roomB_le (by simp; omega), rfl, by rw [cC_length]⟩) ?_
 conv => whnf
 have hcn : cC s.cols ++ [colC ⟨vfrom, 4, false⟩, colC ⟨vto, 4, true⟩] = cC (hcols s) := by rw [hcols, cC_append]; rfl
 have hl2 := congrArg List.length hcn
 refine pub2 (pubFxH (es := cC (hcols s)) (es' := cC s.cols ++ [colC ⟨vfrom, 4, false⟩, colC ⟨vto, 4, true⟩]) rfl hcn hl2 hl2 (pureEs_cC _)) (.closed _ rfl)
theorem blk_eq {α : Type} {L X M Y R : List α} {k : Nat} {x y : α} (hx : X[k]? = some x) (hy : Y[k]? = some y) :
  L ++ (Y.take k ++ X.drop k) ++ M ++ (X.take k ++ Y.drop k) ++ R = (L ++ Y.take k) ++ x :: ((X.drop (k + 1) ++ M ++ X.take k) ++ y :: (Y.drop (k + 1) ++ R)) := by
 rw [drop_cons hx, drop_cons hy]; simp
theorem blk_eq2 {α : Type} {L X M Y R : List α} {k : Nat} {x y : α} (hx : X[k]? = some x) (hy : Y[k]? = some y) :
  L ++ (Y.take (k + 1) ++ X.drop (k + 1)) ++ M ++ (X.take (k + 1) ++ Y.drop (k + 1)) ++ R = (L ++ Y.take k) ++ y :: ((X.drop (k + 1) ++ M ++ X.take k) ++ x :: (Y.drop (k + 1) ++ R)) := by
 rw [take_snoc hx, take_snoc hy]; simp
set_option maxHeartbeats 1000000 in
set_option maxRecDepth 20000 in
theorem swapRange_spec {P : Program} (F : F_z1v P) {H : List AObj} {i0 : Nat} (hi0 : i0 < H.length) (f : AVal) (L X M Y R : List Ver) {a b n d : Nat} (ha : a = L.length) (hn : n = X.length) (hn2 : n = Y.length) (hb : b = L.length + X.length + M.length)
  (hd : d = (L ++ X ++ M ++ Y ++ R).length) (hmax : d ≤ 1000000) :
  ACalls P F.id [.sl i0 d 0 d, .int .i64 a, .int .i64 b, .int .i64 n, f] (H.set i0 (vO (L ++ X ++ M ++ Y ++ R))) (fun r H' => r = .tuple [] ∧ H' = H.set i0 (vO (L ++ Y ++ M ++ X ++ R))) := by
 simp only [List.length_append] at hd
 refine acalls_of_body F.has ?_
 conv => whnf
 refine ⟨fun m ρ H1 => ∃ k : Nat, k + m = n ∧ H1 = H.set i0 (vO (L ++ (Y.take k ++ X.drop k) ++ M ++ (X.take k ++ Y.drop k) ++ R)) ∧ Sv 38 [(0, .sl i0 d 0 d), (1, .int .i64 a), (2, .int .i64 b), (3, .int .i64 n), (10, .int .i64 k)] ρ, n, [], ?_, ?_⟩
 ·exact ⟨0, by omega, by simp, Sv.intro rfl ⟨rfl, rfl, rfl, rfl, rfl, trivial⟩⟩
 rintro m ρ H1 ⟨k, hkm, rfl, c, rfl⟩
 (conv => whnf); refine recA (fun hlt => ?_) (fun hlt => ?_)
 ·simp at hlt
  have hx : X[k]? = some X[k] := List.getElem?_eq_getElem (by omega)
  have hy : Y[k]? = some Y[k] := List.getElem?_eq_getElem (by omega)
  generalize X[k] = x at hx
  generalize Y[k] = y at hy
  have hD := blk_eq (L := L) (M := M) (R := R) hx hy
  have hD2 := blk_eq2 (L := L) (M := M) (R := R) hx hy
  have hdl : d = (L ++ (Y.take k ++ X.drop k) ++ M ++ (X.take k ++ Y.drop k) ++ R).length := by simp only [List.length_append, List.length_take, List.length_drop]; omega
  have ea : IntKind.i64.wrap ((a : Int) + (k : Int)) = ((a + k : Nat) : Int) := by rw [wrapI _ (by omega) (by omega)]; omega
  have eb : IntKind.i64.wrap ((b : Int) + (k : Int)) = ((b + k : Nat) : Int) := by rw [wrapI _ (by omega) (by omega)]; omega
  have ek : IntKind.i64.wrap ((k : Int) + 1) = ((k + 1 : Nat) : Int) := by rw [wrapI _ (by omega) (by omega)]; omega
  have ia : a + k = (L ++ Y.take k).length := by simp only [List.length_append, List.length_take]; omega
  have ib : b + k = (L ++ Y.take k).length + 1 + (X.drop (k + 1) ++ M ++ X.take k).length := by simp only [List.length_append, List.length_take, List.length_drop]; omega
  have ga := sw_i hD ia
  have gb := sw_j hD ib
  have gs := sw_ij hD ia ib
  rw [← hD2] at gs
  generalize (L ++ (Y.take k ++ X.drop k) ++ M ++ (X.take k ++ Y.drop k) ++ R) = D at *
  have hob : ∀ o : AObj, (H.set i0 o)[i0]? = some o := hset hi0
  have tl : Nat.beq d (vsC D).length = true := by rw [vsC_length, ← hdl]; exact Nat.beq_refl _
  have xa : (vsC D)[0 + (IntKind.i64.wrap ((a : Int) + (k : Int))).toNat]? = some (verC x) := by rw [ea, Int.toNat_natCast, Nat.zero_add]; exact vsC_at ga
  have xb : (vsC D)[0 + (IntKind.i64.wrap ((b : Int) + (k : Int))).toNat]? = some (verC y) := by rw [eb, Int.toNat_natCast, Nat.zero_add]; exact vsC_at gb
  have s1 : (H.set i0 (vO D)).set i0 (.arr 5 (setEs (vsC D) (0 + (IntKind.i64.wrap ((a : Int) + (k : Int))).toNat) (verC y))) = H.set i0 (vO (D.set (a + k) y)) := by rw [ea, Int.toNat_natCast, Nat.zero_add, vsC_set, hset2]
  have tl2 : Nat.beq d (vsC (D.set (a + k) y)).length = true := by rw [vsC_length, List.length_set, ← hdl]; exact Nat.beq_refl _
  have xb2 : (vsC (D.set (a + k) y))[0 + (IntKind.i64.wrap ((b : Int) + (k : Int))).toNat]? = some (verC y) := by
   rw [eb, Int.toNat_natCast, Nat.zero_add]
   exact vsC_at (by rw [List.getElem?_set_ne (by omega)]; exact gb)
  have s2 : (H.set i0 (vO (D.set (a + k) y))).set i0 (.arr 5 (setEs (vsC (D.set (a + k) y)) (0 + (IntKind.i64.wrap ((b : Int) + (k : Int))).toNat) (verC x))) = H.set i0 (vO (L ++ (Y.take (k + 1) ++ X.drop (k + 1)) ++ M ++ (X.take (k + 1) ++ Y.drop (k + 1)) ++ R)) := by
   rw [eb, Int.toNat_natCast, Nat.zero_add, vsC_set, hset2, gs]
  (conv => whnf); refine recO (hob _) ?_
  (conv => whnf); refine recT (tl) ?_
  (conv => whnf); refine And.intro (by rw [eb]; omega) ?_
  (conv => whnf); refine recO (hob _) ?_
  (conv => whnf); refine recT (tl) ?_
  (conv => whnf); refine recO (xb) ?_
  (conv => whnf); refine recO (hob _) ?_
  (conv => whnf); refine recT (tl) ?_
  (conv => whnf); refine And.intro (by rw [ea]; omega) ?_
  (conv => whnf); refine recO (hob _) ?_
  (conv => whnf); refine recT (tl) ?_
  (conv => whnf); refine recO (xa) ?_
  (conv => whnf); refine recO (hob _) ?_
  (conv => whnf); refine recT (tl) ?_
  (conv => whnf); refine And.intro (by rw [ea]; omega) ?_
  (conv => whnf); refine recO (hob _) ?_
  (conv => whnf); refine recT (tl) ?_
  (conv => whnf); refine recO (xa) ?_
  conv => whnf
  refine setOv s1 ?_
  (conv => whnf); refine recO (hob _) ?_
  (conv => whnf); refine recT (tl2) ?_
  (conv => whnf); refine And.intro (by rw [eb]; omega) ?_
  (conv => whnf); refine recO (hob _) ?_
  (conv => whnf); refine recT (tl2) ?_
  (conv => whnf); refine recO (xb2) ?_
  conv => whnf
  refine setOv s2 ?_
  conv => whnf
  refine ⟨m - 1, by omega, Gp.keep rfl ?_ fun ρ1 h => ⟨k + 1, by omega, rfl, h⟩⟩
  exact ⟨rfl, rfl, rfl, rfl, intEq ek, trivial⟩
 ·simp at hlt
  have hkn : k = n := by omega
  conv => whnf
  refine ⟨rfl, ?_⟩
  rw [hkn, hn, List.take_of_length_le (Nat.le_refl _), List.drop_of_length_le (Nat.le_refl _), ← hn, hn2, List.take_of_length_le (Nat.le_refl _), List.drop_of_length_le (Nat.le_refl _), List.append_nil, List.append_nil]
theorem swapRange_i {P : Program} (F : F_z1v P) {H : List AObj} {i0 : Nat} (hi0 : i0 < H.length) (f : AVal) (L X M Y R : List Ver) {a b n : Int} {d : Nat} (ha : a = L.length) (hn : n = X.length) (hn2 : n = Y.length) (hb : b = L.length + X.length + M.length)
  (hd : d = (L ++ X ++ M ++ Y ++ R).length) (hmax : d ≤ 1000000) {D : List Ver} (hD : D = L ++ X ++ M ++ Y ++ R) :
  ACalls P F.id [.sl i0 d 0 d, .int .i64 a, .int .i64 b, .int .i64 n, f] (H.set i0 (vO D)) (fun r H' => r = .tuple [] ∧ H' = H.set i0 (vO (L ++ Y ++ M ++ X ++ R))) := by
 have h := swapRange_spec F hi0 f L X M Y R (a := L.length) (b := L.length + X.length + M.length) (n := X.length) rfl rfl (by omega) rfl hd hmax
 rw [ha, hn, hb, hD]
 have e : ((L.length + X.length + M.length : Nat) : Int) = (L.length : Int) + X.length + M.length := by omega
 rw [e] at h
 exact h
set_option maxHeartbeats 1000000 in
set_option maxRecDepth 20000 in
theorem rotate_spec {P : Program} (F : F_z1t P) {H : List AObj} {i0 : Nat} (hi0 : i0 < H.length) (f : AVal) (L X Y R : List Ver) {a m b : Int} {d : Nat} (ha : a = L.length) (hm : m = L.length + X.length) (hb : b = L.length + X.length + Y.length)
  (hX : X ≠ []) (hY : Y ≠ []) (hd : d = (L ++ X ++ Y ++ R).length) (hmax : d ≤ 1000000) {D : List Ver} (hD : D = L ++ X ++ Y ++ R) :
  ACalls P F.id [.sl i0 d 0 d, .int .i64 a, .int .i64 m, .int .i64 b, f] (H.set i0 (vO D)) (fun r H' => r = .tuple [] ∧ H' = H.set i0 (vO (L ++ Y ++ X ++ R))) := by
 simp only [List.length_append] at hd
 have lpos : ∀ {l : List Ver}, l ≠ [] → 0 < l.length := fun h => List.length_pos_iff.2 h
 have e1 : IntKind.i64.wrap (m - a) = (X.length : Int) := by rw [wrapI _ (by omega) (by omega)]; omega
 have e2 : IntKind.i64.wrap (b - m) = (Y.length : Int) := by rw [wrapI _ (by omega) (by omega)]; omega
 refine acalls_of_body F.has ?_
 conv => whnf
 rw [e1, e2]
 refine ⟨fun q ρ H1 => ∃ L1 X1 Y1 R1 : List Ver, X1.length + Y1.length = q ∧ X1 ≠ [] ∧ Y1 ≠ [] ∧ (L1.length : Int) + X1.length = m ∧ L1 ++ Y1 ++ X1 ++ R1 = L ++ Y ++ X ++ R ∧ d = L1.length + X1.length + Y1.length + R1.length ∧
  H1 = H.set i0 (vO (L1 ++ X1 ++ Y1 ++ R1)) ∧ Sv 58 [(0, .sl i0 d 0 d), (2, .int .i64 m), (4, f), (10, .int .i64 X1.length), (11, .int .i64 Y1.length)] ρ, X.length + Y.length, [], ?_, ?_⟩
 ·exact ⟨L, X, Y, R, rfl, hX, hY, by omega, rfl, by omega, by rw [hD], Sv.intro rfl ⟨rfl, rfl, rfl, rfl, rfl, trivial⟩⟩
 rintro q ρ H1 ⟨L1, X1, Y1, R1, hq, hX1, hY1, hm1, ht, hd1, rfl, c, rfl⟩
 have px := lpos hX1
 have py := lpos hY1
 (conv => whnf); refine recA (fun hne => ?_) (fun hne => ?_)
 ·simp at hne
  (conv => whnf); refine recA (fun hgt => ?_) (fun hgt => ?_)
  ·simp at hgt
   have f1 : IntKind.i64.wrap (m - (X1.length : Int)) = (L1.length : Int) := by rw [wrapI _ (by omega) (by omega)]; omega
   have f2 : IntKind.i64.wrap ((X1.length : Int) - (Y1.length : Int)) = ((X1.drop Y1.length).length : Int) := by rw [wrapI _ (by omega) (by omega), List.length_drop]; omega
   (conv => whnf); refine ACalls.mono (swapRange_i F.z1v hi0 f L1 (X1.take Y1.length) (X1.drop Y1.length) Y1 R1 f1 (by rw [List.length_take]; omega) rfl (by rw [List.length_take, List.length_drop]; omega) (by simp only [List.length_append, List.length_take, List.length_drop]; omega) hmax (by rw [List.append_assoc L1 (X1.take _), List.take_append_drop])) ?_
   rintro r H' ⟨rfl, rfl⟩
   conv => whnf
   refine ⟨(X1.drop Y1.length).length + (X1.take Y1.length).length, by rw [List.length_drop, List.length_take]; omega, Gp.keep rfl ?_ fun ρ1 h => ⟨L1 ++ Y1, X1.drop Y1.length, X1.take Y1.length, R1, rfl, ?_, ?_, ?_, ?_, ?_, by simp only [List.append_assoc], h⟩⟩
   ·exact ⟨rfl, rfl, rfl, intEq f2, intEq (by rw [List.length_take]; omega), trivial⟩
   ·intro h; have := congrArg List.length h; rw [List.length_drop, List.length_nil] at this; omega
   ·intro h; have := congrArg List.length h; rw [List.length_take, List.length_nil] at this; omega
   ·simp only [List.length_append, List.length_drop]; omega
   ·rw [← ht]; simp only [List.append_assoc]; rw [← List.append_assoc (X1.take _), List.take_append_drop]
   ·simp only [List.length_append, List.length_drop, List.length_take]; omega
  ·simp at hgt
   have f1 : IntKind.i64.wrap (m - (X1.length : Int)) = (L1.length : Int) := by rw [wrapI _ (by omega) (by omega)]; omega
   have f2 : IntKind.i64.wrap (IntKind.i64.wrap (m + (Y1.length : Int)) - (X1.length : Int)) = (L1.length : Int) + X1.length + ((Y1.take (Y1.length - X1.length)).length : Int) := by rw [wrapI (m + _) (by omega) (by omega), wrapI _ (by omega) (by omega), List.length_take]; omega
   have f3 : IntKind.i64.wrap ((Y1.length : Int) - (X1.length : Int)) = ((Y1.take (Y1.length - X1.length)).length : Int) := by rw [wrapI _ (by omega) (by omega), List.length_take]; omega
   (conv => whnf); refine ACalls.mono (swapRange_i F.z1v hi0 f L1 X1 (Y1.take (Y1.length - X1.length)) (Y1.drop (Y1.length - X1.length)) R1 f1 rfl (by rw [List.length_drop]; omega) f2 (by simp only [List.length_append, List.length_take, List.length_drop]; omega) hmax (by rw [List.append_assoc (L1 ++ X1) (Y1.take _), List.take_append_drop])) ?_
   rintro r H' ⟨rfl, rfl⟩
   conv => whnf
   refine ⟨(Y1.drop (Y1.length - X1.length)).length + (Y1.take (Y1.length - X1.length)).length, by rw [List.length_drop, List.length_take]; omega, Gp.keep rfl ?_ fun ρ1 h => ⟨L1, Y1.drop (Y1.length - X1.length), Y1.take (Y1.length - X1.length), X1 ++ R1, rfl, ?_, ?_, ?_, ?_, ?_, by simp only [List.append_assoc], h⟩⟩
   ·exact ⟨rfl, rfl, rfl, intEq (by rw [List.length_drop]; omega), intEq f3, trivial⟩
   ·intro h; have := congrArg List.length h; rw [List.length_drop, List.length_nil] at this; omega
   ·intro h; have := congrArg List.length h; rw [List.length_take, List.length_nil] at this; omega
   ·simp only [List.length_drop]; omega
   ·rw [← ht]; simp only [List.append_assoc]; rw [← List.append_assoc (Y1.take _), List.take_append_drop]
   ·simp only [List.length_append, List.length_drop, List.length_take]; omega
 ·simp at hne
  have f1 : IntKind.i64.wrap (m - (X1.length : Int)) = (L1.length : Int) := by rw [wrapI _ (by omega) (by omega)]; omega
  (conv => whnf); refine ACalls.mono (swapRange_i F.z1v hi0 f L1 X1 [] Y1 R1 f1 rfl (by omega) (by simp; omega) (by simp only [List.length_append, List.append_nil]; omega) hmax (by simp)) ?_
  rintro r H' ⟨rfl, rfl⟩
  conv => whnf
  refine ⟨rfl, ?_⟩
  rw [← ht]; simp
theorem swIJ {H : List AObj} {i0 : Nat} {Pr Q S D : List Ver} {x y : Ver} {p q : Int} {d : Nat} (hD : D = Pr ++ x :: (Q ++ y :: S)) (hp : p = Pr.length) (hq : q = Pr.length + 1 + Q.length) (hd : d = D.length) :
  Nat.beq d (vsC D).length = true ∧ (0 ≤ p ∧ p < d) ∧ (0 ≤ q ∧ q < d) ∧ (vsC D)[0 + p.toNat]? = some (verC x) ∧ (vsC D)[0 + q.toNat]? = some (verC y) ∧
  (H.set i0 (vO D)).set i0 (.arr 5 (setEs (vsC D) (0 + p.toNat) (verC y))) = H.set i0 (vO (D.set Pr.length y)) ∧ Nat.beq d (vsC (D.set Pr.length y)).length = true ∧
  (vsC (D.set Pr.length y))[0 + q.toNat]? = some (verC y) ∧
  (H.set i0 (vO (D.set Pr.length y))).set i0 (.arr 5 (setEs (vsC (D.set Pr.length y)) (0 + q.toNat) (verC x))) = H.set i0 (vO (Pr ++ y :: (Q ++ x :: S))) := by
 have hl := congrArg List.length hD
 simp only [List.length_append, List.length_cons] at hl
 have ep : p.toNat = Pr.length := by omega
 have eq : q.toNat = Pr.length + 1 + Q.length := by omega
 have ga := sw_i hD rfl
 have gb := sw_j hD rfl
 rw [ep, eq, Nat.zero_add, Nat.zero_add]
 refine ⟨by rw [vsC_length, ← hd]; exact Nat.beq_refl _, by omega, by omega, vsC_at ga, vsC_at gb, by rw [vsC_set, hset2], by rw [vsC_length, List.length_set, ← hd]; exact Nat.beq_refl _, ?_, ?_⟩
 ·exact vsC_at (by rw [List.getElem?_set_ne (by omega)]; exact gb)
 ·rw [vsC_set, hset2, sw_ij hD rfl rfl]
theorem swJI {H : List AObj} {i0 : Nat} {Pr Q S D : List Ver} {x y : Ver} {p q : Int} {d : Nat} (hD : D = Pr ++ x :: (Q ++ y :: S)) (hp : p = Pr.length) (hq : q = Pr.length + 1 + Q.length) (hd : d = D.length) :
  Nat.beq d (vsC D).length = true ∧ (0 ≤ p ∧ p < d) ∧ (0 ≤ q ∧ q < d) ∧ (vsC D)[0 + p.toNat]? = some (verC x) ∧ (vsC D)[0 + q.toNat]? = some (verC y) ∧
  (H.set i0 (vO D)).set i0 (.arr 5 (setEs (vsC D) (0 + q.toNat) (verC x))) = H.set i0 (vO (D.set (Pr.length + 1 + Q.length) x)) ∧ Nat.beq d (vsC (D.set (Pr.length + 1 + Q.length) x)).length = true ∧
  (vsC (D.set (Pr.length + 1 + Q.length) x))[0 + p.toNat]? = some (verC x) ∧
  (H.set i0 (vO (D.set (Pr.length + 1 + Q.length) x))).set i0 (.arr 5 (setEs (vsC (D.set (Pr.length + 1 + Q.length) x)) (0 + p.toNat) (verC y))) = H.set i0 (vO (Pr ++ y :: (Q ++ x :: S))) := by
 have hl := congrArg List.length hD
 simp only [List.length_append, List.length_cons] at hl
 have ep : p.toNat = Pr.length := by omega
 have eq : q.toNat = Pr.length + 1 + Q.length := by omega
 have ga := sw_i hD rfl
 have gb := sw_j hD rfl
 rw [ep, eq, Nat.zero_add, Nat.zero_add]
 refine ⟨by rw [vsC_length, ← hd]; exact Nat.beq_refl _, by omega, by omega, vsC_at ga, vsC_at gb, by rw [vsC_set, hset2], by rw [vsC_length, List.length_set, ← hd]; exact Nat.beq_refl _, ?_, ?_⟩
 ·exact vsC_at (by rw [List.getElem?_set_ne (by omega)]; exact ga)
 ·rw [vsC_set, hset2, sw_ji hD rfl rfl]
def CmpV (P : Program) (g : FuncId) (caps : List AVal) (ok : Ver → Prop) (cmp : Ver → Ver → Int) : Prop :=
 ∀ x y, ok x → ok y → ∀ H, ACalls P g ([.agg (verC x), .agg (verC y)] ++ caps) H (fun r H' => r = .int .i64 (cmp x y) ∧ H' = H)
set_option maxHeartbeats 1000000 in
set_option maxRecDepth 20000 in
theorem insertion_spec {P : Program} (F : F_z1q P) {H : List AObj} {i0 : Nat} (hi0 : i0 < H.length) {g : FuncId} {caps : List AVal} {ok : Ver → Prop} {cmp : Ver → Ver → Int} (hg : CmpV P g caps ok cmp) (O : Orders cmp) (L X R : List Ver) {a b : Int} {d : Nat} (ha : a = L.length) (hb : b = L.length + X.length)
  (hok : ∀ x ∈ X, ok x) (hd : d = (L ++ X ++ R).length) (hmax : d ≤ 1000000) {D : List Ver} (hD : D = L ++ X ++ R) :
  ACalls P F.id [.sl i0 d 0 d, .int .i64 a, .int .i64 b, .fn g caps] (H.set i0 (vO D)) (fun r H' => r = .tuple [] ∧ ∃ Z : List Ver, Z.Perm X ∧ AscO cmp Z ∧ H' = H.set i0 (vO (L ++ Z ++ R))) := by
 subst hD
 have hob : ∀ o : AObj, (H.set i0 o)[i0]? = some o := hset hi0
 have hdl := hd
 simp only [List.length_append] at hdl
 have e1 : IntKind.i64.wrap (a + 1) = a + 1 := wrapI _ (by omega) (by omega)
 refine acalls_of_body F.has ?_
 conv => whnf
 rw [e1]
 refine ⟨fun m ρ H1 => ∃ (t : Nat) (Z : List Ver), t + m = X.length ∧ Z.Perm (X.take (t + 1)) ∧ AscO cmp Z ∧ H1 = H.set i0 (vO (L ++ Z ++ (X.drop (t + 1) ++ R))) ∧ Sv 53 [(0, .sl i0 d 0 d), (1, .int .i64 a), (2, .int .i64 b), (3, .fn g caps), (8, .int .i64 (a + 1 + t))] ρ, X.length, [], ?_, ?_⟩
 ·refine ⟨0, X.take 1, by omega, .refl _, ?_, by rw [Nat.zero_add]; simp only [List.append_assoc]; rw [← List.append_assoc (X.take 1), List.take_append_drop], Sv.intro rfl ⟨rfl, rfl, rfl, rfl, intEq (by omega), trivial⟩⟩
  match X with
  | [] => exact List.Pairwise.nil
  | x :: _ => exact List.pairwise_singleton _ _
 rintro m ρ H1 ⟨t, Z, htm, hp, hs, rfl, c, rfl⟩
 (conv => whnf); refine recA (fun hlt => ?_) (fun hlt => ?_)
 ·simp at hlt
  have htl : t + 1 < X.length := by omega
  have hv : X[t + 1]? = some X[t + 1] := List.getElem?_eq_getElem htl
  have hvo : ok X[t + 1] := hok _ (List.getElem_mem htl)
  generalize X[t + 1] = v at hv hvo
  have hzl : Z.length = t + 1 := by rw [hp.length_eq, List.length_take]; omega
  have hzo : ∀ z ∈ Z, ok z := fun z hz => hok z (List.mem_of_mem_take (hp.mem_iff.1 hz))
  conv => whnf
  refine ⟨fun q ρ H1 => ∃ Z1 Z2 : List Ver, Z1.length = q ∧ Z = Z1 ++ Z2 ∧ (∀ z ∈ Z2, cmp v z < 0) ∧ H1 = H.set i0 (vO (L ++ Z1 ++ (v :: (Z2 ++ (X.drop (t + 2) ++ R))))) ∧ Sv 53 [(0, .sl i0 d 0 d), (1, .int .i64 a), (2, .int .i64 b), (3, .fn g caps), (8, .int .i64 (a + 1 + t)), (9, .int .i64 (a + Z1.length))] ρ, Z.length, [], ?_, ?_⟩
  ·refine ⟨Z, [], rfl, by simp, by simp, ?_, Sv.intro rfl ⟨rfl, rfl, rfl, rfl, rfl, intEq (by omega), trivial⟩⟩
   rw [drop_cons hv]; rfl
  rintro q ρ H1 ⟨Z1, Z2, hq, hZ, hlt2, rfl, c, rfl⟩
  have hzl2 := congrArg List.length hZ
  rw [List.length_append] at hzl2
  have stop : (∀ z ∈ Z1, 0 ≤ cmp v z) → (Z1 ++ v :: Z2).Perm (X.take (t + 1 + 1)) ∧ AscO cmp (Z1 ++ v :: Z2) := by
   intro h1
   rw [hZ] at hp hs
   obtain ⟨s1, s2, s3⟩ := asc_app.1 hs
   refine ⟨?_, asc_app.2 ⟨s1, List.pairwise_cons.2 ⟨fun z hz => O.anti _ _ (hlt2 z hz), s2⟩, fun x hx y hy => ?_⟩⟩
   ·rw [take_snoc hv]
    exact (List.perm_middle.trans (hp.cons v)).trans (List.perm_append_comm (l₁ := [v]))
   ·rcases List.mem_cons.1 hy with rfl | hy
    ·exact h1 x hx
    ·exact s3 x hx y hy
  have ed : d = (L ++ Z1 ++ (v :: (Z2 ++ (X.drop (t + 2) ++ R)))).length := by simp only [List.length_append, List.length_cons, List.length_drop]; omega
  have en : IntKind.i64.wrap (a + 1 + (t : Int) + 1) = a + 1 + ((t + 1 : Nat) : Int) := by rw [wrapI _ (by omega) (by omega)]; omega
  (conv => whnf); refine recA (fun hj => ?_) (fun hj => ?_)
  ·simp at hj
   obtain ⟨Z0, u, hz⟩ : ∃ Z0 u, Z1 = Z0 ++ [u] := by
    rcases List.eq_nil_or_concat Z1 with h | ⟨Z0, u, h⟩
    ·rw [h] at hj; simp at hj
    ·exact ⟨Z0, u, by rw [h, List.concat_eq_append]⟩
   subst hz
   have hz0 : (Z0 ++ [u]).length = Z0.length + 1 := by rw [List.length_append]; rfl
   rw [hz0] at hzl2 hq
   have hDe : L ++ (Z0 ++ [u]) ++ (v :: (Z2 ++ (X.drop (t + 2) ++ R))) = (L ++ Z0) ++ u :: ([] ++ v :: (Z2 ++ (X.drop (t + 2) ++ R))) := by simp
   have huo : ok u := hzo u (by rw [hZ]; simp)
   have ej : IntKind.i64.wrap (a + ((Z0 ++ [u]).length : Int) - 1) = a + (Z0.length : Int) := by rw [hz0, wrapI _ (by omega) (by omega)]; omega
   obtain ⟨tl, bA, bB, xa, xb, s1, tl2, x2, s2⟩ := swJI (H := H) (i0 := i0) (p := IntKind.i64.wrap (a + ((Z0 ++ [u]).length : Int) - 1)) (q := a + ((Z0 ++ [u]).length : Int)) (d := d) hDe (by rw [ej, List.length_append]; omega) (by rw [hz0, List.length_append, List.length_nil]; omega) ed
   (conv => whnf); refine recO (hob _) ?_
   (conv => whnf); refine recT (tl) ?_
   (conv => whnf); refine And.intro (bB) ?_
   (conv => whnf); refine recO (hob _) ?_
   (conv => whnf); refine recT (tl) ?_
   (conv => whnf); refine recO (xb) ?_
   (conv => whnf); refine recO (hob _) ?_
   (conv => whnf); refine recT (tl) ?_
   (conv => whnf); refine And.intro (bA) ?_
   (conv => whnf); refine recO (hob _) ?_
   (conv => whnf); refine recT (tl) ?_
   (conv => whnf); refine recO (xa) ?_
   (conv => whnf); refine ⟨_, hg v u hvo huo _, ?_⟩
   (conv => whnf); refine recA (fun hc => ?_) (fun hc => ?_)
   ·simp at hc
    (conv => whnf); refine recO (hob _) ?_
    (conv => whnf); refine recT (tl) ?_
    (conv => whnf); refine And.intro (bA) ?_
    (conv => whnf); refine recO (hob _) ?_
    (conv => whnf); refine recT (tl) ?_
    (conv => whnf); refine recO (xa) ?_
    (conv => whnf); refine recO (hob _) ?_
    (conv => whnf); refine recT (tl) ?_
    (conv => whnf); refine And.intro (bB) ?_
    (conv => whnf); refine recO (hob _) ?_
    (conv => whnf); refine recT (tl) ?_
    (conv => whnf); refine recO (xb) ?_
    (conv => whnf); refine recO (hob _) ?_
    (conv => whnf); refine recT (tl) ?_
    (conv => whnf); refine And.intro (bB) ?_
    (conv => whnf); refine recO (hob _) ?_
    (conv => whnf); refine recT (tl) ?_
    (conv => whnf); refine recO (xb) ?_
    conv => whnf
    refine setOv s1 ?_
    (conv => whnf); refine recO (hob _) ?_
    (conv => whnf); refine recT (tl2) ?_
    (conv => whnf); refine And.intro (bA) ?_
    (conv => whnf); refine recO (hob _) ?_
    (conv => whnf); refine recT (tl2) ?_
    (conv => whnf); refine recO (x2) ?_
    conv => whnf
    refine setOv s2 ?_
    conv => whnf
    refine ⟨Z0.length, by omega, Gp.keep rfl ?_ fun ρ1 h => ⟨Z0, u :: Z2, rfl, by simp [hZ], ?_, by simp, h⟩⟩
    ·exact ⟨rfl, rfl, rfl, rfl, rfl, intEq ej, trivial⟩
    ·intro z hz
     rcases List.mem_cons.1 hz with rfl | hz
     ·exact hc
     ·exact hlt2 z hz
   ·simp at hc
    conv => whnf
    rw [hZ] at hs
    obtain ⟨g1, g2⟩ := stop (fun z hz => by
     rcases List.mem_append.1 hz with hz | hz
     ·have := (asc_app.1 (asc_app.1 hs).1).2.2 z hz u (List.mem_singleton.2 rfl)
      exact O.trans _ _ _ this hc
     ·rw [List.mem_singleton.1 hz]; exact hc)
    refine ⟨m - 1, by omega, Gp.keep rfl ?_ fun ρ1 h => ⟨t + 1, Z0 ++ [u] ++ v :: Z2, by omega, g1, g2, by simp, h⟩⟩
    exact ⟨rfl, rfl, rfl, rfl, intEq en, trivial⟩
  ·simp at hj
   have hz0 : Z1 = [] := List.eq_nil_of_length_eq_zero (by omega)
   conv => whnf
   obtain ⟨g1, g2⟩ := stop (fun z hz => by rw [hz0] at hz; simp at hz)
   refine ⟨m - 1, by omega, Gp.keep rfl ?_ fun ρ1 h => ⟨t + 1, Z1 ++ v :: Z2, by omega, g1, g2, by simp, h⟩⟩
   exact ⟨rfl, rfl, rfl, rfl, intEq en, trivial⟩
 ·simp at hlt
  conv => whnf
  refine ⟨rfl, Z, ?_, hs, ?_⟩
  ·rwa [List.take_of_length_le (by omega)] at hp
  ·rw [List.drop_of_length_le (by omega)]; rfl
theorem half_i (s : Int) (h0 : 0 ≤ s) (h1 : s ≤ 4000000) : IntKind.i64.wrap ((IntKind.u64.wrap (IntKind.i64.wrap s)).fdiv (2 ^ (min (1 : Int).toNat IntKind.u64.bits))) = s / 2 := by
 rw [wrapI s (by omega) (by omega)]
 have e : IntKind.u64.wrap s = s := by
  unfold IntKind.wrap
  simp [IntKind.bits, IntKind.signed]
  omega
 have e2 : (2 : Int) ^ (min (1 : Int).toNat IntKind.u64.bits) = 2 := by decide
 rw [e, e2, Int.fdiv_eq_ediv_of_nonneg _ (by decide), wrapI _ (by omega) (by omega)]
theorem get_app {α : Type} {L X R D : List α} (hD : D = L ++ X ++ R) {k : Nat} {x : α} (h : X[k]? = some x) {n : Nat} (hn : n = L.length + k) : D[n]? = some x := by
 have hk := (List.getElem?_eq_some_iff.1 h).1
 subst hD hn
 rw [List.append_assoc, List.getElem?_append_right (by omega), show L.length + k - L.length = k from by omega, List.getElem?_append_left hk, h]
section
variable {P : Program} {H : List AObj} {i0 : Nat} {g : FuncId} {caps : List AVal} {ok : Ver → Prop} {cmp : Ver → Ver → Int}
def SymC (P : Program) (f : FuncId) (H : List AObj) (i0 : Nat) (g : FuncId) (caps : List AVal) (ok : Ver → Prop) (cmp : Ver → Ver → Int) (N : Nat) : Prop :=
 ∀ (L X Y R D : List Ver) (a m b : Int) (d : Nat), X.length + Y.length ≤ N → X ≠ [] → Y ≠ [] → (∀ x ∈ X, ok x) → (∀ x ∈ Y, ok x) → AscO cmp X → AscO cmp Y → D = L ++ X ++ Y ++ R → a = L.length → m = L.length + X.length → b = L.length + X.length + Y.length → d = D.length → d ≤ 1000000 →
  ACalls P f [.sl i0 d 0 d, .int .i64 a, .int .i64 m, .int .i64 b, .fn g caps] (H.set i0 (vO D)) (fun r H' => r = .tuple [] ∧ ∃ Z : List Ver, Z.Perm (X ++ Y) ∧ AscO cmp Z ∧ H' = H.set i0 (vO (L ++ Z ++ R)))
set_option maxHeartbeats 1000000 in
set_option maxRecDepth 20000 in
theorem sym_one (F : F_z1w P) (hi0 : i0 < H.length) (hg : CmpV P g caps ok cmp) (O : Orders cmp) (L Y R : List Ver) (x : Ver) (hY : Y ≠ []) (hx : ok x) (hok : ∀ y ∈ Y, ok y) (hs : AscO cmp Y) {a m b : Int} {d : Nat} {D : List Ver} (hD : D = L ++ x :: (Y ++ R))
  (ha : a = L.length) (hm : m = L.length + 1) (hb : b = L.length + 1 + Y.length) (hd : d = D.length) (hmax : d ≤ 1000000) :
  ACalls P F.id [.sl i0 d 0 d, .int .i64 a, .int .i64 m, .int .i64 b, .fn g caps] (H.set i0 (vO D)) (fun r H' => r = .tuple [] ∧ ∃ Z : List Ver, Z.Perm (x :: Y) ∧ AscO cmp Z ∧ H' = H.set i0 (vO (L ++ Z ++ R))) := by
 have hob : ∀ o : AObj, (H.set i0 o)[i0]? = some o := hset hi0
 have hdl := congrArg List.length hD
 simp only [List.length_append, List.length_cons] at hdl
 have tl : Nat.beq d (vsC D).length = true := by rw [vsC_length, ← hd]; exact Nat.beq_refl _
 refine acalls_of_body F.has ?_
 (conv => whnf); refine recT ((by rw [wrapI _ (by omega) (by omega)]; simp; omega)) ?_
 conv => whnf
 refine ⟨fun q ρ H1 => ∃ p r : Nat, p + q = r ∧ r ≤ Y.length ∧ (∀ k y, k < p → Y[k]? = some y → 0 ≤ cmp x y) ∧ (∀ k y, r ≤ k → Y[k]? = some y → 0 ≤ cmp y x) ∧ H1 = H.set i0 (vO D) ∧ Sv 220 [(0, .sl i0 d 0 d), (1, .int .i64 a), (4, .fn g caps), (10, .int .i64 (m + p)), (11, .int .i64 (m + r))] ρ, Y.length, [], ?_, ?_⟩
 ·refine ⟨0, Y.length, by omega, by omega, fun k y h => by omega, fun k y h h2 => ?_, rfl, Sv.intro rfl ⟨rfl, rfl, rfl, intEq (by omega), intEq (by omega), trivial⟩⟩
  have := (List.getElem?_eq_some_iff.1 h2).1
  omega
 rintro q ρ H1 ⟨p, r, hpq, hr, h1, h2, rfl, c, rfl⟩
 (conv => whnf); refine recA (fun hlt => ?_) (fun hlt => ?_)
 ·simp at hlt
  have eh := half_i (m + p + (m + r)) (by omega) (by omega)
  obtain ⟨h, hh⟩ : ∃ h : Nat, (m + (p : Int) + (m + r)) / 2 = m + h := ⟨((m + (p : Int) + (m + r)) / 2 - m).toNat, by omega⟩
  have hhp : p ≤ h ∧ h < r := by omega
  rw [hh] at eh
  have hy : Y[h]? = some Y[h] := List.getElem?_eq_getElem (by omega)
  have hyo := hok Y[h] (List.getElem_mem (by omega))
  generalize Y[h] = y at hy hyo
  have gy : (vsC D)[0 + (m + (h : Int)).toNat]? = some (verC y) := vsC_at (get_app (L := L ++ [x]) (X := Y) (R := R) (by rw [hD]; simp) hy (by simp; omega))
  have gx : (vsC D)[0 + a.toNat]? = some (verC x) := vsC_at (get_app (L := L) (X := [x]) (R := Y ++ R) (k := 0) (by rw [hD]; simp) rfl (by omega))
  rw [← eh] at gy
  (conv => whnf); refine And.intro (by decide) ?_
  (conv => whnf); refine recO (hob _) ?_
  (conv => whnf); refine recT (tl) ?_
  (conv => whnf); refine And.intro (by rw [eh]; omega) ?_
  (conv => whnf); refine recO (hob _) ?_
  (conv => whnf); refine recT (tl) ?_
  (conv => whnf); refine recO (gy) ?_
  (conv => whnf); refine recO (hob _) ?_
  (conv => whnf); refine recT (tl) ?_
  (conv => whnf); refine And.intro (by omega) ?_
  (conv => whnf); refine recO (hob _) ?_
  (conv => whnf); refine recT (tl) ?_
  (conv => whnf); refine recO (gx) ?_
  (conv => whnf); refine ⟨_, hg y x hyo hx _, ?_⟩
  (conv => whnf); refine recA (fun hc => ?_) (fun hc => ?_)
  ·simp at hc
   conv => whnf
   refine ⟨r - (h + 1), by omega, Gp.keep rfl ?_ fun ρ1 hh => ⟨h + 1, r, by omega, hr, ?_, h2, rfl, hh⟩⟩
   ·exact ⟨rfl, rfl, rfl, intEq (by rw [eh, wrapI _ (by omega) (by omega)]; omega), rfl, trivial⟩
   ·intro k z hk hz
    have hxy := O.anti _ _ hc
    rcases Nat.lt_or_ge k h with hkh | hkh
    ·exact O.trans _ _ _ (asc_get hs hkh hz hy) hxy
    ·have : k = h := by omega
     subst this
     rw [hy] at hz; cases hz; exact hxy
  ·simp at hc
   conv => whnf
   refine ⟨h - p, by omega, Gp.keep rfl ?_ fun ρ1 hh => ⟨p, h, by omega, by omega, h1, ?_, rfl, hh⟩⟩
   ·exact ⟨rfl, rfl, rfl, rfl, intEq eh, trivial⟩
   ·intro k z hk hz
    rcases Nat.lt_or_ge h k with hkh | hkh
    ·exact O.trans _ _ _ hc (asc_get hs hkh hy hz)
    ·have : k = h := by omega
     subst this
     rw [hy] at hz; cases hz; exact hc
 ·simp at hlt
  have hpr : r = p := by omega
  subst hpr
  have e1 : IntKind.i64.wrap (m + (r : Int) - 1) = a + r := by rw [wrapI _ (by omega) (by omega)]; omega
  conv => whnf
  refine ⟨fun q ρ H1 => ∃ t : Nat, t + q = r ∧ H1 = H.set i0 (vO (L ++ Y.take t ++ x :: (Y.drop t ++ R))) ∧ Sv 220 [(0, .sl i0 d 0 d), (10, .int .i64 (m + r)), (13, .int .i64 (a + t))] ρ, r, [], ?_, ?_⟩
  ·refine ⟨0, by omega, by rw [hD]; simp, Sv.intro rfl ⟨rfl, rfl, intEq (by omega), trivial⟩⟩
  rintro q ρ H1 ⟨t, htq, rfl, c, rfl⟩
  (conv => whnf); refine recA (fun hk => ?_) (fun hk => ?_)
  ·replace hk := of_decide_eq_true hk
   rw [e1] at hk
   have hy : Y[t]? = some Y[t] := List.getElem?_eq_getElem (by omega)
   generalize Y[t] = y at hy
   have hDe : L ++ Y.take t ++ x :: (Y.drop t ++ R) = (L ++ Y.take t) ++ x :: ([] ++ y :: (Y.drop (t + 1) ++ R)) := by rw [drop_cons hy]; rfl
   have ek : IntKind.i64.wrap (a + (t : Int) + 1) = a + ((t + 1 : Nat) : Int) := by rw [wrapI _ (by omega) (by omega)]; omega
   obtain ⟨tl, bA, bB, xa, xb, s1, tl2, x2, s2⟩ := swIJ (H := H) (i0 := i0) (p := a + (t : Int)) (q := IntKind.i64.wrap (a + (t : Int) + 1)) (d := d) hDe (by simp only [List.length_append, List.length_take]; omega) (by rw [ek]; simp only [List.length_append, List.length_take, List.length_nil]; omega) (by simp only [List.length_append, List.length_take, List.length_cons, List.length_drop]; omega)
   (conv => whnf); refine recO (hob _) ?_
   (conv => whnf); refine recT (tl) ?_
   (conv => whnf); refine And.intro (bB) ?_
   (conv => whnf); refine recO (hob _) ?_
   (conv => whnf); refine recT (tl) ?_
   (conv => whnf); refine recO (xb) ?_
   (conv => whnf); refine recO (hob _) ?_
   (conv => whnf); refine recT (tl) ?_
   (conv => whnf); refine And.intro (bA) ?_
   (conv => whnf); refine recO (hob _) ?_
   (conv => whnf); refine recT (tl) ?_
   (conv => whnf); refine recO (xa) ?_
   (conv => whnf); refine recO (hob _) ?_
   (conv => whnf); refine recT (tl) ?_
   (conv => whnf); refine And.intro (bA) ?_
   (conv => whnf); refine recO (hob _) ?_
   (conv => whnf); refine recT (tl) ?_
   (conv => whnf); refine recO (xa) ?_
   conv => whnf
   refine setOv s1 ?_
   (conv => whnf); refine recO (hob _) ?_
   (conv => whnf); refine recT (tl2) ?_
   (conv => whnf); refine And.intro (bB) ?_
   (conv => whnf); refine recO (hob _) ?_
   (conv => whnf); refine recT (tl2) ?_
   (conv => whnf); refine recO (x2) ?_
   conv => whnf
   refine setOv s2 ?_
   conv => whnf
   refine ⟨q - 1, by omega, Gp.keep rfl ?_ fun ρ1 hh => ⟨t + 1, by omega, ?_, hh⟩⟩
   ·exact ⟨rfl, rfl, intEq ek, trivial⟩
   ·rw [take_snoc hy]; simp
  ·replace hk := of_decide_eq_false hk
   rw [e1] at hk
   have htr : t = r := by omega
   subst htr
   conv => whnf
   exact ⟨rfl, _, perm_ins t, asc_ins hs h1 h2, by simp⟩
set_option maxHeartbeats 1000000 in
set_option maxRecDepth 20000 in
theorem sym_last (F : F_z1w P) (hi0 : i0 < H.length) (hg : CmpV P g caps ok cmp) (O : Orders cmp) (L X R : List Ver) (y : Ver) (hX : 2 ≤ X.length) (hy : ok y) (hok : ∀ x ∈ X, ok x) (hs : AscO cmp X) {a m b : Int} {d : Nat} {D : List Ver} (hD : D = L ++ X ++ y :: R)
  (ha : a = L.length) (hm : m = L.length + X.length) (hb : b = L.length + X.length + 1) (hd : d = D.length) (hmax : d ≤ 1000000) :
  ACalls P F.id [.sl i0 d 0 d, .int .i64 a, .int .i64 m, .int .i64 b, .fn g caps] (H.set i0 (vO D)) (fun r H' => r = .tuple [] ∧ ∃ Z : List Ver, Z.Perm (X ++ [y]) ∧ AscO cmp Z ∧ H' = H.set i0 (vO (L ++ Z ++ R))) := by
 have hob : ∀ o : AObj, (H.set i0 o)[i0]? = some o := hset hi0
 have hdl := congrArg List.length hD
 simp only [List.length_append, List.length_cons] at hdl
 have tl : Nat.beq d (vsC D).length = true := by rw [vsC_length, ← hd]; exact Nat.beq_refl _
 refine acalls_of_body F.has ?_
 (conv => whnf); refine recF ((by rw [wrapI _ (by omega) (by omega)]; simp; omega)) ?_
 (conv => whnf); refine recT ((by rw [wrapI _ (by omega) (by omega)]; simp; omega)) ?_
 conv => whnf
 refine ⟨fun q ρ H1 => ∃ p r : Nat, p + q = r ∧ r ≤ X.length ∧ (∀ k x, k < p → X[k]? = some x → 0 ≤ cmp y x) ∧ (∀ k x, r ≤ k → X[k]? = some x → 0 ≤ cmp x y) ∧ H1 = H.set i0 (vO D) ∧ Sv 220 [(0, .sl i0 d 0 d), (2, .int .i64 m), (4, .fn g caps), (14, .int .i64 (a + p)), (15, .int .i64 (a + r))] ρ, X.length, [], ?_, ?_⟩
 ·refine ⟨0, X.length, by omega, by omega, fun k y h => by omega, fun k y h h2 => ?_, rfl, Sv.intro rfl ⟨rfl, rfl, rfl, intEq (by omega), intEq (by omega), trivial⟩⟩
  have := (List.getElem?_eq_some_iff.1 h2).1
  omega
 rintro q ρ H1 ⟨p, r, hpq, hr, h1, h2, rfl, c, rfl⟩
 (conv => whnf); refine recA (fun hlt => ?_) (fun hlt => ?_)
 ·simp at hlt
  have eh := half_i (a + p + (a + r)) (by omega) (by omega)
  obtain ⟨h, hh⟩ : ∃ h : Nat, (a + (p : Int) + (a + r)) / 2 = a + h := ⟨((a + (p : Int) + (a + r)) / 2 - a).toNat, by omega⟩
  have hhp : p ≤ h ∧ h < r := by omega
  rw [hh] at eh
  have hx : X[h]? = some X[h] := List.getElem?_eq_getElem (by omega)
  have hxo := hok X[h] (List.getElem_mem (by omega))
  generalize X[h] = x at hx hxo
  have gx : (vsC D)[0 + (a + (h : Int)).toNat]? = some (verC x) := vsC_at (get_app (L := L) (X := X) (R := y :: R) hD hx (by omega))
  have gy : (vsC D)[0 + m.toNat]? = some (verC y) := vsC_at (get_app (L := L ++ X) (X := [y]) (R := R) (k := 0) (by rw [hD]; simp) rfl (by simp only [List.length_append]; omega))
  rw [← eh] at gx
  (conv => whnf); refine And.intro (by decide) ?_
  (conv => whnf); refine recO (hob _) ?_
  (conv => whnf); refine recT (tl) ?_
  (conv => whnf); refine And.intro (by omega) ?_
  (conv => whnf); refine recO (hob _) ?_
  (conv => whnf); refine recT (tl) ?_
  (conv => whnf); refine recO (gy) ?_
  (conv => whnf); refine recO (hob _) ?_
  (conv => whnf); refine recT (tl) ?_
  (conv => whnf); refine And.intro (by rw [eh]; omega) ?_
  (conv => whnf); refine recO (hob _) ?_
  (conv => whnf); refine recT (tl) ?_
  (conv => whnf); refine recO (gx) ?_
  (conv => whnf); refine ⟨_, hg y x hy hxo _, ?_⟩
  (conv => whnf); refine recA (fun hc => ?_) (fun hc => ?_)
  ·simp at hc
   conv => whnf
   refine ⟨r - (h + 1), by omega, Gp.keep rfl ?_ fun ρ1 hh => ⟨h + 1, r, by omega, hr, ?_, h2, rfl, hh⟩⟩
   ·exact ⟨rfl, rfl, rfl, intEq (by rw [eh, wrapI _ (by omega) (by omega)]; omega), rfl, trivial⟩
   ·intro k z hk hz
    rcases Nat.lt_or_ge k h with hkh | hkh
    ·exact O.trans _ _ _ (asc_get hs hkh hz hx) hc
    ·have : k = h := by omega
     subst this
     rw [hx] at hz; cases hz; exact hc
  ·simp at hc
   conv => whnf
   refine ⟨h - p, by omega, Gp.keep rfl ?_ fun ρ1 hh => ⟨p, h, by omega, by omega, h1, ?_, rfl, hh⟩⟩
   ·exact ⟨rfl, rfl, rfl, rfl, intEq eh, trivial⟩
   ·intro k z hk hz
    have hyx := O.anti _ _ hc
    rcases Nat.lt_or_ge h k with hkh | hkh
    ·exact O.trans _ _ _ hyx (asc_get hs hkh hx hz)
    ·have : k = h := by omega
     subst this
     rw [hx] at hz; cases hz; exact hyx
 ·simp at hlt
  have hpr : r = p := by omega
  subst hpr
  conv => whnf
  refine ⟨fun q ρ H1 => ∃ t : Nat, t = r + q ∧ t ≤ X.length ∧ H1 = H.set i0 (vO (L ++ X.take t ++ y :: (X.drop t ++ R))) ∧ Sv 220 [(0, .sl i0 d 0 d), (14, .int .i64 (a + r)), (17, .int .i64 (a + t))] ρ, X.length - r, [], ?_, ?_⟩
  ·refine ⟨X.length, by omega, Nat.le_refl _, by rw [hD]; simp, Sv.intro rfl ⟨rfl, rfl, intEq (by omega), trivial⟩⟩
  rintro q ρ H1 ⟨t, htq, htx, rfl, c, rfl⟩
  (conv => whnf); refine recA (fun hk => ?_) (fun hk => ?_)
  ·simp at hk
   obtain ⟨t, rfl⟩ : ∃ t', t = t' + 1 := ⟨t - 1, by omega⟩
   have hx : X[t]? = some X[t] := List.getElem?_eq_getElem (by omega)
   generalize X[t] = x at hx
   have hDe : L ++ X.take (t + 1) ++ y :: (X.drop (t + 1) ++ R) = (L ++ X.take t) ++ x :: ([] ++ y :: (X.drop (t + 1) ++ R)) := by rw [take_snoc hx]; simp
   have ek : IntKind.i64.wrap (a + ((t + 1 : Nat) : Int) - 1) = a + (t : Int) := by rw [wrapI _ (by omega) (by omega)]; omega
   obtain ⟨tl, bA, bB, xa, xb, s1, tl2, x2, s2⟩ := swJI (H := H) (i0 := i0) (p := IntKind.i64.wrap (a + ((t + 1 : Nat) : Int) - 1)) (q := a + ((t + 1 : Nat) : Int)) (d := d) hDe (by rw [ek]; simp only [List.length_append, List.length_take]; omega) (by simp only [List.length_append, List.length_take, List.length_nil]; omega) (by simp only [List.length_append, List.length_take, List.length_cons, List.length_drop]; omega)
   (conv => whnf); refine recO (hob _) ?_
   (conv => whnf); refine recT (tl) ?_
   (conv => whnf); refine And.intro (bA) ?_
   (conv => whnf); refine recO (hob _) ?_
   (conv => whnf); refine recT (tl) ?_
   (conv => whnf); refine recO (xa) ?_
   (conv => whnf); refine recO (hob _) ?_
   (conv => whnf); refine recT (tl) ?_
   (conv => whnf); refine And.intro (bB) ?_
   (conv => whnf); refine recO (hob _) ?_
   (conv => whnf); refine recT (tl) ?_
   (conv => whnf); refine recO (xb) ?_
   (conv => whnf); refine recO (hob _) ?_
   (conv => whnf); refine recT (tl) ?_
   (conv => whnf); refine And.intro (bB) ?_
   (conv => whnf); refine recO (hob _) ?_
   (conv => whnf); refine recT (tl) ?_
   (conv => whnf); refine recO (xb) ?_
   conv => whnf
   refine setOv s1 ?_
   (conv => whnf); refine recO (hob _) ?_
   (conv => whnf); refine recT (tl2) ?_
   (conv => whnf); refine And.intro (bA) ?_
   (conv => whnf); refine recO (hob _) ?_
   (conv => whnf); refine recT (tl2) ?_
   (conv => whnf); refine recO (x2) ?_
   conv => whnf
   refine setOv s2 ?_
   conv => whnf
   refine ⟨q - 1, by omega, Gp.keep rfl ?_ fun ρ1 hh => ⟨t, by omega, by omega, ?_, hh⟩⟩
   ·exact ⟨rfl, rfl, intEq ek, trivial⟩
   ·rw [drop_cons hx]; simp
  ·simp at hk
   have htr : t = r := by omega
   subst htr
   conv => whnf
   exact ⟨rfl, _, (perm_ins t).trans (List.perm_append_comm (l₁ := [y])), asc_ins hs h1 h2, by simp⟩
end
section
variable {P : Program} {H : List AObj} {i0 : Nat} {g : FuncId} {caps : List AVal} {ok : Ver → Prop} {cmp : Ver → Ver → Int}
def Ble (cmp : Ver → Ver → Int) (X Y : List Ver) (i j : Int) : Prop := ∃ x y, X[i.toNat]? = some x ∧ Y[j.toNat]? = some y ∧ 0 ≤ cmp y x
set_option maxHeartbeats 4000000 in
set_option maxRecDepth 20000 in
theorem sym_step (F : F_z1w P) (hi0 : i0 < H.length) (hg : CmpV P g caps ok cmp) (O : Orders cmp) (N : Nat) (ih : SymC P F.id H i0 g caps ok cmp N)
  (L X Y R D : List Ver) (a m b : Int) (d : Nat) (hN : X.length + Y.length = N + 1) (hX2 : 2 ≤ X.length) (hY2 : 2 ≤ Y.length) (hokX : ∀ x ∈ X, ok x) (hokY : ∀ x ∈ Y, ok x) (hsX : AscO cmp X) (hsY : AscO cmp Y) (hD : D = L ++ X ++ Y ++ R) (ha : a = L.length) (hm : m = L.length + X.length) (hb : b = L.length + X.length + Y.length) (hd : d = D.length) (hmax : d ≤ 1000000) :
  ACalls P F.id [.sl i0 d 0 d, .int .i64 a, .int .i64 m, .int .i64 b, .fn g caps] (H.set i0 (vO D)) (fun r H' => r = .tuple [] ∧ ∃ Z : List Ver, Z.Perm (X ++ Y) ∧ AscO cmp Z ∧ H' = H.set i0 (vO (L ++ Z ++ R))) := by
 have hob : ∀ o : AObj, (H.set i0 o)[i0]? = some o := hset hi0
 have hdl := congrArg List.length hD
 simp only [List.length_append] at hdl
 have tl : Nat.beq d (vsC D).length = true := by rw [vsC_length, ← hd]; exact Nat.beq_refl _
 have emid := half_i (a + b) (by omega) (by omega)
 obtain ⟨mid, hmid⟩ : ∃ mid : Int, mid = (a + b) / 2 := ⟨_, rfl⟩
 rw [← hmid] at emid
 obtain ⟨n, hn⟩ : ∃ n : Int, n = mid + m := ⟨_, rfl⟩
 have en : IntKind.i64.wrap (mid + m) = n := by rw [wrapI _ (by omega) (by omega), hn]
 have enb : IntKind.i64.wrap (n - b) = n - b := wrapI _ (by omega) (by omega)
 have ep : IntKind.i64.wrap (n - 1) = n - 1 := wrapI _ (by omega) (by omega)
 
 have gX : ∀ (i : Int), a ≤ i → i < m → ∃ x, X[(i - a).toNat]? = some x ∧ ok x ∧ (vsC D)[0 + i.toNat]? = some (verC x) := fun i h1 h2 => by
  have hx : X[(i - a).toNat]? = some X[(i - a).toNat] := List.getElem?_eq_getElem (by omega)
  exact ⟨_, hx, hokX _ (List.getElem_mem _), vsC_at (get_app (L := L) (X := X) (R := Y ++ R) (by rw [hD]; simp) hx (by omega))⟩
 have gY : ∀ (i : Int), m ≤ i → i < b → ∃ x, Y[(i - m).toNat]? = some x ∧ ok x ∧ (vsC D)[0 + i.toNat]? = some (verC x) := fun i h1 h2 => by
  have hx : Y[(i - m).toNat]? = some Y[(i - m).toNat] := List.getElem?_eq_getElem (by omega)
  exact ⟨_, hx, hokY _ (List.getElem_mem _), vsC_at (get_app (L := L ++ X) (X := Y) (R := R) hD hx (by simp only [List.length_append]; omega))⟩
 refine acalls_of_body F.has ?_
 (conv => whnf); refine recF ((by rw [wrapI _ (by omega) (by omega)]; simp; omega)) ?_
 (conv => whnf); refine recF ((by rw [wrapI _ (by omega) (by omega)]; simp; omega)) ?_
 (conv => whnf); refine And.intro (by decide) ?_
 have key : ∀ s0 r0 : Int, (s0 = a ∧ r0 = m ∧ m ≤ mid) ∨ (s0 = n - b ∧ r0 = mid ∧ mid < m) → s0 ≤ r0 ∧ a ≤ s0 ∧ r0 ≤ m ∧ (∀ i, s0 ≤ i → i < r0 → m ≤ n - 1 - i ∧ n - 1 - i < b) := by
  intro s0 r0 h
  rcases h with ⟨rfl, rfl, h⟩ | ⟨rfl, rfl, h⟩ <;> refine ⟨by omega, by omega, by omega, fun i h1 h2 => by omega⟩
 (conv => whnf)
 rw [emid, en]
 (conv => whnf); refine recA (fun hmm => ?_) (fun hmm => ?_)
 ·replace hmm := of_decide_eq_true hmm
  have hk : (n - b = a ∧ mid = m ∧ m ≤ mid) ∨ (n - b = n - b ∧ mid = mid ∧ mid < m) := .inr ⟨rfl, rfl, hmm⟩
  (conv => whnf)
  rw [enb]
  obtain ⟨k1, k2, k3, k4⟩ := key ((n - b)) (mid) hk
  conv => whnf
  rw [ep]
  refine ⟨fun q ρ H1 => ∃ st r : Int, (n - b) ≤ st ∧ st ≤ r ∧ r ≤ mid ∧ (r - st).toNat = q ∧ (st = (n - b) ∨ Ble cmp X Y (st - 1 - a) (n - st - m)) ∧ (r = mid ∨ Ble cmp Y X (n - 1 - r - m) (r - a)) ∧ H1 = H.set i0 (vO D) ∧
   Sv 220 [(0, .sl i0 d 0 d), (1, .int .i64 a), (2, .int .i64 m), (3, .int .i64 b), (4, .fn g caps), (18, .int .i64 mid), (19, .int .i64 n), (20, .int .i64 st), (21, .int .i64 r), (22, .int .i64 (n - 1))] ρ, ((mid) - ((n - b))).toNat, [], ?_, ?_⟩
  ·exact ⟨(n - b), mid, Int.le_refl _, k1, Int.le_refl _, rfl, .inl rfl, .inl rfl, rfl, Sv.intro rfl ⟨rfl, rfl, rfl, rfl, rfl, rfl, rfl, rfl, rfl, rfl, trivial⟩⟩
  rintro q0 ρ H1 ⟨st, r, g1, g2, g3, g4, b1, b2, rfl, c, rfl⟩
  (conv => whnf); refine recA (fun hlt => ?_) (fun hlt => ?_)
  ·simp at hlt
   have eh := half_i (st + r) (by omega) (by omega)
   obtain ⟨c, hc⟩ : ∃ c : Int, c = (st + r) / 2 := ⟨_, rfl⟩
   rw [← hc] at eh
   have epc : IntKind.i64.wrap (n - 1 - c) = n - 1 - c := wrapI _ (by omega) (by omega)
   have ec1 : IntKind.i64.wrap (c + 1) = c + 1 := wrapI _ (by omega) (by omega)
   obtain ⟨j1, j2⟩ := k4 c (by omega) (by omega)
   obtain ⟨x, x1, x2, x3⟩ := gX c (by omega) (by omega)
   obtain ⟨y, y1, y2, y3⟩ := gY (n - 1 - c) j1 j2
   (conv => whnf); refine And.intro (by decide) ?_
   (conv => whnf)
   rw [eh, epc]
   (conv => whnf); refine recO (hob _) ?_
   (conv => whnf); refine recT (tl) ?_
   (conv => whnf); refine And.intro (by omega) ?_
   (conv => whnf); refine recO (hob _) ?_
   (conv => whnf); refine recT (tl) ?_
   (conv => whnf); refine recO (y3) ?_
   (conv => whnf); refine recO (hob _) ?_
   (conv => whnf); refine recT (tl) ?_
   (conv => whnf); refine And.intro (by omega) ?_
   (conv => whnf); refine recO (hob _) ?_
   (conv => whnf); refine recT (tl) ?_
   (conv => whnf); refine recO (x3) ?_
   (conv => whnf); refine ⟨_, hg y x y2 x2 _, ?_⟩
   (conv => whnf); refine recA (fun hcc => ?_) (fun hcc => ?_)
   ·simp at hcc
    conv => whnf
    refine ⟨(r - (c + 1)).toNat, by omega, Gp.keep rfl ?_ fun ρ1 hh => ⟨c + 1, r, by omega, by omega, g3, rfl, .inr ⟨x, y, ?_, ?_, hcc⟩, b2, rfl, hh⟩⟩
    ·exact ⟨rfl, rfl, rfl, rfl, rfl, rfl, rfl, intEq ec1, rfl, rfl, trivial⟩
    ·rw [show c + 1 - 1 - a = c - a from by omega]; exact x1
    ·rw [show n - (c + 1) - m = n - 1 - c - m from by omega]; exact y1
   ·simp at hcc
    conv => whnf
    refine ⟨(c - st).toNat, by omega, Gp.keep rfl ?_ fun ρ1 hh => ⟨st, c, g1, by omega, by omega, rfl, b1, .inr ⟨y, x, y1, x1, O.anti _ _ hcc⟩, rfl, hh⟩⟩
    exact ⟨rfl, rfl, rfl, rfl, rfl, rfl, rfl, rfl, rfl, rfl, trivial⟩
  ·simp at hlt
   have hrs : st = r := by omega
   subst hrs
   have een : IntKind.i64.wrap (n - st) = n - st := wrapI _ (by omega) (by omega)
   obtain ⟨p, hp⟩ : ∃ p : Nat, st = a + p := ⟨(st - a).toNat, by omega⟩
   obtain ⟨q, hq⟩ : ∃ q : Nat, n - st = m + q := ⟨(n - st - m).toNat, by omega⟩
   have hpX : p ≤ X.length := by omega
   have hqY : q ≤ Y.length := by omega
   have hq1 : p = 0 ∨ Y.length ≤ q ∨ ∃ x y, X[p - 1]? = some x ∧ Y[q]? = some y ∧ 0 ≤ cmp y x := by
    rcases b1 with b1 | ⟨x, y, c1, c2, c3⟩
    ·rcases hk with ⟨v1, v2, v3⟩ | ⟨v1, v2, v3⟩
     ·exact .inl (by omega)
     ·exact .inr (.inl (by omega))
    ·by_cases hp0 : p = 0
     ·exact .inl hp0
     ·rw [show (st - 1 - a).toNat = p - 1 from by omega] at c1
      rw [show (n - st - m).toNat = q from by omega] at c2
      exact .inr (.inr ⟨x, y, c1, c2, c3⟩)
   have hq2 : X.length ≤ p ∨ q = 0 ∨ ∃ x y, X[p]? = some x ∧ Y[q - 1]? = some y ∧ 0 ≤ cmp x y := by
    rcases b2 with b2 | ⟨y, x, c2, c1, c3⟩
    ·rcases hk with ⟨v1, v2, v3⟩ | ⟨v1, v2, v3⟩
     ·exact .inl (by omega)
     ·exact .inr (.inl (by omega))
    ·by_cases hq0 : q = 0
     ·exact .inr (.inl hq0)
     ·rw [show (st - a).toNat = p from by omega] at c1
      rw [show (n - 1 - st - m).toNat = q - 1 from by omega] at c2
      exact .inr (.inr ⟨x, y, c1, c2, c3⟩)
   have hD1 : L ++ X.take p ++ X.drop p ++ Y.take q ++ (Y.drop q ++ R) = D := by
    rw [hD]; simp only [List.append_assoc]
    rw [← List.append_assoc (Y.take q), List.take_append_drop, ← List.append_assoc (X.take p), List.take_append_drop]
   (conv => whnf); refine recA (fun hc1 => ?_) (fun hc1 => ?_)
   focus ((conv => whnf); refine recA (fun hc2 => ?_) (fun hc2 => ?_))
   focus
    replace hc1 := of_decide_eq_true hc1
    replace hc2 := of_decide_eq_true hc2
    try rw [een] at hc2
    (conv => whnf)
    rw [een]
    (conv => whnf); refine ACalls.mono (rotate_spec F.z1t hi0 (.fn g caps) (L ++ X.take p) (X.drop p) (Y.take q) (Y.drop q ++ R) (a := st) (m := m) (b := n - st) (d := d) (by simp only [List.length_append, List.length_take]; omega) (by simp only [List.length_append, List.length_take, List.length_drop]; omega) (by simp only [List.length_append, List.length_take, List.length_drop]; omega) (fun h => by have := congrArg List.length h; rw [List.length_drop, List.length_nil] at this; omega) (fun h => by have := congrArg List.length h; rw [List.length_take, List.length_nil] at this; omega) (by rw [hD1]; exact hd) hmax hD1.symm) ?_
    rintro r' H' ⟨rfl, rfl⟩
   rotate_left
   focus
    replace hc1 := of_decide_eq_true hc1
    replace hc2 := of_decide_eq_false hc2
    try rw [een] at hc2
    have hz : Y.take q = [] := by rw [show q = 0 from by omega]; rfl
    have hD2 : D = L ++ X.take p ++ Y.take q ++ X.drop p ++ (Y.drop q ++ R) := by rw [← hD1, hz]; simp only [List.append_nil]
    rw [hD2]
   rotate_left
   focus
    replace hc1 := of_decide_eq_false hc1
    have hz : X.drop p = [] := List.drop_of_length_le (by omega)
    have hD2 : D = L ++ X.take p ++ Y.take q ++ X.drop p ++ (Y.drop q ++ R) := by rw [← hD1, hz]; simp only [List.append_nil]
    rw [hD2]
   all_goals
    (conv => whnf); refine recA (fun hc3 => ?_) (fun hc3 => ?_)
    focus ((conv => whnf); refine recA (fun hc4 => ?_) (fun hc4 => ?_))
    focus
     replace hc3 := of_decide_eq_true hc3
     replace hc4 := of_decide_eq_true hc4
     (conv => whnf); refine ACalls.mono (ih L (X.take p) (Y.take q) (X.drop p ++ (Y.drop q ++ R)) _ a st mid d (by rw [List.length_take, List.length_take]; omega) (fun h => by have := congrArg List.length h; rw [List.length_take, List.length_nil] at this; omega) (fun h => by have := congrArg List.length h; rw [List.length_take, List.length_nil] at this; omega) (fun x hx => hokX x (List.mem_of_mem_take hx)) (fun x hx => hokY x (List.mem_of_mem_take hx)) (List.Pairwise.take hsX) (List.Pairwise.take hsY) (by simp only [List.append_assoc]) ha (by rw [List.length_take]; omega) (by rw [List.length_take, List.length_take]; omega) (by simp only [List.length_append, List.length_take, List.length_drop]; omega) hmax) ?_
     rintro r H' ⟨rfl, Z1, p1, a1, rfl⟩
    rotate_left
    focus
     replace hc3 := of_decide_eq_true hc3
     replace hc4 := of_decide_eq_false hc4
     have hz : Y.take q = [] := by rw [show q = 0 from by omega]; rfl
     obtain ⟨Z1, hZ1⟩ : ∃ Z1, X.take p ++ Y.take q = Z1 := ⟨_, rfl⟩
     have p1 : Z1.Perm (X.take p ++ Y.take q) := by rw [hZ1]
     have a1 : AscO cmp Z1 := by rw [← hZ1, hz, List.append_nil]; exact List.Pairwise.take hsX
     have hh : L ++ X.take p ++ Y.take q ++ X.drop p ++ (Y.drop q ++ R) = L ++ Z1 ++ (X.drop p ++ (Y.drop q ++ R)) := by rw [← hZ1]; simp only [List.append_assoc]
     rw [hh]
    rotate_left
    focus
     replace hc3 := of_decide_eq_false hc3
     have hz : X.take p = [] := by rw [show p = 0 from by omega]; rfl
     obtain ⟨Z1, hZ1⟩ : ∃ Z1, X.take p ++ Y.take q = Z1 := ⟨_, rfl⟩
     have p1 : Z1.Perm (X.take p ++ Y.take q) := by rw [hZ1]
     have a1 : AscO cmp Z1 := by rw [← hZ1, hz, List.nil_append]; exact List.Pairwise.take hsY
     have hh : L ++ X.take p ++ Y.take q ++ X.drop p ++ (Y.drop q ++ R) = L ++ Z1 ++ (X.drop p ++ (Y.drop q ++ R)) := by rw [← hZ1]; simp only [List.append_assoc]
     rw [hh]
    all_goals
     (conv => whnf); refine recA (fun hc5 => ?_) (fun hc5 => ?_)
     focus ((conv => whnf); refine recA (fun hc6 => ?_) (fun hc6 => ?_))
     focus
      replace hc5 := of_decide_eq_true hc5
      try rw [een] at hc5
      replace hc6 := of_decide_eq_true hc6
      try rw [een] at hc6
      try rw [een]
      (conv => whnf); refine ACalls.mono (ih (L ++ Z1) (X.drop p) (Y.drop q) R _ mid (n - st) b d (by rw [List.length_drop, List.length_drop]; omega) (fun h => by have := congrArg List.length h; rw [List.length_drop, List.length_nil] at this; omega) (fun h => by have := congrArg List.length h; rw [List.length_drop, List.length_nil] at this; omega) (fun x hx => hokX x (List.mem_of_mem_drop hx)) (fun x hx => hokY x (List.mem_of_mem_drop hx)) (List.Pairwise.drop hsX) (List.Pairwise.drop hsY) (by simp only [List.append_assoc]) (by rw [List.length_append, p1.length_eq]; simp only [List.length_append, List.length_take]; omega) (by rw [List.length_append, p1.length_eq]; simp only [List.length_append, List.length_take, List.length_drop]; omega) (by rw [List.length_append, p1.length_eq]; simp only [List.length_append, List.length_take, List.length_drop]; omega) (by have := p1.length_eq; simp only [List.length_append, List.length_take] at this; simp only [List.length_append, List.length_drop]; omega) hmax) ?_
      rintro r H' ⟨rfl, Z2, p2, a2, rfl⟩
     rotate_left
     focus
      replace hc5 := of_decide_eq_true hc5
      try rw [een] at hc5
      replace hc6 := of_decide_eq_false hc6
      try rw [een] at hc6
      have hz : Y.drop q = [] := List.drop_of_length_le (by omega)
      obtain ⟨Z2, hZ2⟩ : ∃ Z2, X.drop p ++ Y.drop q = Z2 := ⟨_, rfl⟩
      have p2 : Z2.Perm (X.drop p ++ Y.drop q) := by rw [hZ2]
      have a2 : AscO cmp Z2 := by rw [← hZ2, hz, List.append_nil]; exact List.Pairwise.drop hsX
      have hh : L ++ Z1 ++ (X.drop p ++ (Y.drop q ++ R)) = L ++ Z1 ++ Z2 ++ R := by rw [← hZ2]; simp only [List.append_assoc]
      rw [hh]
     rotate_left
     focus
      replace hc5 := of_decide_eq_false hc5
      try rw [een] at hc5
      have hz : X.drop p = [] := List.drop_of_length_le (by omega)
      obtain ⟨Z2, hZ2⟩ : ∃ Z2, X.drop p ++ Y.drop q = Z2 := ⟨_, rfl⟩
      have p2 : Z2.Perm (X.drop p ++ Y.drop q) := by rw [hZ2]
      have a2 : AscO cmp Z2 := by rw [← hZ2, hz, List.nil_append]; exact List.Pairwise.drop hsY
      have hh : L ++ Z1 ++ (X.drop p ++ (Y.drop q ++ R)) = L ++ Z1 ++ Z2 ++ R := by rw [← hZ2]; simp only [List.append_assoc]
      rw [hh]
     all_goals
      conv => whnf
      have hm := merge_split O hsX hsY hq1 hq2 p1 p2 a1 a2
      exact ⟨rfl, Z1 ++ Z2, hm.2, hm.1, by simp only [List.append_assoc]⟩
 ·replace hmm := of_decide_eq_false hmm
  have hk : (a = a ∧ m = m ∧ m ≤ mid) ∨ (a = n - b ∧ m = mid ∧ mid < m) := .inl ⟨rfl, rfl, by omega⟩
  obtain ⟨k1, k2, k3, k4⟩ := key (a) (m) hk
  conv => whnf
  rw [ep]
  refine ⟨fun q ρ H1 => ∃ st r : Int, a ≤ st ∧ st ≤ r ∧ r ≤ m ∧ (r - st).toNat = q ∧ (st = a ∨ Ble cmp X Y (st - 1 - a) (n - st - m)) ∧ (r = m ∨ Ble cmp Y X (n - 1 - r - m) (r - a)) ∧ H1 = H.set i0 (vO D) ∧
   Sv 220 [(0, .sl i0 d 0 d), (1, .int .i64 a), (2, .int .i64 m), (3, .int .i64 b), (4, .fn g caps), (18, .int .i64 mid), (19, .int .i64 n), (20, .int .i64 st), (21, .int .i64 r), (22, .int .i64 (n - 1))] ρ, ((m) - (a)).toNat, [], ?_, ?_⟩
  ·exact ⟨a, m, Int.le_refl _, k1, Int.le_refl _, rfl, .inl rfl, .inl rfl, rfl, Sv.intro rfl ⟨rfl, rfl, rfl, rfl, rfl, rfl, rfl, rfl, rfl, rfl, trivial⟩⟩
  rintro q0 ρ H1 ⟨st, r, g1, g2, g3, g4, b1, b2, rfl, c, rfl⟩
  (conv => whnf); refine recA (fun hlt => ?_) (fun hlt => ?_)
  ·simp at hlt
   have eh := half_i (st + r) (by omega) (by omega)
   obtain ⟨c, hc⟩ : ∃ c : Int, c = (st + r) / 2 := ⟨_, rfl⟩
   rw [← hc] at eh
   have epc : IntKind.i64.wrap (n - 1 - c) = n - 1 - c := wrapI _ (by omega) (by omega)
   have ec1 : IntKind.i64.wrap (c + 1) = c + 1 := wrapI _ (by omega) (by omega)
   obtain ⟨j1, j2⟩ := k4 c (by omega) (by omega)
   obtain ⟨x, x1, x2, x3⟩ := gX c (by omega) (by omega)
   obtain ⟨y, y1, y2, y3⟩ := gY (n - 1 - c) j1 j2
   (conv => whnf); refine And.intro (by decide) ?_
   (conv => whnf)
   rw [eh, epc]
   (conv => whnf); refine recO (hob _) ?_
   (conv => whnf); refine recT (tl) ?_
   (conv => whnf); refine And.intro (by omega) ?_
   (conv => whnf); refine recO (hob _) ?_
   (conv => whnf); refine recT (tl) ?_
   (conv => whnf); refine recO (y3) ?_
   (conv => whnf); refine recO (hob _) ?_
   (conv => whnf); refine recT (tl) ?_
   (conv => whnf); refine And.intro (by omega) ?_
   (conv => whnf); refine recO (hob _) ?_
   (conv => whnf); refine recT (tl) ?_
   (conv => whnf); refine recO (x3) ?_
   (conv => whnf); refine ⟨_, hg y x y2 x2 _, ?_⟩
   (conv => whnf); refine recA (fun hcc => ?_) (fun hcc => ?_)
   ·simp at hcc
    conv => whnf
    refine ⟨(r - (c + 1)).toNat, by omega, Gp.keep rfl ?_ fun ρ1 hh => ⟨c + 1, r, by omega, by omega, g3, rfl, .inr ⟨x, y, ?_, ?_, hcc⟩, b2, rfl, hh⟩⟩
    ·exact ⟨rfl, rfl, rfl, rfl, rfl, rfl, rfl, intEq ec1, rfl, rfl, trivial⟩
    ·rw [show c + 1 - 1 - a = c - a from by omega]; exact x1
    ·rw [show n - (c + 1) - m = n - 1 - c - m from by omega]; exact y1
   ·simp at hcc
    conv => whnf
    refine ⟨(c - st).toNat, by omega, Gp.keep rfl ?_ fun ρ1 hh => ⟨st, c, g1, by omega, by omega, rfl, b1, .inr ⟨y, x, y1, x1, O.anti _ _ hcc⟩, rfl, hh⟩⟩
    exact ⟨rfl, rfl, rfl, rfl, rfl, rfl, rfl, rfl, rfl, rfl, trivial⟩
  ·simp at hlt
   have hrs : st = r := by omega
   subst hrs
   have een : IntKind.i64.wrap (n - st) = n - st := wrapI _ (by omega) (by omega)
   obtain ⟨p, hp⟩ : ∃ p : Nat, st = a + p := ⟨(st - a).toNat, by omega⟩
   obtain ⟨q, hq⟩ : ∃ q : Nat, n - st = m + q := ⟨(n - st - m).toNat, by omega⟩
   have hpX : p ≤ X.length := by omega
   have hqY : q ≤ Y.length := by omega
   have hq1 : p = 0 ∨ Y.length ≤ q ∨ ∃ x y, X[p - 1]? = some x ∧ Y[q]? = some y ∧ 0 ≤ cmp y x := by
    rcases b1 with b1 | ⟨x, y, c1, c2, c3⟩
    ·rcases hk with ⟨v1, v2, v3⟩ | ⟨v1, v2, v3⟩
     ·exact .inl (by omega)
     ·exact .inr (.inl (by omega))
    ·by_cases hp0 : p = 0
     ·exact .inl hp0
     ·rw [show (st - 1 - a).toNat = p - 1 from by omega] at c1
      rw [show (n - st - m).toNat = q from by omega] at c2
      exact .inr (.inr ⟨x, y, c1, c2, c3⟩)
   have hq2 : X.length ≤ p ∨ q = 0 ∨ ∃ x y, X[p]? = some x ∧ Y[q - 1]? = some y ∧ 0 ≤ cmp x y := by
    rcases b2 with b2 | ⟨y, x, c2, c1, c3⟩
    ·rcases hk with ⟨v1, v2, v3⟩ | ⟨v1, v2, v3⟩
     ·exact .inl (by omega)
     ·exact .inr (.inl (by omega))
    ·by_cases hq0 : q = 0
     ·exact .inr (.inl hq0)
     ·rw [show (st - a).toNat = p from by omega] at c1
      rw [show (n - 1 - st - m).toNat = q - 1 from by omega] at c2
      exact .inr (.inr ⟨x, y, c1, c2, c3⟩)
   have hD1 : L ++ X.take p ++ X.drop p ++ Y.take q ++ (Y.drop q ++ R) = D := by
    rw [hD]; simp only [List.append_assoc]
    rw [← List.append_assoc (Y.take q), List.take_append_drop, ← List.append_assoc (X.take p), List.take_append_drop]
   (conv => whnf); refine recA (fun hc1 => ?_) (fun hc1 => ?_)
   focus ((conv => whnf); refine recA (fun hc2 => ?_) (fun hc2 => ?_))
   focus
    replace hc1 := of_decide_eq_true hc1
    replace hc2 := of_decide_eq_true hc2
    try rw [een] at hc2
    (conv => whnf)
    rw [een]
    (conv => whnf); refine ACalls.mono (rotate_spec F.z1t hi0 (.fn g caps) (L ++ X.take p) (X.drop p) (Y.take q) (Y.drop q ++ R) (a := st) (m := m) (b := n - st) (d := d) (by simp only [List.length_append, List.length_take]; omega) (by simp only [List.length_append, List.length_take, List.length_drop]; omega) (by simp only [List.length_append, List.length_take, List.length_drop]; omega) (fun h => by have := congrArg List.length h; rw [List.length_drop, List.length_nil] at this; omega) (fun h => by have := congrArg List.length h; rw [List.length_take, List.length_nil] at this; omega) (by rw [hD1]; exact hd) hmax hD1.symm) ?_
    rintro r' H' ⟨rfl, rfl⟩
   rotate_left
   focus
    replace hc1 := of_decide_eq_true hc1
    replace hc2 := of_decide_eq_false hc2
    try rw [een] at hc2
    have hz : Y.take q = [] := by rw [show q = 0 from by omega]; rfl
    have hD2 : D = L ++ X.take p ++ Y.take q ++ X.drop p ++ (Y.drop q ++ R) := by rw [← hD1, hz]; simp only [List.append_nil]
    rw [hD2]
   rotate_left
   focus
    replace hc1 := of_decide_eq_false hc1
    have hz : X.drop p = [] := List.drop_of_length_le (by omega)
    have hD2 : D = L ++ X.take p ++ Y.take q ++ X.drop p ++ (Y.drop q ++ R) := by rw [← hD1, hz]; simp only [List.append_nil]
    rw [hD2]
   all_goals
    (conv => whnf); refine recA (fun hc3 => ?_) (fun hc3 => ?_)
    focus ((conv => whnf); refine recA (fun hc4 => ?_) (fun hc4 => ?_))
    focus
     replace hc3 := of_decide_eq_true hc3
     replace hc4 := of_decide_eq_true hc4
     (conv => whnf); refine ACalls.mono (ih L (X.take p) (Y.take q) (X.drop p ++ (Y.drop q ++ R)) _ a st mid d (by rw [List.length_take, List.length_take]; omega) (fun h => by have := congrArg List.length h; rw [List.length_take, List.length_nil] at this; omega) (fun h => by have := congrArg List.length h; rw [List.length_take, List.length_nil] at this; omega) (fun x hx => hokX x (List.mem_of_mem_take hx)) (fun x hx => hokY x (List.mem_of_mem_take hx)) (List.Pairwise.take hsX) (List.Pairwise.take hsY) (by simp only [List.append_assoc]) ha (by rw [List.length_take]; omega) (by rw [List.length_take, List.length_take]; omega) (by simp only [List.length_append, List.length_take, List.length_drop]; omega) hmax) ?_
     rintro r H' ⟨rfl, Z1, p1, a1, rfl⟩
    rotate_left
    focus
     replace hc3 := of_decide_eq_true hc3
     replace hc4 := of_decide_eq_false hc4
     have hz : Y.take q = [] := by rw [show q = 0 from by omega]; rfl
     obtain ⟨Z1, hZ1⟩ : ∃ Z1, X.take p ++ Y.take q = Z1 := ⟨_, rfl⟩
     have p1 : Z1.Perm (X.take p ++ Y.take q) := by rw [hZ1]
     have a1 : AscO cmp Z1 := by rw [← hZ1, hz, List.append_nil]; exact List.Pairwise.take hsX
     have hh : L ++ X.take p ++ Y.take q ++ X.drop p ++ (Y.drop q ++ R) = L ++ Z1 ++ (X.drop p ++ (Y.drop q ++ R)) := by rw [← hZ1]; simp only [List.append_assoc]
     rw [hh]
    rotate_left
    focus
     replace hc3 := of_decide_eq_false hc3
     have hz : X.take p = [] := by rw [show p = 0 from by omega]; rfl
     obtain ⟨Z1, hZ1⟩ : ∃ Z1, X.take p ++ Y.take q = Z1 := ⟨_, rfl⟩
     have p1 : Z1.Perm (X.take p ++ Y.take q) := by rw [hZ1]
     have a1 : AscO cmp Z1 := by rw [← hZ1, hz, List.nil_append]; exact List.Pairwise.take hsY
     have hh : L ++ X.take p ++ Y.take q ++ X.drop p ++ (Y.drop q ++ R) = L ++ Z1 ++ (X.drop p ++ (Y.drop q ++ R)) := by rw [← hZ1]; simp only [List.append_assoc]
     rw [hh]
    all_goals
     (conv => whnf); refine recA (fun hc5 => ?_) (fun hc5 => ?_)
     focus ((conv => whnf); refine recA (fun hc6 => ?_) (fun hc6 => ?_))
     focus
      replace hc5 := of_decide_eq_true hc5
      try rw [een] at hc5
      replace hc6 := of_decide_eq_true hc6
      try rw [een] at hc6
      try rw [een]
      (conv => whnf); refine ACalls.mono (ih (L ++ Z1) (X.drop p) (Y.drop q) R _ mid (n - st) b d (by rw [List.length_drop, List.length_drop]; omega) (fun h => by have := congrArg List.length h; rw [List.length_drop, List.length_nil] at this; omega) (fun h => by have := congrArg List.length h; rw [List.length_drop, List.length_nil] at this; omega) (fun x hx => hokX x (List.mem_of_mem_drop hx)) (fun x hx => hokY x (List.mem_of_mem_drop hx)) (List.Pairwise.drop hsX) (List.Pairwise.drop hsY) (by simp only [List.append_assoc]) (by rw [List.length_append, p1.length_eq]; simp only [List.length_append, List.length_take]; omega) (by rw [List.length_append, p1.length_eq]; simp only [List.length_append, List.length_take, List.length_drop]; omega) (by rw [List.length_append, p1.length_eq]; simp only [List.length_append, List.length_take, List.length_drop]; omega) (by have := p1.length_eq; simp only [List.length_append, List.length_take] at this; simp only [List.length_append, List.length_drop]; omega) hmax) ?_
      rintro r H' ⟨rfl, Z2, p2, a2, rfl⟩
     rotate_left
     focus
      replace hc5 := of_decide_eq_true hc5
      try rw [een] at hc5
      replace hc6 := of_decide_eq_false hc6
      try rw [een] at hc6
      have hz : Y.drop q = [] := List.drop_of_length_le (by omega)
      obtain ⟨Z2, hZ2⟩ : ∃ Z2, X.drop p ++ Y.drop q = Z2 := ⟨_, rfl⟩
      have p2 : Z2.Perm (X.drop p ++ Y.drop q) := by rw [hZ2]
      have a2 : AscO cmp Z2 := by rw [← hZ2, hz, List.append_nil]; exact List.Pairwise.drop hsX
      have hh : L ++ Z1 ++ (X.drop p ++ (Y.drop q ++ R)) = L ++ Z1 ++ Z2 ++ R := by rw [← hZ2]; simp only [List.append_assoc]
      rw [hh]
     rotate_left
     focus
      replace hc5 := of_decide_eq_false hc5
      try rw [een] at hc5
      have hz : X.drop p = [] := List.drop_of_length_le (by omega)
      obtain ⟨Z2, hZ2⟩ : ∃ Z2, X.drop p ++ Y.drop q = Z2 := ⟨_, rfl⟩
      have p2 : Z2.Perm (X.drop p ++ Y.drop q) := by rw [hZ2]
      have a2 : AscO cmp Z2 := by rw [← hZ2, hz, List.nil_append]; exact List.Pairwise.drop hsY
      have hh : L ++ Z1 ++ (X.drop p ++ (Y.drop q ++ R)) = L ++ Z1 ++ Z2 ++ R := by rw [← hZ2]; simp only [List.append_assoc]
      rw [hh]
     all_goals
      conv => whnf
      have hm := merge_split O hsX hsY hq1 hq2 p1 p2 a1 a2
      exact ⟨rfl, Z1 ++ Z2, hm.2, hm.1, by simp only [List.append_assoc]⟩
end
section
variable {P : Program} {H : List AObj} {i0 : Nat} {g : FuncId} {caps : List AVal} {ok : Ver → Prop} {cmp : Ver → Ver → Int}
theorem sym_all (F : F_z1w P) (hi0 : i0 < H.length) (hg : CmpV P g caps ok cmp) (O : Orders cmp) : ∀ N, SymC P F.id H i0 g caps ok cmp N
 | 0 => by
  intro L X Y R D a m b d hN hX
  exact absurd (List.eq_nil_of_length_eq_zero (by omega)) hX
 | N + 1 => by
  have ih := sym_all F hi0 hg O N
  intro L X Y R D a m b d hN hX hY hoX hoY hsX hsY hD ha hm hb hd hmax
  have px := List.length_pos_iff.2 hX
  have py := List.length_pos_iff.2 hY
  by_cases h1 : X.length = 1
  ·obtain ⟨x, rfl⟩ := List.length_eq_one_iff.1 h1
   exact sym_one F hi0 hg O L Y R x hY (hoX x (by simp)) hoY hsY (by rw [hD]; simp) ha (by simpa using hm) (by simpa using hb) hd hmax
  by_cases h2 : Y.length = 1
  ·obtain ⟨y, rfl⟩ := List.length_eq_one_iff.1 h2
   exact sym_last F hi0 hg O L X R y (by omega) (hoY y (by simp)) hoX hsX (by rw [hD]; simp) ha hm (by simpa using hb) hd hmax
  by_cases h3 : X.length + Y.length ≤ N
  ·exact ih L X Y R D a m b d h3 hX hY hoX hoY hsX hsY hD ha hm hb hd hmax
  ·exact sym_step F hi0 hg O N ih L X Y R D a m b d (by omega) (by omega) (by omega) hoX hoY hsX hsY hD ha hm hb hd hmax
theorem asc_nil : AscO cmp ([] : List Ver) := List.Pairwise.nil
set_option maxHeartbeats 4000000 in
set_option maxRecDepth 20000 in
theorem stable_spec (F : F_z1u P) (hi0 : i0 < H.length) (hg : CmpV P g caps ok cmp) (O : Orders cmp) (D : List Ver) {n : Nat} (hn : n = D.length) (h40 : D.length < 40) (hok : ∀ x ∈ D, ok x) :
  ACalls P F.id [.sl i0 n 0 n, .int .i64 n, .fn g caps] (H.set i0 (vO D)) (fun r H' => r = .tuple [] ∧ ∃ Z : List Ver, Z.Perm D ∧ AscO cmp Z ∧ H' = H.set i0 (vO Z)) := by
 refine acalls_of_body F.has ?_
 conv => whnf
 refine ⟨fun q ρ H1 => ∃ Z X : List Ver, q = 40 - Z.length ∧ (Z = [] ∨ Z.length = 20) ∧ (Z ++ X).Perm D ∧ AscO cmp Z ∧ H1 = H.set i0 (vO (Z ++ X)) ∧ Sv 63 [(0, .sl i0 n 0 n), (1, .int .i64 n), (2, .fn g caps), (6, .int .i64 20), (7, .int .i64 Z.length), (8, .int .i64 (Z.length + 20))] ρ, 40, [], ?_, ?_⟩
 ·exact ⟨[], D, rfl, .inl rfl, .refl _, asc_nil, rfl, Sv.intro rfl ⟨rfl, rfl, rfl, rfl, rfl, rfl, trivial⟩⟩
 rintro q ρ H1 ⟨Z, X, hq, hz, hp, hs, rfl, c, rfl⟩
 have hl := hp.length_eq
 rw [List.length_append] at hl
 have okX : ∀ x ∈ X, ok x := fun x hx => hok x (hp.mem_iff.1 (List.mem_append_right _ hx))
 have okZ : ∀ x ∈ Z, ok x := fun x hx => hok x (hp.mem_iff.1 (List.mem_append_left _ hx))
 (conv => whnf); refine recA (fun hle => ?_) (fun hle => ?_)
 ·simp at hle
  have hz0 : Z = [] := by
   rcases hz with h | h
   ·exact h
   ·omega
  subst hz0
  simp only [List.length_nil] at *
  (conv => whnf); refine ACalls.mono (insertion_spec F.z1q hi0 hg O [] (X.take 20) (X.drop 20) (a := ((0 : Nat) : Int)) (b := ((0 : Nat) : Int) + 20) (d := n) rfl (by simp only [List.length_take, List.length_nil]; omega) (fun x hx => okX x (List.mem_of_mem_take hx)) (by simp only [List.nil_append, List.take_append_drop]; omega) (by omega) (by simp only [List.nil_append, List.take_append_drop])) ?_
  rintro r H' ⟨rfl, Z, p1, a1, rfl⟩
  have hz20 := p1.length_eq
  rw [List.length_take] at hz20
  conv => whnf
  refine ⟨40 - Z.length, by omega, Gp.keep rfl ?_ fun ρ1 h => ⟨Z, X.drop 20, rfl, .inr (by omega), ?_, a1, by rw [List.nil_append], h⟩⟩
  ·exact ⟨rfl, rfl, rfl, rfl, intEq (by omega), intEq (by rw [wrapI _ (by omega) (by omega)]; omega), trivial⟩
  ·exact (p1.append_right _).trans (by rw [List.take_append_drop]; exact hp)
 ·simp at hle
  (conv => whnf); refine ACalls.mono (insertion_spec F.z1q hi0 hg O Z X [] (a := Z.length) (b := n) (d := n) rfl (by omega) okX (by simp only [List.append_nil, List.length_append]; omega) (by omega) (by simp)) ?_
  rintro r H' ⟨rfl, X2, p1, a1, rfl⟩
  have hx2 := p1.length_eq
  have okX2 : ∀ x ∈ X2, ok x := fun x hx => okX x (p1.mem_iff.1 hx)
  have hp2 : (Z ++ X2).Perm D := (p1.append_left _).trans hp
  rw [List.append_nil]
  conv => whnf
  refine ⟨fun q ρ H1 => ∃ (bs : Int) (W : List Ver), W.Perm D ∧ ((bs = 20 ∧ q = 1 ∧ W = Z ++ X2) ∨ (bs = 40 ∧ q = 0 ∧ AscO cmp W)) ∧ H1 = H.set i0 (vO W) ∧ Sv 63 [(0, .sl i0 n 0 n), (1, .int .i64 n), (2, .fn g caps), (6, .int .i64 bs)] ρ, 1, [], ?_, ?_⟩
  ·exact ⟨20, Z ++ X2, hp2, .inl ⟨rfl, rfl, rfl⟩, rfl, Sv.intro rfl ⟨rfl, rfl, rfl, rfl, trivial⟩⟩
  rintro q ρ H1 ⟨bs, W, hpW, hw, rfl, c, rfl⟩
  (conv => whnf); refine recA (fun hbs => ?_) (fun hbs => ?_)
  ·simp at hbs
   obtain ⟨rfl, rfl, rfl⟩ : bs = 20 ∧ q = 1 ∧ W = Z ++ X2 := by
    rcases hw with h | ⟨h, _, _⟩
    ·exact h
    ·omega
   have hz20 : Z.length = 20 := by
    rcases hz with h | h
    ·rw [h] at hle; simp at hle; omega
    ·exact h
   conv => whnf
   refine ⟨fun q ρ H1 => H1 = H.set i0 (vO (Z ++ X2)) ∧ Sv 63 [(0, .sl i0 n 0 n), (1, .int .i64 n), (2, .fn g caps), (6, .int .i64 20), (7, .int .i64 0), (8, .int .i64 40)] ρ, 0, [], ?_, ?_⟩
   ·exact ⟨rfl, Sv.intro rfl ⟨rfl, rfl, rfl, rfl, rfl, intEq (by decide), trivial⟩⟩
   rintro q ρ H1 ⟨rfl, c, rfl⟩
   (conv => whnf); refine recF (by simp; omega) ?_
   (conv => whnf); refine recT ((by rw [wrapI _ (by omega) (by omega)]; simp; omega)) ?_
   have em : IntKind.i64.wrap ((0 : Int) + 20) = 20 := wrapI _ (by omega) (by omega)
   (conv => whnf)
   rw [em]
   (conv => whnf); refine ACalls.mono (sym_all F.z1w hi0 hg O (Z.length + X2.length) [] Z X2 [] _ 0 20 n n (Nat.le_refl _) (fun h => by rw [h] at hz20; simp at hz20) (fun h => by rw [h] at hx2; simp at hx2; omega) okZ okX2 hs a1 (by simp) rfl (by simp only [List.length_nil]; omega) (by simp only [List.length_nil]; omega) (by rw [List.length_append]; omega) (by omega)) ?_
   rintro r H' ⟨rfl, W, p3, a3, rfl⟩
   conv => whnf
   refine ⟨0, by omega, Gp.keep rfl ?_ fun ρ1 h => ⟨40, W, p3.trans hp2, .inr ⟨rfl, rfl, a3⟩, by simp, h⟩⟩
   exact ⟨rfl, rfl, rfl, intEq (by decide), trivial⟩
  ·simp at hbs
   conv => whnf
   refine ⟨rfl, W, hpW, ?_, rfl⟩
   rcases hw with ⟨h1, _, h⟩ | ⟨_, _, h⟩
   ·rw [h]
    rcases hz with hz | hz
    ·rw [hz, List.nil_append]; exact a1
    ·have : X2 = [] := List.eq_nil_of_length_eq_zero (by omega)
     rw [this, List.append_nil]; exact hs
   ·exact h
set_option maxRecDepth 20000 in
theorem sortStable_spec (F : F_z1o P) (hi0 : i0 < H.length) (hg : CmpV P g caps ok cmp) (O : Orders cmp) (D : List Ver) {n : Nat} (hn : n = D.length) (h40 : D.length < 40) (hok : ∀ x ∈ D, ok x) :
  ACalls P F.id [.sl i0 n 0 n, .fn g caps] (H.set i0 (vO D)) (fun r H' => r = .tuple [] ∧ ∃ Z : List Ver, Z.Perm D ∧ AscO cmp Z ∧ H' = H.set i0 (vO Z)) := by
 have hob : ∀ o : AObj, (H.set i0 o)[i0]? = some o := hset hi0
 refine acalls_of_body F.has ?_
 (conv => whnf); refine recO (hob _) ?_
 (conv => whnf); refine recT (by rw [vsC_length, ← hn]; exact Nat.beq_refl _) ?_
 (conv => whnf); refine ACalls.mono (stable_spec F.z1u hi0 hg O D hn h40 hok) ?_
 rintro r H' ⟨rfl, Z, h⟩
 conv => whnf
 exact ⟨rfl, Z, h⟩
end
def keyV (s : Sou) (row : List V) : List V := s.key.map fun n => row.getD (colIdx s.cols n).toNat zV
theorem keyV_length (s : Sou) (row : List V) : (keyV s row).length = s.key.length := by rw [keyV, List.length_map]
theorem key_at {s : Sou} (hs : s.good) {k : Nat} {n : ByteArray} (h : s.key[k]? = some n) : 0 ≤ colIdx s.cols n ∧ (colIdx s.cols n).toNat < s.cols.length := by
 have h1 := List.any_eq_false.1 hs.keys n (List.mem_of_getElem? h)
 have h0 : 0 ≤ colIdx s.cols n := by simpa using h1
 exact ⟨h0, colIdx_lt s.cols n h0⟩
theorem keyV_at {s : Sou} {row : List V} {k : Nat} {n : ByteArray} (h : s.key[k]? = some n) : (keyV s row)[k]? = some (row.getD (colIdx s.cols n).toNat zV) := by
 rw [keyV, List.getElem?_map, h]; rfl
theorem row_at {s : Sou} (hs : s.good) {row : List V} (hr : s.cols.length ≤ row.length) {k : Nat} {n : ByteArray} (h : s.key[k]? = some n) : row[(colIdx s.cols n).toNat]? = some (row.getD (colIdx s.cols n).toNat zV) := by
 have := (key_at hs h).2
 rw [List.getD_eq_getElem?_getD, List.getElem?_eq_getElem (by omega)]; rfl
set_option maxRecDepth 20000 in
theorem hkey_spec {P : Program} (F : F_z0o P) (s : Sou) (hs : s.good) (v : Ver) (hv : s.cols.length ≤ v.rc.row.length) (H : List AObj) :
  ACalls P F.id [.agg (souC s), .agg (verC v)] H (fun r H' => r = .list false 3 (vC (keyV s v.rc.row)) ∧ H' = H) := by
 have hkl := hs.klen
 refine ACalls.pure (by simp [souC_closed, verC_closed]) (acalls_of_body F.has ?_)
 conv => whnf
 refine ⟨fun m ρ H1 => ∃ k : Nat, k + m = s.key.length ∧ H1 = [.arr 7 [souC s], .arr 5 [verC v], .arr 3 (vC ((keyV s v.rc.row).take k))] ∧ Sv 29 [(2, .ptr 0 1 0 0), (3, .ptr 1 1 0 0), (5, .sl 2 k 0 k), (9, .list false 1 (sC s.key)), (10, .int .i64 s.key.length), (11, .int .i64 k)] ρ, s.key.length, [(5, 3)], ?_, ?_⟩
 ·exact ⟨0, by omega, rfl, Sv.intro rfl ⟨rfl, rfl, rfl, rfl, intEq (by rw [sC_length]), rfl, trivial⟩⟩
 rintro m ρ H1 ⟨k, hk, rfl, d, rfl⟩
 have hkv : ((keyV s v.rc.row).take k).length = k := by rw [List.length_take, keyV_length]; omega
 (conv => whnf); refine recA (fun hlt => ?_) (fun hlt => ?_)
 ·simp at hlt
  have hn : s.key[k]? = some s.key[k] := List.getElem?_eq_getElem hlt
  generalize s.key[k] = n at hn
  (conv => whnf); refine And.intro (by omega) ?_
  (conv => whnf); refine recO (sC_at hn) ?_
  (conv => whnf); refine ⟨_, schema_Index_spec F.z15 false s.cols (by have := hs.ten; omega) n _, ?_⟩
  (conv => whnf); refine And.intro ((key_at hs hn).1) ?_
  (conv => whnf); refine recO (vC_at (row_at hs hv hn)) ?_
  (conv => whnf); refine recT (by rw [vC_length, hkv]; exact Nat.beq_refl _) ?_
  (conv => whnf); refine And.intro (⟨roomMul (by simp; omega) (by omega), roomB_le (by simp; omega), rfl, by rw [vC_length, hkv]⟩) ?_
  repeat ((conv => whnf); refine And.intro rfl ?_)
  conv => whnf
  have hcn : vC ((keyV s v.rc.row).take k) ++ [valC (v.rc.row.getD (colIdx s.cols n).toNat zV)] = vC ((keyV s v.rc.row).take (k + 1)) := by rw [take_snoc (keyV_at hn), vC_append]; rfl
  have hl2 : (vC ((keyV s v.rc.row).take k) ++ [valC (v.rc.row.getD (colIdx s.cols n).toNat zV)]).length = k + 1 := by rw [List.length_append, vC_length, hkv]; rfl
  refine ⟨m - 1, by omega, Gp.keep rfl ?_ fun ρ1 h => ⟨k + 1, by omega, ?_, h⟩⟩
  ·exact ⟨rfl, rfl, slEq hl2 hl2, rfl, rfl, intEq (wrapI _ (by omega) (by omega)), trivial⟩
  ·rw [← hcn]; rfl
 ·simp at hlt
  have hkn : k = (keyV s v.rc.row).length := by rw [keyV_length]; omega
  conv => whnf
  refine pubFxH (es := vC (keyV s v.rc.row)) (es' := vC ((keyV s v.rc.row).take k)) rfl (by rw [hkn, List.take_length]) (by rw [vC_length]; exact hkn) (by rw [vC_length]; exact hkn) (pureEs_vC _)
def cmpVr (s : Sou) (a b : Ver) : Int := orI [rowsCmp (keyV s a.rc.row) (keyV s b.rc.row), cmpI (timeV s a.rc) (timeV s b.rc), cmpI a.rc.seq b.rc.seq, cmpI a.file b.file, cmpI a.place b.place]
def okV (s : Sou) (v : Ver) : Prop := fitsV s v.rc = 0
theorem okV_len {s : Sou} (hs : s.good) {v : Ver} (h : okV s v) : v.rc.row.length ≤ 10 ∧ s.cols.length ≤ v.rc.row.length := by
 have := fits_len h
 have := hs.ten
 omega
set_option maxRecDepth 20000 in
theorem sorted_1_spec {P : Program} (F : F_z0r P) (s : Sou) (hs : s.good) : CmpV P F.id [.cptr (souC s) 0] (okV s) (cmpVr s) := by
 intro x y hx hy H
 have lx := okV_len hs hx
 have ly := okV_len hs hy
 refine ACalls.pure rfl (acalls_of_body F.has ?_)
 (conv => whnf); refine ⟨_, hkey_spec F.z0o s hs x lx.2 _, ?_⟩
 (conv => whnf); refine ⟨_, hkey_spec F.z0o s hs y ly.2 _, ?_⟩
 (conv => whnf); refine ⟨_, value_CompareRows_spec F.z22 false false (keyV s x.rc.row) (keyV s y.rc.row) (by rw [keyV_length]; have := hs.klen; omega) _, ?_⟩
 (conv => whnf); refine ⟨_, wTime_spec F.z44 s hs.ok x.rc (by omega) _, ?_⟩
 (conv => whnf); refine ⟨_, wTime_spec F.z44 s hs.ok y.rc (by omega) _, ?_⟩
 (conv => whnf); refine ⟨_, cmpCompare_int_spec F.z0a (timeV s x.rc) (timeV s y.rc) _, ?_⟩
 (conv => whnf); refine ⟨_, cmpCompare_int_spec F.z0a x.rc.seq y.rc.seq _, ?_⟩
 (conv => whnf); refine ⟨_, cmpCompare_int_spec F.z0a x.file y.file _, ?_⟩
 (conv => whnf); refine ⟨_, cmpCompare_int_spec F.z0a x.place y.place _, ?_⟩
 (conv => whnf); refine ⟨_, cmpOr_spec F.z0c [rowsCmp (keyV s x.rc.row) (keyV s y.rc.row), cmpI (timeV s x.rc) (timeV s y.rc), cmpI x.rc.seq y.rc.seq, cmpI x.file y.file, cmpI x.place y.place] (by simp) _, ?_⟩
 repeat ((conv => whnf); refine And.intro rfl ?_)
 conv => whnf
 exact .closed _ rfl
structure PreC {α : Type} (c : α → α → Int) : Prop where
 anti : ∀ x y, c y x = - c x y
 tr : ∀ x y z, 0 ≤ c y x → 0 ≤ c z y → 0 ≤ c z x
def lexC {α : Type} (c d : α → α → Int) (x y : α) : Int := if c x y = 0 then d x y else c x y
theorem PreC.lex {α : Type} {c d : α → α → Int} (hc : PreC c) (hd : PreC d) : PreC (lexC c d) where
 anti x y := by
  have h1 := hc.anti x y
  have h2 := hd.anti x y
  unfold lexC
  split <;> split <;> omega
 tr x y z := by
  have a1 := hc.anti x y
  have a2 := hc.anti y z
  have a3 := hc.anti x z
  have t1 := hc.tr x y z
  have t2 := hc.tr y z x
  have t3 := hc.tr z x y
  have t4 := hc.tr z y x
  have t5 := hc.tr y x z
  have t6 := hc.tr x z y
  have t7 := hd.tr x y z
  unfold lexC
  split <;> split <;> split <;> intro h1 h2 <;> omega
theorem preC_I {α : Type} (f : α → Int) : PreC fun x y => cmpI (f x) (f y) where
 anti x y := by unfold cmpI; split <;> split <;> (try split) <;> omega
 tr x y z := by unfold cmpI; repeat' split; all_goals omega
theorem cmpI_zero (a b : Int) : cmpI a b = 0 ↔ a = b := by unfold cmpI; split <;> (try split) <;> omega
theorem rows_tr (x y z : List V) (h1 : 0 ≤ rowsCmp y x) (h2 : 0 ≤ rowsCmp z y) : 0 ≤ rowsCmp z x := by
 by_cases e1 : rowsCmp y x = 0
 ·rw [(rowsCmp_zero _ _).1 e1] at h2; exact h2
 by_cases e2 : rowsCmp z y = 0
 ·rw [(rowsCmp_zero _ _).1 e2]; exact h1
 have t := rowsCmp_trans x y z (by rw [rowsCmp_anti]; omega) (by rw [rowsCmp_anti]; omega)
 rw [rowsCmp_anti]; omega
theorem preC_R {α : Type} (f : α → List V) : PreC fun x y => rowsCmp (f x) (f y) where
 anti x y := rowsCmp_anti _ _
 tr x y z := rows_tr _ _ _
theorem orI_two (a : Int) (l : List Int) : orI (a :: l) = if a = 0 then orI l else a := rfl
theorem cmpVr_lex (s : Sou) : cmpVr s = lexC (fun x y => rowsCmp (keyV s x.rc.row) (keyV s y.rc.row)) (lexC (fun x y => cmpI (timeV s x.rc) (timeV s y.rc)) (lexC (fun x y => cmpI x.rc.seq y.rc.seq) (lexC (fun x y => cmpI x.file y.file) fun x y => cmpI x.place y.place))) := by
 funext x y
 unfold cmpVr lexC
 rw [orI_two, orI_two, orI_two, orI_two, orI_two, orI]
 repeat' split
 all_goals first | rfl | exact Eq.symm (by assumption)
theorem preC_V (s : Sou) : PreC (cmpVr s) := by
 rw [cmpVr_lex]
 exact (preC_R fun v : Ver => keyV s v.rc.row).lex ((preC_I fun v : Ver => timeV s v.rc).lex ((preC_I fun v : Ver => v.rc.seq).lex ((preC_I fun v : Ver => v.file).lex (preC_I fun v : Ver => v.place))))
theorem orders_V (s : Sou) : Orders (cmpVr s) where
 anti x y h := by rw [(preC_V s).anti x y]; omega
 trans := (preC_V s).tr
theorem cmpVr_zero {s : Sou} {x y : Ver} : cmpVr s x y = 0 ↔ keyV s x.rc.row = keyV s y.rc.row ∧ timeV s x.rc = timeV s y.rc ∧ x.rc.seq = y.rc.seq ∧ x.file = y.file ∧ x.place = y.place := by
 rw [← rowsCmp_zero, ← cmpI_zero (timeV s x.rc), ← cmpI_zero x.rc.seq, ← cmpI_zero x.file, ← cmpI_zero x.place]
 unfold cmpVr
 rw [orI_two, orI_two, orI_two, orI_two, orI_two, orI]
 repeat' split
 all_goals constructor
 all_goals intro h
 all_goals omega
end Go.AW
namespace Go.AW
universe u
variable {β : Type u}
def insO (cmp : β → β → Int) (x : β) : List β → List β
 | [] => [x]
 | y :: r => if 0 ≤ cmp y x then x :: y :: r else y :: insO cmp x r
def isort (cmp : β → β → Int) : List β → List β
 | [] => []
 | x :: l => insO cmp x (isort cmp l)
variable {cmp : β → β → Int}
theorem insO_perm (x : β) : ∀ l, (insO cmp x l).Perm (x :: l)
 | [] => .refl _
 | y :: r => by
  rw [insO]
  split
  ·exact .refl _
  ·exact ((insO_perm x r).cons y).trans (.swap x y r)
theorem isort_perm : ∀ l : List β, (isort cmp l).Perm l
 | [] => .refl _
 | x :: l => (insO_perm x _).trans ((isort_perm l).cons x)
theorem isort_length (l : List β) : (isort cmp l).length = l.length := (isort_perm l).length_eq
theorem insO_asc (O : Orders cmp) (x : β) : ∀ l, AscO cmp l → AscO cmp (insO cmp x l)
 | [], _ => List.pairwise_singleton _ _
 | y :: r, h => by
  rw [insO]
  obtain ⟨h1, h2⟩ := List.pairwise_cons.1 h
  split
  ·rename_i hy
   refine List.pairwise_cons.2 ⟨fun z hz => ?_, h⟩
   rcases List.mem_cons.1 hz with rfl | hz
   ·exact hy
   ·exact O.trans _ _ _ hy (h1 z hz)
  ·rename_i hy
   refine List.pairwise_cons.2 ⟨fun z hz => ?_, insO_asc O x r h2⟩
   rcases List.mem_cons.1 ((insO_perm x r).mem_iff.1 hz) with rfl | hz
   ·exact O.anti _ _ (by omega)
   ·exact h1 z hz
theorem isort_asc (O : Orders cmp) : ∀ l, AscO cmp (isort cmp l)
 | [] => List.Pairwise.nil
 | x :: l => insO_asc O x _ (isort_asc O l)
theorem asc_eq : ∀ {l m : List β}, l.Perm m → AscO cmp l → AscO cmp m → (∀ x ∈ l, ∀ y ∈ l, 0 ≤ cmp x y → 0 ≤ cmp y x → x = y) → l = m
 | [], m, hp, _, _, _ => (List.nil_perm.1 hp).symm
 | x :: l, [], hp, _, _, _ => absurd hp.length_eq (by simp)
 | x :: l, y :: m, hp, hl, hm, hz => by
  obtain ⟨l1, l2⟩ := List.pairwise_cons.1 hl
  obtain ⟨m1, m2⟩ := List.pairwise_cons.1 hm
  have hxy : x = y := by
   have hx : x ∈ y :: m := hp.mem_iff.1 (List.mem_cons_self ..)
   have hy : y ∈ x :: l := hp.mem_iff.2 (List.mem_cons_self ..)
   rcases List.mem_cons.1 hx with e | hx
   ·exact e
   rcases List.mem_cons.1 hy with e | hy2
   ·exact e.symm
   exact hz x (List.mem_cons_self ..) y hy (m1 x hx) (l1 y hy2)
  subst hxy
  rw [asc_eq (List.Perm.cons_inv hp) l2 m2 fun a ha b hb => hz a (List.mem_cons_of_mem _ ha) b (List.mem_cons_of_mem _ hb)]
theorem isort_eq (O : Orders cmp) {l m : List β} (hp : m.Perm l) (hm : AscO cmp m) (hz : ∀ x ∈ l, ∀ y ∈ l, 0 ≤ cmp x y → 0 ≤ cmp y x → x = y) : m = isort cmp l :=
 asc_eq (hp.trans (isort_perm l).symm) hm (isort_asc O l) fun x hx y hy => hz x (hp.mem_iff.1 hx) y (hp.mem_iff.1 hy)
theorem isort_congr (O : Orders cmp) {l m : List β} (hp : m.Perm l) (hz : ∀ x ∈ l, ∀ y ∈ l, 0 ≤ cmp x y → 0 ≤ cmp y x → x = y) : isort cmp m = isort cmp l :=
 isort_eq O ((isort_perm m).trans hp) (isort_asc O m) hz
variable [Draws]
attribute [local irreducible] ACalls
def Uq (s : Sou) (l : List Ver) : Prop := ∀ x ∈ l, ∀ y ∈ l, cmpVr s x y = 0 → x = y
def srtV (s : Sou) (l : List Ver) : List Ver := isort (cmpVr s) l
theorem Uq.zz {s : Sou} {l : List Ver} (h : Uq s l) : ∀ x ∈ l, ∀ y ∈ l, 0 ≤ cmpVr s x y → 0 ≤ cmpVr s y x → x = y := fun x hx y hy h1 h2 =>
 h x hx y hy (by have := (preC_V s).anti x y; omega)
set_option maxRecDepth 20000 in
theorem CloneVer_own {P : Program} (F : F_z1f P) (ex : Bool) (cs : List Ver) (hl : cs.length ≤ 1000000) (H : List AObj) :
  ACalls P F.id [.list ex 5 (vsC cs)] H (fun r H' => (r = .nil ∧ cs = [] ∧ H' = H) ∨ (r = .sl H.length cs.length 0 cs.length ∧ H' = H ++ [vO cs])) := by
 have h0 : ACalls P F.id [.list ex 5 (vsC cs)] [] (fun r H1 => (r = .nil ∧ cs = [] ∧ H1 = []) ∨ (r = .sl 0 cs.length 0 cs.length ∧ H1 = [vO cs])) := by
  refine acalls_of_body F.has ?_
  (conv => whnf); refine And.intro ((fun h => ?_)) ?_
  ·conv => whnf
   exact .inl ⟨rfl, by simpa [vsC] using h, rfl⟩
  ·(conv => whnf); refine And.intro (⟨roomMul (by simp [vsC_length]; omega) (by omega), roomB_le (by simp [vsC_length]; omega), .inr rfl⟩) ?_
   conv => whnf
   refine .inr ⟨slEq ?_ ?_, rfl⟩
   ·simp [vsC_length]
   ·simp [vsC_length]
 refine ACalls.lift (by simp [AVal.closed, AVal.isPure]) h0 ?_
 rintro r H1 (⟨rfl, h1, rfl⟩ | ⟨rfl, rfl⟩)
 ·exact ⟨[], .nil, [], .closed _ rfl, List.nodup_nil, rfl, fun k id h => by simp at h, .inl ⟨rfl, h1, by simp⟩⟩
 ·exact ⟨[0], _, [vO cs], pubSl (k := 0) rfl (Nat.add_zero _).symm rfl rfl, by simp, rfl, fun k id hk => by
   cases k with
   | zero => simp at hk; subst hk; exact ⟨rfl, 5, _, rfl, pureEs_vsC _⟩
   | succ k => simp at hk, .inr ⟨rfl, rfl⟩⟩
section
variable {P : Program} {H : List AObj}
theorem insertion_nil (F : F_z1q P) (f : AVal) : ACalls P F.id [.nil, .int .i64 0, .int .i64 0, f] H (fun r H' => r = .tuple [] ∧ H' = H) := by
 refine acalls_of_body F.has ?_
 conv => whnf
 refine ⟨fun m ρ H1 => H1 = H ∧ Sv 53 [(0, .nil), (1, .int .i64 0), (2, .int .i64 0), (3, f), (8, .int .i64 1)] ρ, 0, [], ?_, ?_⟩
 ·exact ⟨rfl, Sv.intro rfl ⟨rfl, rfl, rfl, rfl, intEq (by decide), trivial⟩⟩
 rintro m ρ H1 ⟨rfl, d, rfl⟩
 conv => whnf
 exact ⟨rfl, rfl⟩
theorem stable_nil (F : F_z1u P) (f : AVal) : ACalls P F.id [.nil, .int .i64 0, f] H (fun r H' => r = .tuple [] ∧ H' = H) := by
 refine acalls_of_body F.has ?_
 conv => whnf
 refine ⟨fun m ρ H1 => H1 = H ∧ Sv 63 [(0, .nil), (1, .int .i64 0), (2, f), (6, .int .i64 20), (7, .int .i64 0), (8, .int .i64 20)] ρ, 0, [], ?_, ?_⟩
 ·exact ⟨rfl, Sv.intro rfl ⟨rfl, rfl, rfl, rfl, rfl, rfl, trivial⟩⟩
 rintro m ρ H1 ⟨rfl, d, rfl⟩
 (conv => whnf); refine ACalls.use (insertion_nil F.z1q f) ?_
 conv => whnf
 refine ⟨fun m ρ H2 => H2 = H1 ∧ Sv 63 [(0, .nil), (1, .int .i64 0), (2, f), (6, .int .i64 20)] ρ, 0, [], ?_, ?_⟩
 ·exact ⟨rfl, Sv.intro rfl ⟨rfl, rfl, rfl, rfl, trivial⟩⟩
 rintro m ρ H2 ⟨rfl, d, rfl⟩
 conv => whnf
 exact ⟨rfl, rfl⟩
theorem sortStable_nil (F : F_z1o P) (f : AVal) : ACalls P F.id [.nil, f] H (fun r H' => r = .tuple [] ∧ H' = H) := by
 refine acalls_of_body F.has ?_
 (conv => whnf); refine ACalls.use (stable_nil F.z1u f) ?_
 conv => whnf
 exact ⟨rfl, rfl⟩
end
set_option maxRecDepth 20000 in
theorem sorted_raw {P : Program} (F : F_z0q P) (s : Sou) (hs : s.good) (ex : Bool) (vs : List Ver) (h40 : vs.length < 40) (hok : ∀ v ∈ vs, okV s v) (hU : Uq s vs) (H : List AObj) :
  ACalls P F.id [.agg (souC s), .list ex 5 (vsC vs)] H (fun r H' => ((r = .nil ∧ vs = []) ∨ r = .list false 5 (vsC (srtV s vs))) ∧ H' = H) := by
 refine ACalls.lift0 (by simp [souC, AVal.closed, AVal.isPure]) (acalls_of_body F.has ?_)
 (conv => whnf); refine ACalls.mono (CloneVer_own F.z1f ex vs (by omega) _) ?_
 rintro r H' (⟨rfl, h0, rfl⟩ | ⟨rfl, rfl⟩)
 ·conv => whnf
  refine Ghost.none (n := 12) (live := [(2, .cptr (souC s) 0), (5, .nil)]) rfl ⟨.frzP 0 1 0 0 7 [souC s] _ rfl rfl rfl rfl (by simp), .closed _ rfl, trivial⟩ ?_
  rintro ρ ⟨d, rfl⟩
  (conv => whnf); refine ACalls.use (sortStable_nil F.z1o _) ?_
  conv => whnf
  exact ⟨_, .closed _ rfl, .inl ⟨rfl, h0⟩⟩
 ·conv => whnf
  refine Ghost.one (n := 12) (live := [(2, .cptr (souC s) 0), (5, .sl 0 vs.length 0 vs.length)]) 1 5 (vsC vs) rfl (pureEs_vsC _) rfl ⟨.frzP 0 1 0 0 7 [souC s] _ rfl rfl rfl rfl (by simp), .keep 1 _ _ _ 0 rfl, trivial⟩ ?_
  rintro ρ ⟨d, rfl⟩
  (conv => whnf); refine ACalls.mono (sortStable_spec F.z1o (H := [vO vs]) (i0 := 0) (by simp) (sorted_1_spec F.z0r s hs) (orders_V s) vs rfl h40 hok) ?_
  rintro r H' ⟨rfl, Z, hp, ha, rfl⟩
  have hZ : Z = srtV s vs := isort_eq (orders_V s) hp ha hU.zz
  have hl := hp.length_eq
  conv => whnf
  refine ⟨_, pubFxH (es := vsC (srtV s vs)) (es' := vsC Z) rfl (by rw [hZ]) ?_ ?_ (pureEs_vsC _), .inr rfl⟩
  ·rw [vsC_length, ← hZ, hl]
  ·rw [vsC_length, ← hZ, hl]
theorem sorted_spec {P : Program} (F : F_z0q P) (s : Sou) (hs : s.good) (ex : Bool) (vs : List Ver) (h40 : vs.length < 40) (hok : ∀ v ∈ vs, okV s v) (hU : Uq s vs) (H : List AObj) :
  ACalls P F.id [.agg (souC s), .list ex 5 (vsC vs)] H (fun r H' => r = .list false 5 (vsC (srtV s vs)) ∧ H' = H) :=
 ACalls.weakR (sorted_raw F s hs ex vs h40 hok hU H) (by
  rintro r H' ⟨⟨rfl, rfl⟩ | rfl, rfl⟩
  ·exact ⟨_, .nil false 5, rfl, rfl⟩
  ·exact ⟨_, .refl _, rfl, rfl⟩)
def sameKT (s : Sou) (a b : Ver) : Bool := rowsCmp (keyV s a.rc.row) (keyV s b.rc.row) == 0 && timeV s a.rc == timeV s b.rc
theorem pureS (s : Sou) : pureO (.arr 7 [souC s]) = true := by simp [pureO, pureEs, souC, AVal.isPure]
theorem pureVO (l : List Ver) : pureO (vO l) = true := pureEs_vsC l
theorem all2 {a b : AObj} (ha : pureO a = true) (hb : pureO b = true) : [a, b].all pureO = true := by rw [List.all_cons, ha, List.all_cons, hb]; rfl
def usedV (s : Sou) : List Ver → List Ver
 | [] => []
 | v :: vs => if vs.head?.any (sameKT s v) then usedV s vs else v :: usedV s vs
theorem usedV_sub (s : Sou) : ∀ vs, List.Sublist (usedV s vs) vs
 | [] => .slnil
 | v :: vs => by
  rw [usedV]
  split
  ·exact (usedV_sub s vs).cons _
  ·exact (usedV_sub s vs).cons₂ _
set_option maxRecDepth 20000 in
theorem hused_spec {P : Program} (F : F_z0s P) (s : Sou) (hs : s.good) (ex : Bool) (vs : List Ver) (hl : vs.length ≤ 100000) (hok : ∀ v ∈ vs, okV s v) (H : List AObj) :
  ACalls P F.id [.agg (souC s), .list ex 5 (vsC vs)] H (fun r H' => r = .list false 5 (vsC (usedV s vs)) ∧ H' = H) := by
 refine ACalls.pure (by simp [souC, AVal.closed, AVal.isPure]) (acalls_of_body F.has ?_)
 conv => whnf
 refine ⟨fun m ρ H1 => ∃ (k : Nat) (U : List Ver), k + m = vs.length ∧ U.length ≤ k ∧ U ++ usedV s (vs.drop k) = usedV s vs ∧ H1 = [.arr 7 [souC s], vO U] ∧ Sv 51 [(1, .list ex 5 (vsC vs)), (2, .ptr 0 1 0 0), (5, .sl 1 U.length 0 U.length), (9, .list ex 5 (vsC vs)), (10, .int .i64 vs.length), (11, .int .i64 k)] ρ, vs.length, [(5, 5)], ?_, ?_⟩
 ·exact ⟨0, [], by omega, by simp, rfl, rfl, Sv.intro rfl ⟨rfl, rfl, rfl, rfl, intEq (by rw [vsC_length]), rfl, trivial⟩⟩
 rintro m ρ H1 ⟨k, U, hk, hU, hr, rfl, d, rfl⟩
 (conv => whnf); refine recA (fun hlt => ?_) (fun hlt => ?_)
 ·simp at hlt
  have hx : vs[k]? = some vs[k] := List.getElem?_eq_getElem hlt
  have hv := okV_len hs (hok _ (List.getElem_mem hlt))
  generalize vs[k] = v at hx hv
  rw [drop_cons hx, usedV] at hr
  have ek : IntKind.i64.wrap ((k : Int) + 1) = ((k + 1 : Nat) : Int) := by rw [wrapI _ (by omega) (by omega)]; omega
  (conv => whnf); refine And.intro (by omega) ?_
  (conv => whnf); refine recO (vsC_at hx) ?_
  (conv => whnf); refine recA (fun h1 => ?_) (fun h1 => ?_)
  ·simp [ek, vsC_length] at h1
   have h1' : k + 1 < vs.length := by omega
   have hy : vs[k + 1]? = some vs[k + 1] := List.getElem?_eq_getElem h1'
   have hw := okV_len hs (hok _ (List.getElem_mem h1'))
   generalize vs[k + 1] = w at hy hw
   have hhd : (vs.drop (k + 1)).head? = some w := by rw [drop_cons hy]; rfl
   rw [hhd] at hr
   (conv => whnf); refine And.intro (by rw [ek]; omega) ?_
   (conv => whnf); refine recO ((show (vsC vs)[(IntKind.i64.wrap ((k : Int) + 1)).toNat]? = some (verC w) from by rw [ek, Int.toNat_natCast]; exact vsC_at hy)) ?_
   (conv => whnf); refine ⟨_, hkey_spec F.z0o s hs v hv.2 _, ?_⟩
   (conv => whnf); refine ⟨_, hkey_spec F.z0o s hs w hw.2 _, ?_⟩
   (conv => whnf); refine ⟨_, value_CompareRows_spec F.z22 false false (keyV s v.rc.row) (keyV s w.rc.row) (by rw [keyV_length]; have := hs.klen; omega) _, ?_⟩
   (conv => whnf); refine recA (fun hb => ?_) (fun hb => ?_)
   ·(conv => whnf); refine ⟨_, wTime_spec F.z44 s hs.ok v.rc (by omega) _, ?_⟩
    (conv => whnf); refine ⟨_, wTime_spec F.z44 s hs.ok w.rc (by omega) _, ?_⟩
    repeat ((conv => whnf); refine And.intro rfl ?_)
    (conv => whnf); refine recA (fun hc => ?_) (fun hc => ?_)
    ·have hT : (some w).any (sameKT s v) = true := by simp [sameKT]; simp at hb hc; exact ⟨hb, hc⟩
     rw [if_pos hT] at hr
     conv => whnf
     refine ⟨m - 1, by omega, Gp.first 2 [.arr 7 [souC s], vO U] rfl rfl (all2 (pureS s) (pureVO _)) rfl ?_ fun ρ1 h => ⟨k + 1, U, by omega, by omega, hr, rfl, h⟩⟩
     exact ⟨.closed _ rfl, .keepP 0 1 0 0 0 rfl, .keep 1 _ _ _ 1 rfl, .closed _ rfl, .closed _ rfl, pub_int ek, trivial⟩
    ·have hT : ¬ (some w).any (sameKT s v) = true := by simp [sameKT]; simp at hb hc; exact fun _ => hc
     rw [if_neg hT] at hr
     (conv => whnf); refine recT (by rw [vsC_length]; exact Nat.beq_refl _) ?_
     (conv => whnf); refine And.intro (⟨roomMul (by simp; omega) (by omega), roomB_le (by simp; omega), rfl, by rw [vsC_length]⟩) ?_
     conv => whnf
     have hcn : vsC U ++ [verC v] = vsC (U ++ [v]) := by rw [vsC_append]; rfl
     have hpp : ([.arr 7 [souC s], .arr 5 (vsC U ++ [verC v])] : List AObj).all pureO = true := by rw [hcn]; exact all2 (pureS s) (pureVO _)
     have hl2 : (vsC U ++ [verC v]).length = (U ++ [v]).length := by rw [hcn, vsC_length]
     refine ⟨m - 1, by omega, Gp.first 2 [.arr 7 [souC s], .arr 5 (vsC U ++ [verC v])] rfl rfl hpp rfl ?_ fun ρ1 h => ⟨k + 1, U ++ [v], by omega, by simp; omega, by rw [← hr]; simp, by rw [hcn], h⟩⟩
     exact ⟨.closed _ rfl, .keepP 0 1 0 0 0 rfl, pubSl (k := 1) rfl rfl hl2 hl2, .closed _ rfl, .closed _ rfl, pub_int ek, trivial⟩
   ·repeat ((conv => whnf); refine And.intro rfl ?_)
    have hT : ¬ (some w).any (sameKT s v) = true := by simp [sameKT]; simp at hb; exact fun h => absurd h hb
    rw [if_neg hT] at hr
    (conv => whnf); refine recT (by rw [vsC_length]; exact Nat.beq_refl _) ?_
    (conv => whnf); refine And.intro (⟨roomMul (by simp; omega) (by omega), roomB_le (by simp; omega), rfl, by rw [vsC_length]⟩) ?_
    conv => whnf
    have hcn : vsC U ++ [verC v] = vsC (U ++ [v]) := by rw [vsC_append]; rfl
    have hpp : ([.arr 7 [souC s], .arr 5 (vsC U ++ [verC v])] : List AObj).all pureO = true := by rw [hcn]; exact all2 (pureS s) (pureVO _)
    have hl2 : (vsC U ++ [verC v]).length = (U ++ [v]).length := by rw [hcn, vsC_length]
    refine ⟨m - 1, by omega, Gp.first 2 [.arr 7 [souC s], .arr 5 (vsC U ++ [verC v])] rfl rfl hpp rfl ?_ fun ρ1 h => ⟨k + 1, U ++ [v], by omega, by simp; omega, by rw [← hr]; simp, by rw [hcn], h⟩⟩
    exact ⟨.closed _ rfl, .keepP 0 1 0 0 0 rfl, pubSl (k := 1) rfl rfl hl2 hl2, .closed _ rfl, .closed _ rfl, pub_int ek, trivial⟩
  ·simp [ek, vsC_length] at h1
   have hT : ¬ (vs.drop (k + 1)).head?.any (sameKT s v) = true := by rw [List.drop_of_length_le (by omega)]; simp
   rw [if_neg hT] at hr
   (conv => whnf); refine recT (by rw [vsC_length]; exact Nat.beq_refl _) ?_
   (conv => whnf); refine And.intro (⟨roomMul (by simp; omega) (by omega), roomB_le (by simp; omega), rfl, by rw [vsC_length]⟩) ?_
   conv => whnf
   have hcn : vsC U ++ [verC v] = vsC (U ++ [v]) := by rw [vsC_append]; rfl
   have hpp : ([.arr 7 [souC s], .arr 5 (vsC U ++ [verC v])] : List AObj).all pureO = true := by rw [hcn]; exact all2 (pureS s) (pureVO _)
   have hl2 : (vsC U ++ [verC v]).length = (U ++ [v]).length := by rw [hcn, vsC_length]
   refine ⟨m - 1, by omega, Gp.first 2 [.arr 7 [souC s], .arr 5 (vsC U ++ [verC v])] rfl rfl hpp rfl ?_ fun ρ1 h => ⟨k + 1, U ++ [v], by omega, by simp; omega, by rw [← hr]; simp, by rw [hcn], h⟩⟩
   exact ⟨.closed _ rfl, .keepP 0 1 0 0 0 rfl, pubSl (k := 1) rfl rfl hl2 hl2, .closed _ rfl, .closed _ rfl, pub_int ek, trivial⟩
 ·simp at hlt
  rw [List.drop_of_length_le (by omega), usedV, List.append_nil] at hr
  conv => whnf
  refine pubFxH (es := vsC (usedV s vs)) (es' := vsC U) rfl (by rw [hr]) (by rw [← hr, vsC_length]) (by rw [← hr, vsC_length]) (pureEs_vsC _)
def couR (s : Sou) (i : Nat) (jd : List Int) : Nat → List Rec → List Ver
 | _, [] => []
 | k, r :: rs => if k < jd.length ∧ jd.getD k 1 = 0 ∧ fitsV s r = 0 then ⟨r, i, k⟩ :: couR s i jd (k + 1) rs else couR s i jd (k + 1) rs
def couD (s : Sou) (i : Nat) (x : Del) : List Ver := if eqS x.f.src s.name then couR s i x.jd 0 x.f.recs else []
def couL (s : Sou) : Nat → List Del → List Ver
 | _, [] => []
 | i, x :: l => couD s i x ++ couL s (i + 1) l
theorem couR_len (s : Sou) (i : Nat) (jd : List Int) : ∀ (rs : List Rec) (k : Nat), (couR s i jd k rs).length ≤ rs.length
 | [], _ => Nat.le_refl _
 | r :: rs, k => by
  have := couR_len s i jd rs (k + 1)
  rw [couR]
  split
  ·simp; omega
  ·simp; omega
set_option maxHeartbeats 1000000 in
set_option maxRecDepth 20000 in
theorem counted_spec {P : Program} (F : F_z33 P) (s : Sou) (hs : s.ok) (l : List Del) (hl : l.length ≤ 1000) (hok : ∀ x ∈ l, x.ok) (H : List AObj) :
  ACalls P F.id [.agg (ledC l), .agg (souC s)] H (fun r H' => r = .list false 5 (vsC (couL s 0 l)) ∧ H' = H) := by
 have psl : pureO (.arr 1 [ledC l]) = true := rfl
 refine ACalls.pure (by simp [souC, ledC, AVal.closed, AVal.isPure]) (acalls_of_body F.has ?_)
 conv => whnf
 refine ⟨fun m ρ H1 => ∃ (k : Nat) (U : List Ver), k + m = l.length ∧ U.length ≤ 1000 * k ∧ U ++ couL s k (l.drop k) = couL s 0 l ∧ H1 = [.arr 1 [ledC l], .arr 7 [souC s], vO U] ∧ Sv 80 [(2, .ptr 0 1 0 0), (3, .ptr 1 1 0 0), (5, .sl 2 U.length 0 U.length), (6, .int .i64 k)] ρ, l.length, [(5, 5)], ?_, ?_⟩
 ·exact ⟨0, [], by omega, by simp, rfl, rfl, Sv.intro rfl ⟨rfl, rfl, rfl, rfl, trivial⟩⟩
 rintro m ρ H1 ⟨k, U0, hk, hU0, hr, rfl, d, rfl⟩
 (conv => whnf); refine recA (fun hlt => ?_) (fun hlt => ?_)
 ·simp [dsC_length] at hlt
  have hx : l[k]? = some l[k] := List.getElem?_eq_getElem hlt
  obtain ⟨x1, x2, x3⟩ := hok _ (List.getElem_mem hlt)
  generalize l[k] = x at hx x1 x2 x3
  rw [drop_cons hx, couL] at hr
  (conv => whnf); refine And.intro (by omega) ?_
  (conv => whnf); refine recO (dsC_at hx) ?_
  conv => whnf
  refine ⟨fun m2 ρ H1 => ∃ (j : Nat) (U : List Ver), j + m2 = x.f.recs.length ∧ U.length ≤ 1000 * k + j ∧ U ++ ((if eqS x.f.src s.name then couR s k x.jd j (x.f.recs.drop j) else []) ++ couL s (k + 1) (l.drop (k + 1))) = couL s 0 l ∧ H1 = [.arr 1 [ledC l], .arr 7 [souC s], vO U, .arr 4 [delC x]] ∧ Sv 80 [(2, .ptr 0 1 0 0), (3, .ptr 1 1 0 0), (5, .sl 2 U.length 0 U.length), (6, .int .i64 k), (7, .ptr 3 1 0 0), (8, .int .i64 j)] ρ, x.f.recs.length, [], ?_, ?_⟩
  ·exact ⟨0, U0, by omega, by omega, hr, rfl, Sv.intro rfl ⟨rfl, rfl, rfl, rfl, rfl, rfl, trivial⟩⟩
  clear hr hU0
  rintro m2 ρ H1 ⟨j, U, hj, hU, hr, rfl, d, rfl⟩
  have hp4 : ([.arr 1 [ledC l], .arr 7 [souC s], vO U, .arr 4 [delC x]] : List AObj).all pureO = true := by
   rw [List.all_cons, psl, List.all_cons, pureS, List.all_cons, pureVO]; rfl
  (conv => whnf); refine recA (fun hlt2 => ?_) (fun hlt2 => ?_)
  ·simp [rC_length] at hlt2
   have hrx : x.f.recs[j]? = some x.f.recs[j] := List.getElem?_eq_getElem hlt2
   have hrl := x2 _ (List.getElem_mem hlt2)
   generalize x.f.recs[j] = r at hrx hrl
   have ej : IntKind.i64.wrap ((j : Int) + 1) = ((j + 1 : Nat) : Int) := by rw [wrapI _ (by omega) (by omega)]; omega
   (conv => whnf); refine recA (fun heq => ?_) (fun heq => ?_)
   ·replace heq : eqS x.f.src s.name = true := heq
    rw [if_pos heq, drop_cons hrx, couR] at hr
    (conv => whnf); refine recA (fun h1 => ?_) (fun h1 => ?_)
    ·simp [iC_length] at h1
     have hjx : x.jd[j]? = some x.jd[j] := List.getElem?_eq_getElem (by omega)
     have hjd : x.jd.getD j 1 = x.jd[j] := by rw [List.getD_eq_getElem?_getD, hjx]; rfl
     generalize x.jd[j] = q at hjx hjd
     (conv => whnf); refine And.intro (by omega) ?_
     (conv => whnf); refine recO (iC_at hjx) ?_
     (conv => whnf); refine recA (fun h2 => ?_) (fun h2 => ?_)
     ·simp at h2
      (conv => whnf); refine And.intro (by omega) ?_
      (conv => whnf); refine recO (rC_at hrx) ?_
      (conv => whnf); refine ⟨_, fits25_spec F.z2s s hs r (by omega) _, ?_⟩
      repeat ((conv => whnf); refine And.intro rfl ?_)
      (conv => whnf); refine recA (fun h3 => ?_) (fun h3 => ?_)
      ·simp at h3
       rw [if_pos ⟨by omega, by rw [hjd]; exact h2, h3⟩] at hr
       (conv => whnf); refine And.intro (by omega) ?_
       (conv => whnf); refine recO (rC_at hrx) ?_
       (conv => whnf); refine And.intro (⟨roomMul (by simp [vC_length]; omega) (by omega), roomB_le (by simp [vC_length]; omega)⟩) ?_
       conv => whnf
       refine Ghost.some (n := 80) (live := [(2, .ptr 0 1 0 0), (3, .ptr 1 1 0 0), (5, .sl 2 U.length 0 U.length), (6, .int .i64 k), (7, .ptr 3 1 0 0), (8, .int .i64 j), (9, .ptr 4 1 0 0)]) (H1 := [.arr 1 [ledC l], .arr 7 [souC s], vO U, .arr 4 [delC x], .arr 3 [recC r]]) [0, 1, 2, 3, 4] (by simp)
        ⟨⟨_, rfl, .same _ _ psl⟩, ⟨_, rfl, .same _ _ (pureS s)⟩, ⟨_, rfl, .same _ _ (pureVO U)⟩, ⟨_, rfl, .same _ _ rfl⟩, ⟨_, rfl, obR (pubRow (id := 5) (by simp) rfl (vC_length _)) rfl⟩, trivial⟩ rfl
        ⟨.keepP 0 1 0 0 0 rfl, .keepP 1 1 0 0 1 rfl, .keep 2 _ _ _ 2 rfl, .closed _ rfl, .keepP 3 1 0 0 3 rfl, .closed _ rfl, .keepP 4 1 0 0 4 rfl, trivial⟩ ?_
       rintro ρ ⟨d, rfl⟩
       (conv => whnf); refine recT (by rw [vsC_length]; exact Nat.beq_refl _) ?_
       (conv => whnf); refine And.intro (⟨roomMul (by simp; omega) (by omega), roomB_le (by simp; omega), rfl, by rw [vsC_length]⟩) ?_
       conv => whnf
       have hcn : vsC U ++ [verC ⟨r, k, j⟩] = vsC (U ++ [⟨r, k, j⟩]) := by rw [vsC_append]; rfl
       have hl2 : (vsC U ++ [verC ⟨r, k, j⟩]).length = (U ++ [(⟨r, k, j⟩ : Ver)]).length := by rw [hcn, vsC_length]
       have hp5 : ([.arr 1 [ledC l], .arr 7 [souC s], .arr 5 (vsC U ++ [verC ⟨r, k, j⟩]), .arr 4 [delC x]] : List AObj).all pureO = true := by
        rw [hcn, List.all_cons, psl, List.all_cons, pureS, List.all_cons, pureVO]; rfl
       refine ⟨m2 - 1, by omega, Gp.first 4 [.arr 1 [ledC l], .arr 7 [souC s], .arr 5 (vsC U ++ [verC ⟨r, k, j⟩]), .arr 4 [delC x]] rfl rfl hp5 rfl ?_ fun ρ1 h => ⟨j + 1, U ++ [⟨r, k, j⟩], by omega, by simp; omega, by rw [← hr, if_pos heq]; simp, by rw [hcn], h⟩⟩
       exact ⟨.keepP 0 1 0 0 0 rfl, .keepP 1 1 0 0 1 rfl, pubSl (k := 2) rfl rfl hl2 hl2, .closed _ rfl, .keepP 3 1 0 0 3 rfl, pub_int ej, trivial⟩
      ·simp at h3
       rw [if_neg (fun h => h3 h.2.2)] at hr
       have hr2 : U ++ ((if eqS x.f.src s.name then couR s k x.jd (j + 1) (x.f.recs.drop (j + 1)) else []) ++ couL s (k + 1) (l.drop (k + 1))) = couL s 0 l := by rw [if_pos heq]; exact hr
       conv => whnf
       refine ⟨m2 - 1, by omega, Gp.first 4 [.arr 1 [ledC l], .arr 7 [souC s], vO U, .arr 4 [delC x]] rfl rfl hp4 rfl ?_ fun ρ1 h => ⟨j + 1, U, by omega, by omega, by rw [← hr2], rfl, h⟩⟩
       exact ⟨.keepP 0 1 0 0 0 rfl, .keepP 1 1 0 0 1 rfl, .keep 2 _ _ _ 2 rfl, .closed _ rfl, .keepP 3 1 0 0 3 rfl, pub_int ej, trivial⟩
     ·simp at h2
      repeat ((conv => whnf); refine And.intro rfl ?_)
      rw [if_neg (fun h => h2 (hjd ▸ h.2.1))] at hr
      have hr2 : U ++ ((if eqS x.f.src s.name then couR s k x.jd (j + 1) (x.f.recs.drop (j + 1)) else []) ++ couL s (k + 1) (l.drop (k + 1))) = couL s 0 l := by rw [if_pos heq]; exact hr
      conv => whnf
      refine ⟨m2 - 1, by omega, Gp.first 4 [.arr 1 [ledC l], .arr 7 [souC s], vO U, .arr 4 [delC x]] rfl rfl hp4 rfl ?_ fun ρ1 h => ⟨j + 1, U, by omega, by omega, by rw [← hr2], rfl, h⟩⟩
      exact ⟨.keepP 0 1 0 0 0 rfl, .keepP 1 1 0 0 1 rfl, .keep 2 _ _ _ 2 rfl, .closed _ rfl, .keepP 3 1 0 0 3 rfl, pub_int ej, trivial⟩
    ·simp [iC_length] at h1
     repeat ((conv => whnf); refine And.intro rfl ?_)
     rw [if_neg (fun h => by omega)] at hr
     have hr2 : U ++ ((if eqS x.f.src s.name then couR s k x.jd (j + 1) (x.f.recs.drop (j + 1)) else []) ++ couL s (k + 1) (l.drop (k + 1))) = couL s 0 l := by rw [if_pos heq]; exact hr
     conv => whnf
     refine ⟨m2 - 1, by omega, Gp.first 4 [.arr 1 [ledC l], .arr 7 [souC s], vO U, .arr 4 [delC x]] rfl rfl hp4 rfl ?_ fun ρ1 h => ⟨j + 1, U, by omega, by omega, by rw [← hr2], rfl, h⟩⟩
     exact ⟨.keepP 0 1 0 0 0 rfl, .keepP 1 1 0 0 1 rfl, .keep 2 _ _ _ 2 rfl, .closed _ rfl, .keepP 3 1 0 0 3 rfl, pub_int ej, trivial⟩
   ·replace heq : eqS x.f.src s.name = false := heq
    rw [if_neg (by simp [heq]), List.nil_append] at hr
    conv => whnf
    refine ⟨m - 1, by omega, Gp.first 3 [.arr 1 [ledC l], .arr 7 [souC s], vO U] rfl rfl (by rw [List.all_cons, psl, List.all_cons, pureS, List.all_cons, pureVO]; rfl) rfl ?_ fun ρ1 h => ⟨k + 1, U, by omega, by omega, hr, rfl, h⟩⟩
    exact ⟨.keepP 0 1 0 0 0 rfl, .keepP 1 1 0 0 1 rfl, .keep 2 _ _ _ 2 rfl, pub_int (wrapI _ (by omega) (by omega)), trivial⟩
  ·simp [rC_length] at hlt2
   rw [List.drop_of_length_le (by omega), couR, ite_self, List.nil_append] at hr
   conv => whnf
   refine ⟨m - 1, by omega, Gp.first 3 [.arr 1 [ledC l], .arr 7 [souC s], vO U] rfl rfl (by rw [List.all_cons, psl, List.all_cons, pureS, List.all_cons, pureVO]; rfl) rfl ?_ fun ρ1 h => ⟨k + 1, U, by omega, by omega, hr, rfl, h⟩⟩
   exact ⟨.keepP 0 1 0 0 0 rfl, .keepP 1 1 0 0 1 rfl, .keep 2 _ _ _ 2 rfl, pub_int (wrapI _ (by omega) (by omega)), trivial⟩
 ·simp [dsC_length] at hlt
  rw [List.drop_of_length_le (by omega), couL, List.append_nil] at hr
  conv => whnf
  refine pubFxH (es := vsC (couL s 0 l)) (es' := vsC U0) rfl (by rw [hr]) (by rw [← hr, vsC_length]) (by rw [← hr, vsC_length]) (pureEs_vsC _)
def latV (s : Sou) : List Ver → Int → Int
 | [], a => a
 | v :: vs, a => latV s vs (max a (timeV s v.rc))
theorem couR_mem {s : Sou} {i : Nat} {jd : List Int} : ∀ {rs : List Rec} {k : Nat} {v : Ver}, v ∈ couR s i jd k rs → v.rc ∈ rs ∧ fitsV s v.rc = 0 ∧ v.file = i ∧ ∃ j, j < rs.length ∧ v.place = ((k + j : Nat) : Int) ∧ rs[j]? = some v.rc
 | [], k, v, h => by cases h
 | r :: rs, k, v, h => by
  rw [couR] at h
  split at h
  ·rename_i hc
   rcases List.mem_cons.1 h with rfl | h
   ·exact ⟨List.mem_cons_self .., hc.2.2, rfl, 0, by simp, rfl, rfl⟩
   ·obtain ⟨a, b, c, j, d, e, g⟩ := couR_mem h
    exact ⟨List.mem_cons_of_mem _ a, b, c, j + 1, by simp; omega, by rw [e]; omega, g⟩
  ·obtain ⟨a, b, c, j, d, e, g⟩ := couR_mem h
   exact ⟨List.mem_cons_of_mem _ a, b, c, j + 1, by simp; omega, by rw [e]; omega, g⟩
theorem couL_mem {s : Sou} : ∀ {l : List Del} {i : Nat} {v : Ver}, v ∈ couL s i l → ∃ k x, l[k]? = some x ∧ v ∈ couR s (i + k) x.jd 0 x.f.recs
 | [], i, v, h => by cases h
 | x :: l, i, v, h => by
  rw [couL] at h
  rcases List.mem_append.1 h with h | h
  ·refine ⟨0, x, rfl, ?_⟩
   unfold couD at h
   split at h
   ·exact h
   ·cases h
  ·obtain ⟨k, y, h1, h2⟩ := couL_mem h
   exact ⟨k + 1, y, h1, by rw [show i + (k + 1) = i + 1 + k by omega]; exact h2⟩
theorem couL_fits {s : Sou} {l : List Del} {i : Nat} {v : Ver} (h : v ∈ couL s i l) : okV s v := by
 obtain ⟨k, x, _, h2⟩ := couL_mem h
 exact (couR_mem h2).2.1
theorem couL_len (s : Sou) : ∀ (l : List Del) (i : Nat) (n : Nat), (∀ x ∈ l, x.f.recs.length ≤ n) → (couL s i l).length ≤ n * l.length
 | [], _, _, _ => by simp [couL]
 | x :: l, i, n, h => by
  have := couL_len s l (i + 1) n fun y hy => h y (List.mem_cons_of_mem _ hy)
  have h1 := h x (List.mem_cons_self ..)
  have h2 : (couD s i x).length ≤ x.f.recs.length := by
   unfold couD
   split
   ·exact couR_len ..
   ·simp
  rw [couL, List.length_append, List.length_cons, Nat.mul_succ]
  omega
set_option maxRecDepth 20000 in
theorem Latest_spec {P : Program} (F : F_z30 P) (s : Sou) (hs : s.ok) (l : List Del) (hl : l.length ≤ 100) (hok : ∀ x ∈ l, x.ok) (H : List AObj) :
  ACalls P F.id [.agg (ledC l), .agg (souC s)] H (fun r H' => r = .int .i64 (latV s (couL s 0 l) (-1)) ∧ H' = H) := by
 refine ACalls.pure (by simp [souC, ledC, AVal.closed, AVal.isPure]) (acalls_of_body F.has ?_)
 (conv => whnf); refine ACalls.use (counted_spec F.z33 s hs l (by omega) hok _) ?_
 have hlen := couL_len s l 0 1000 fun x hx => (hok x hx).1
 have hrow : ∀ v ∈ couL s 0 l, v.rc.row.length ≤ 1000000 := fun v hv => by
  have := fits_len (couL_fits hv)
  have := hs.1
  omega
 generalize couL s 0 l = vs at hlen hrow
 conv => whnf
 refine ⟨fun m ρ H1 => ∃ (k : Nat) (a : Int), k + m = vs.length ∧ latV s (vs.drop k) a = latV s vs (-1) ∧ H1 = [.arr 1 [ledC l], .arr 7 [souC s]] ∧ Sv 24 [(3, .ptr 1 1 0 0), (5, .int .i64 a), (10, .list false 5 (vsC vs)), (11, .int .i64 vs.length), (12, .int .i64 k)] ρ, vs.length, [], ?_, ?_⟩
 ·exact ⟨0, -1, by omega, rfl, rfl, Sv.intro rfl ⟨rfl, rfl, rfl, intEq (by rw [vsC_length]), rfl, trivial⟩⟩
 rintro m ρ H1 ⟨k, a, hk, hr, rfl, d, rfl⟩
 (conv => whnf); refine recA (fun hlt => ?_) (fun hlt => ?_)
 ·simp at hlt
  have hx : vs[k]? = some vs[k] := List.getElem?_eq_getElem hlt
  have hv := hrow _ (List.getElem_mem hlt)
  generalize vs[k] = v at hx hv
  rw [drop_cons hx, latV] at hr
  (conv => whnf); refine And.intro (by omega) ?_
  (conv => whnf); refine recO (vsC_at hx) ?_
  (conv => whnf); refine ACalls.use (time25_spec F.z2w s hs v.rc hv _) ?_
  conv => whnf
  refine ⟨m - 1, by omega, Gp.first 2 [.arr 1 [ledC l], .arr 7 [souC s]] rfl rfl (all2 rfl (pureS s)) rfl ?_ fun ρ1 h => ⟨k + 1, max a (timeV s v.rc), by omega, hr, rfl, h⟩⟩
  exact ⟨.keepP 1 1 0 0 1 rfl, pub_int (by omega), .closed _ rfl, .closed _ rfl, pub_int (wrapI _ (by omega) (by omega)), trivial⟩
 ·simp at hlt
  rw [List.drop_of_length_le (by omega), latV] at hr
  conv => whnf
  exact pubI hr
noncomputable def dupGo (f : Fil) : List Del → Nat → Int → Option Int
 | [], _, q => some q
 | x :: l, k, q => if eqS x.f.id f.id then (if eqD x.f f then dupGo f l (k + 1) (if q < 0 then k else q) else none) else dupGo f l (k + 1) q
def newJ (s : Sou) (l : List Del) (f : Fil) : List Int := f.recs.map (judgeV s (markV s.late (latV s (couL s 0 l) (-1))))
def newD (s : Sou) (l : List Del) (f : Fil) : Del := ⟨f, newJ s l f⟩
def zDelC : List AVal := [.str (bs []), .str (bs []), .nil, .nil]
noncomputable def accX (s : Sou) (l : List Del) (f : Fil) (jv : AVal) : AVal :=
 if encFE f ≠ 0 then .tuple [.agg [.nil], .agg zDelC, .bool false, .int .i64 (encFE f)]
 else match dupGo f l 0 (-1) with
  | none => .tuple [.agg [.nil], .agg zDelC, .bool false, .int .i64 6]
  | some q => if 0 ≤ q then .tuple [.agg (ledC l), .agg (delC (l.getD q.toNat ⟨f, []⟩)), .bool false, .int .i64 0]
   else .tuple [.agg (ledC (l ++ [newD s l f])), .agg [.str f.id, .str f.src, .list false 3 (rC f.recs), jv], .bool true, .int .i64 0]
theorem pub4 {H1 : List AObj} {n : Nat} {ids : List Nat} {a b c d r s t u : AVal} (h1 : Pub H1 n ids a r) (h2 : Pub H1 n ids b s) (h3 : Pub H1 n ids c t) (h4 : Pub H1 n ids d u) : Pub H1 n ids (.tuple [a, b, c, d]) (.tuple [r, s, t, u]) := by
 refine .tuple _ _ rfl fun i v w e1 e2 => ?_
 rcases i with _ | _ | _ | _ | i
 ·cases e1; cases e2; exact h1
 ·cases e1; cases e2; exact h2
 ·cases e1; cases e2; exact h3
 ·cases e1; cases e2; exact h4
 ·simp at e1
theorem pubA1 {H1 : List AObj} {n : Nat} {ids : List Nat} {a r : AVal} (h1 : Pub H1 n ids a r) : Pub H1 n ids (.agg [a]) (.agg [r]) := by
 refine .agg _ _ rfl fun i v w e1 e2 => ?_
 rcases i with _ | i
 ·cases e1; cases e2; exact h1
 ·simp at e1
theorem ob4 {H : List AObj} {ids : List Nat} {a b : ByteArray} {r : AVal} (hr : r.isPure = true) {c c1 : AVal} (h : Pub H 0 ids c c1) (hc : c1.isCell = true) : ObP H ids (.arr 4 [[.str a, .str b, r, c]]) (.arr 4 [[.str a, .str b, r, c1]]) := by
 refine obSnoc 4 [] [[.str a, .str b, r, c1]] [.str a, .str b, r, c] _ rfl rfl rfl fun j d d1 h1 h2 => ?_
 rcases j with _ | _ | _ | _ | j
 ·cases h1; cases h2; exact ⟨.closed _ rfl, rfl⟩
 ·cases h1; cases h2; exact ⟨.closed _ rfl, rfl⟩
 ·cases h1; cases h2; exact ⟨.closed _ (AVal.closed_of_isPure hr), AVal.isCell_of_isPure hr⟩
 ·cases h1; cases h2; exact ⟨h, hc⟩
 ·simp at h1
theorem pubDel {H1 : List AObj} {n : Nat} {ids : List Nat} {id ep len : Nat} {es : List (List AVal)} {l : List Del} (hid : id ∉ ids) (ho : H1[id]? = some (.arr 4 es)) (he : es = dsC l) (h1 : ep = l.length) (h2 : len = l.length) : Pub H1 n ids (.agg [.sl id ep 0 len]) (.agg (ledC l)) := by
 subst he h1 h2
 exact pubA1 (pubFI hid ho (dsC_length _).symm (dsC_length _).symm (pureEs_dsC _))
set_option maxHeartbeats 2000000 in
set_option maxRecDepth 20000 in
theorem accept_raw {P : Program} (F : F_z31 P) (s : Sou) (hs : s.ok) (hz : s.zone = bs [122]) (hnm : s.name.size ≤ 50000) (l : List Del) (hl : l.length ≤ 50) (hok : ∀ x ∈ l, x.ok) (id : ByteArray) (hid : id.size ≤ 50000) (recs : List Rec) (hf : recs.length ≤ 1000) (hr : ∀ r ∈ recs, r.row.length ≤ 1000) (H : List AObj) :
  ACalls P F.id [.agg (ledC l), .agg (defC s), .agg (fV ⟨id, s.name, recs⟩)] H (fun r H' => (r = accX s l ⟨id, s.name, recs⟩ (.list false 1 (iC (newJ s l ⟨id, s.name, recs⟩))) ∨ (recs = [] ∧ r = accX s l ⟨id, s.name, recs⟩ .nil)) ∧ H' = H) := by
 refine ACalls.lift0 (by simp [ledC, defC, fV, AVal.closed, AVal.isPure]) (acalls_of_body F.has ?_)
 obtain ⟨f, hfd⟩ : ∃ f : Fil, f = ⟨id, s.name, recs⟩ := ⟨_, rfl⟩
 have hf1 : f.recs = recs := by rw [hfd]
 have hf2 : f.src = s.name := by rw [hfd]
 have hf3 : f.id = id := by rw [hfd]
 rw [← hfd]
 rw [← hf1] at hf hr ⊢
 rw [← hf3] at hid
 clear hfd hf1 hf3 recs id
 (conv => whnf); refine ACalls.use (hf2 ▸ zoneOf_spec F.z34 s hz _) ?_
 (conv => whnf); refine ACalls.use (ref24_Encode_spec F.z2n f hid (by rw [hf2]; exact hnm) _) ?_
 by_cases he : encFE f = 0
 ·rw [show encFR f = .tuple [.list false 1 (bC (filB f)), .int .i64 0] from if_pos he]
  conv => whnf
  refine ⟨fun m ρ H1 => ∃ (k : Nat) (q : Int), k + m = l.length ∧ dupGo f (l.drop k) k q = dupGo f l 0 (-1) ∧ q < l.length ∧ H1 = [.arr 1 [ledC l], .arr 6 [defC s], .arr 3 [fV f], .arr 1 [[.nil]], .arr 4 [zDelC], .arr 7 [souC s], .arr 3 [zonC]] ∧ Sv 129 [(3, .ptr 0 1 0 0), (5, .ptr 2 1 0 0), (6, .ptr 3 1 0 0), (7, .ptr 4 1 0 0), (10, .ptr 5 1 0 0), (11, .ptr 6 1 0 0), (15, .int .i64 q), (16, .int .i64 k)] ρ, l.length, [], ?_, ?_⟩
  ·exact ⟨0, -1, by omega, rfl, by omega, rfl, Sv.intro rfl ⟨rfl, rfl, rfl, rfl, rfl, rfl, rfl, rfl, trivial⟩⟩
  rintro m ρ H1 ⟨k, q, hk, hdup, hq, rfl, d, rfl⟩
  (conv => whnf); refine recA (fun hlt => ?_) (fun hlt => ?_)
  ·simp [dsC_length] at hlt
   have hx : l[k]? = some l[k] := List.getElem?_eq_getElem hlt
   have hxo := hok _ (List.getElem_mem hlt)
   generalize l[k] = x at hx hxo
   have ek : IntKind.i64.wrap ((k : Int) + 1) = ((k + 1 : Nat) : Int) := by rw [wrapI _ (by omega) (by omega)]; omega
   rw [drop_cons hx, dupGo] at hdup
   (conv => whnf); refine And.intro (by omega) ?_
   (conv => whnf); refine recO (dsC_at hx) ?_
   repeat ((conv => whnf); refine And.intro rfl ?_)
   (conv => whnf); refine recA (fun h1 => ?_) (fun h1 => ?_)
   ·replace h1 : (!(eqS x.f.id f.id)) = true := h1
    rw [if_neg (by simpa using h1)] at hdup
    conv => whnf
    refine ⟨m - 1, by omega, Gp.keep rfl ?_ fun ρ1 h => ⟨k + 1, q, by omega, hdup, hq, rfl, h⟩⟩
    exact ⟨rfl, rfl, rfl, rfl, rfl, rfl, rfl, intEq ek, trivial⟩
   replace h1 : (!(eqS x.f.id f.id)) = false := h1
   rw [if_pos (by simpa using h1)] at hdup
   (conv => whnf); refine And.intro (by omega) ?_
   (conv => whnf); refine recO (dsC_at hx) ?_
   (conv => whnf); refine ⟨_, SameFile_spec F.z2o x.f f (by have := hxo.1; omega) (fun r h => by have := hxo.2.1 r h; omega) _, ?_⟩
   repeat ((conv => whnf); refine And.intro rfl ?_)
   (conv => whnf); refine recA (fun h2 => ?_) (fun h2 => ?_)
   ·replace h2 : (!(eqD x.f f)) = true := h2
    rw [if_neg (by simpa using h2)] at hdup
    conv => whnf
    refine ⟨accX s l f (.list false 1 (iC (newJ s l f))), ?_, .inl rfl⟩
    rw [accX, if_neg (by simp [he]), ← hdup]
    exact pub4 (.closed _ rfl) (.closed _ rfl) (.closed _ rfl) (.closed _ rfl)
   replace h2 : (!(eqD x.f f)) = false := h2
   rw [if_pos (by simpa using h2)] at hdup
   (conv => whnf); refine recA (fun h3 => ?_) (fun h3 => ?_)
   ·simp at h3
    rw [if_pos h3] at hdup
    conv => whnf
    refine ⟨m - 1, by omega, Gp.keep rfl ?_ fun ρ1 h => ⟨k + 1, k, by omega, hdup, by omega, rfl, h⟩⟩
    exact ⟨rfl, rfl, rfl, rfl, rfl, rfl, rfl, intEq ek, trivial⟩
   ·simp at h3
    rw [if_neg (by omega)] at hdup
    conv => whnf
    refine ⟨m - 1, by omega, Gp.keep rfl ?_ fun ρ1 h => ⟨k + 1, q, by omega, hdup, hq, rfl, h⟩⟩
    exact ⟨rfl, rfl, rfl, rfl, rfl, rfl, rfl, intEq ek, trivial⟩
  ·simp [dsC_length] at hlt
   rw [List.drop_of_length_le (by omega), dupGo] at hdup
   (conv => whnf); refine ACalls.mono (CopyLedger_own F.z2z l (by omega) hok _) ?_
   rintro r H' (⟨h0, rfl, rfl⟩ | ⟨hne, rfl, rfl⟩)
   ·rw [h0, List.length_nil] at hq
    (conv => whnf); refine recF (by simp; omega) ?_
    (conv => whnf); refine recF (by rw [dsC_length]; simp; omega) ?_
    (conv => whnf); refine ACalls.use (CopyFile_spec F.z2m f hf hr _) ?_
    (conv => whnf); refine ⟨_, Latest_spec F.z30 s hs l (by omega) hok _, ?_⟩
    (conv => whnf); refine ⟨_, mark_spec F.z2u s _ _, ?_⟩
    repeat ((conv => whnf); refine And.intro rfl ?_)
    have hJ : newJ s l f = f.recs.map (judgeV s (markV s.late (latV s (couL s 0 l) (-1)))) := rfl
    have hJl : (newJ s l f).length = f.recs.length := by rw [hJ, List.length_map]
    generalize markV s.late (latV s (couL s 0 l) (-1)) = mk at hJ
    have hD : newD s l f = ⟨f, newJ s l f⟩ := rfl
    generalize newJ s l f = J at hJ hJl hD
    conv => whnf
    refine ⟨fun m ρ H1 => ∃ j : Nat, j + m = f.recs.length ∧ ((j = 0 ∧ H1 = [.arr 1 [ledC l], .arr 6 [defC s], .arr 3 [fV f], .arr 1 [[.nil]], .arr 4 [zDelC], .arr 7 [souC s], .arr 3 [zonC], .arr 1 [[.nil]], .arr 4 [[.str f.id, .str f.src, .list false 3 (rC f.recs), .nil]]]) ∨ (j ≠ 0 ∧ H1 = [.arr 1 [ledC l], .arr 6 [defC s], .arr 3 [fV f], .arr 1 [[.nil]], .arr 4 [zDelC], .arr 7 [souC s], .arr 3 [zonC], .arr 1 [[.nil]], .arr 4 [[.str f.id, .str f.src, .list false 3 (rC f.recs), .sl 9 j 0 j]], .arr 1 (iC (J.take j))])) ∧ Sv 129 [(5, .ptr 2 1 0 0), (6, .ptr 3 1 0 0), (7, .ptr 4 1 0 0), (10, .ptr 5 1 0 0), (11, .ptr 6 1 0 0), (17, .ptr 7 1 0 0), (18, .ptr 8 1 0 0), (19, .int .i64 mk), (20, .int .i64 j)] ρ, f.recs.length, [], ?_, ?_⟩
    ·exact ⟨0, by omega, .inl ⟨rfl, rfl⟩, Sv.intro rfl ⟨rfl, rfl, rfl, rfl, rfl, rfl, rfl, rfl, rfl, trivial⟩⟩
    rintro m ρ H1 ⟨j, hj, ⟨rfl, rfl⟩ | ⟨hj0, rfl⟩, d, rfl⟩
    ·(conv => whnf); refine recA (fun hlt => ?_) (fun hlt => ?_)
     ·simp [rC_length] at hlt
      have hx : f.recs[0]? = some f.recs[0] := List.getElem?_eq_getElem hlt
      have hrl := hr _ (List.getElem_mem hlt)
      generalize f.recs[0] = r at hx hrl
      have hT : J.take (0 + 1) = J.take 0 ++ [judgeV s mk r] := take_snoc (by rw [hJ, List.getElem?_map, hx]; rfl)
      (conv => whnf); refine And.intro (by omega) ?_
      (conv => whnf); refine recO (rC_at hx) ?_
      (conv => whnf); refine ⟨_, judge_spec F.z2t s hs mk r (by omega) _, ?_⟩
      (conv => whnf); refine And.intro (⟨roomMul (by simp) (by omega), roomB_le (by simp)⟩) ?_
      repeat ((conv => whnf); refine And.intro rfl ?_)
      conv => whnf
      refine ⟨m - 1, by omega, Gp.keep rfl ?_ fun ρ1 h => ⟨1, by omega, .inr ⟨by omega, ?_⟩, h⟩⟩
      ·exact ⟨rfl, rfl, rfl, rfl, rfl, rfl, rfl, rfl, intEq (wrapI _ (by omega) (by omega)), trivial⟩
      ·rw [hT]; rfl
     ·simp [rC_length] at hlt
      have hrn : f.recs = [] := hlt
      have hJn : J = [] := List.length_eq_zero_iff.1 (by rw [hJl, hrn]; rfl)
      conv => whnf
      refine Ghost.some (n := 129) (live := [(6, .ptr 0 1 0 0), (7, .ptr 1 1 0 0), (17, .ptr 2 1 0 0), (18, .ptr 3 1 0 0)]) (H1 := [.arr 1 [[.nil]], .arr 4 [zDelC], .arr 1 [[.nil]], .arr 4 [[.str f.id, .str f.src, .list false 3 (rC f.recs), .nil]]]) [3, 4, 7, 8] (by simp) ⟨⟨_, rfl, .same _ _ rfl⟩, ⟨_, rfl, .same _ _ rfl⟩, ⟨_, rfl, .same _ _ rfl⟩, ⟨_, rfl, .same _ _ rfl⟩, trivial⟩ rfl ⟨.keepP 3 1 0 0 0 rfl, .keepP 4 1 0 0 1 rfl, .keepP 7 1 0 0 2 rfl, .keepP 8 1 0 0 3 rfl, trivial⟩ ?_
      rintro ρ ⟨d, rfl⟩
      (conv => whnf); refine ⟨_, copyDelivery_nil F.z32 f hf hr _, ?_⟩
      (conv => whnf); refine And.intro (⟨roomMul (by simp) (by omega), roomB_le (by simp)⟩) ?_
      repeat ((conv => whnf); refine And.intro rfl ?_)
      conv => whnf
      have hcn : dsC ([] : List Del) ++ [delC ⟨f, []⟩] = dsC (([] : List Del) ++ [(⟨f, []⟩ : Del)]) := by rw [dsC_append]; rfl
      have hcl : (dsC ([] : List Del) ++ [delC ⟨f, []⟩]).length = (([] : List Del) ++ [(⟨f, []⟩ : Del)]).length := by rw [hcn, dsC_length]
      have hX : accX s l f (.nil) = .tuple [.agg (ledC (([] : List Del) ++ [⟨f, []⟩])), .agg [.str f.id, .str f.src, .list false 3 (rC f.recs), (.nil)], .bool true, .int .i64 0] := by rw [accX, if_neg (by simp [he]), ← hdup]; simp only []; rw [if_neg (by omega), hD, h0, hJn]
      refine ⟨accX s l f (.nil), ?_, .inr ⟨hrn, rfl⟩⟩
      rw [hX]
      exact pub4 (pubDel (es := dsC ([] : List Del) ++ [delC ⟨f, []⟩]) (by simp) rfl hcn hcl hcl) (.closed _ rfl) (.closed _ rfl) (.closed _ rfl)
    ·(conv => whnf); refine recA (fun hlt => ?_) (fun hlt => ?_)
     ·simp [rC_length] at hlt
      have hx : f.recs[j]? = some f.recs[j] := List.getElem?_eq_getElem hlt
      have hrl := hr _ (List.getElem_mem hlt)
      generalize f.recs[j] = r at hx hrl
      have hT : J.take (j + 1) = J.take j ++ [judgeV s mk r] := take_snoc (by rw [hJ, List.getElem?_map, hx]; rfl)
      (conv => whnf); refine And.intro (by omega) ?_
      (conv => whnf); refine recO (rC_at hx) ?_
      (conv => whnf); refine ⟨_, judge_spec F.z2t s hs mk r (by omega) _, ?_⟩
      have hjl : (J.take j).length = j := by rw [List.length_take]; omega
      (conv => whnf); refine recT (by rw [iC_length, hjl]; exact Nat.beq_refl _) ?_
      (conv => whnf); refine And.intro (⟨roomMul (by simp; omega) (by omega), roomB_le (by simp; omega), rfl, by rw [iC_length, hjl]⟩) ?_
      repeat ((conv => whnf); refine And.intro rfl ?_)
      conv => whnf
      have hcn : iC (J.take j) ++ [[AVal.int .i64 (judgeV s mk r)]] = iC (J.take (j + 1)) := by rw [hT, iC_append]; rfl
      have hcl : (iC (J.take j) ++ [[AVal.int .i64 (judgeV s mk r)]]).length = j + 1 := by rw [List.length_append, iC_length, hjl]; rfl
      refine ⟨m - 1, by omega, Gp.keep rfl ?_ fun ρ1 h => ⟨j + 1, by omega, .inr ⟨by omega, ?_⟩, h⟩⟩
      ·exact ⟨rfl, rfl, rfl, rfl, rfl, rfl, rfl, rfl, intEq (wrapI _ (by omega) (by omega)), trivial⟩
      ·have gen : ∀ Y : List (List AVal), Y = iC (J.take (j + 1)) → Y.length = j + 1 → ([.arr 1 [ledC l], .arr 6 [defC s], .arr 3 [fV f], .arr 1 [[.nil]], .arr 4 [zDelC], .arr 7 [souC s], .arr 3 [zonC], .arr 1 [[.nil]], .arr 4 [[.str f.id, .str f.src, .list false 3 (rC f.recs), .sl 9 Y.length 0 Y.length]], .arr 1 Y] : List AObj) = [.arr 1 [ledC l], .arr 6 [defC s], .arr 3 [fV f], .arr 1 [[.nil]], .arr 4 [zDelC], .arr 7 [souC s], .arr 3 [zonC], .arr 1 [[.nil]], .arr 4 [[.str f.id, .str f.src, .list false 3 (rC f.recs), .sl 9 (j + 1) 0 (j + 1)]], .arr 1 (iC (J.take (j + 1)))] := by
        rintro Y rfl h
        rw [h]
       exact gen _ hcn hcl
     ·simp [rC_length] at hlt
      have hTj : J.take j = J := List.take_of_length_le (by omega)
      rw [hTj]
      conv => whnf
      refine Ghost.some (n := 129) (live := [(6, .ptr 0 1 0 0), (7, .ptr 1 1 0 0), (17, .ptr 2 1 0 0), (18, .ptr 3 1 0 0)]) (H1 := [.arr 1 [[.nil]], .arr 4 [zDelC], .arr 1 [[.nil]], .arr 4 [[.str f.id, .str f.src, .list false 3 (rC f.recs), .list false 1 (iC J)]]]) [3, 4, 7, 8] (by simp) ⟨⟨_, rfl, .same _ _ rfl⟩, ⟨_, rfl, .same _ _ rfl⟩, ⟨_, rfl, .same _ _ rfl⟩, ⟨_, rfl, ob4 rfl (pubFI (by simp) rfl (by rw [iC_length]; omega) (by rw [iC_length]; omega) (pureEs_iC J)) rfl⟩, trivial⟩ rfl ⟨.keepP 3 1 0 0 0 rfl, .keepP 4 1 0 0 1 rfl, .keepP 7 1 0 0 2 rfl, .keepP 8 1 0 0 3 rfl, trivial⟩ ?_
      rintro ρ ⟨d, rfl⟩
      (conv => whnf); refine ⟨_, copyDelivery_spec F.z32 ⟨f, J⟩ ⟨hf, hr, by show J.length ≤ 1000; omega⟩ _, ?_⟩
      (conv => whnf); refine And.intro (⟨roomMul (by simp) (by omega), roomB_le (by simp)⟩) ?_
      repeat ((conv => whnf); refine And.intro rfl ?_)
      conv => whnf
      have hcn : dsC ([] : List Del) ++ [delC ⟨f, J⟩] = dsC (([] : List Del) ++ [(⟨f, J⟩ : Del)]) := by rw [dsC_append]; rfl
      have hcl : (dsC ([] : List Del) ++ [delC ⟨f, J⟩]).length = (([] : List Del) ++ [(⟨f, J⟩ : Del)]).length := by rw [hcn, dsC_length]
      have hX : accX s l f (.list false 1 (iC J)) = .tuple [.agg (ledC (([] : List Del) ++ [⟨f, J⟩])), .agg [.str f.id, .str f.src, .list false 3 (rC f.recs), (.list false 1 (iC J))], .bool true, .int .i64 0] := by rw [accX, if_neg (by simp [he]), ← hdup]; simp only []; rw [if_neg (by omega), hD, h0]
      refine ⟨accX s l f (.list false 1 (iC J)), ?_, .inl rfl⟩
      rw [hX]
      exact pub4 (pubDel (es := dsC ([] : List Del) ++ [delC ⟨f, J⟩]) (by simp) rfl hcn hcl hcl) (.closed _ rfl) (.closed _ rfl) (.closed _ rfl)
   ·(conv => whnf); refine recA (fun h4 => ?_) (fun h4 => ?_)
    ·simp at h4
     have hx : l[q.toNat]? = some (l.getD q.toNat ⟨f, []⟩) := by rw [List.getD_eq_getElem?_getD, List.getElem?_eq_getElem (by omega)]; rfl
     have hxo := hok _ (List.mem_of_getElem? hx)
     (conv => whnf); refine And.intro (by omega) ?_
     (conv => whnf); refine recO (dsC_at hx) ?_
     (conv => whnf); refine ⟨_, copyDelivery_spec F.z32 _ hxo _, ?_⟩
     repeat ((conv => whnf); refine And.intro rfl ?_)
     conv => whnf
     refine ⟨accX s l f (.list false 1 (iC (newJ s l f))), ?_, .inl rfl⟩
     rw [accX, if_neg (by simp [he]), ← hdup]
     simp only []
     rw [if_pos h4]
     exact pub4 (pubDel (es := dsC l) (by simp) rfl rfl rfl rfl) (.closed _ rfl) (.closed _ rfl) (.closed _ rfl)
    simp at h4
    (conv => whnf); refine recF (by rw [dsC_length]; simp; omega) ?_
    (conv => whnf); refine ACalls.use (CopyFile_spec F.z2m f hf hr _) ?_
    (conv => whnf); refine ⟨_, Latest_spec F.z30 s hs l (by omega) hok _, ?_⟩
    (conv => whnf); refine ⟨_, mark_spec F.z2u s _ _, ?_⟩
    repeat ((conv => whnf); refine And.intro rfl ?_)
    have hJ : newJ s l f = f.recs.map (judgeV s (markV s.late (latV s (couL s 0 l) (-1)))) := rfl
    have hJl : (newJ s l f).length = f.recs.length := by rw [hJ, List.length_map]
    generalize markV s.late (latV s (couL s 0 l) (-1)) = mk at hJ
    have hD : newD s l f = ⟨f, newJ s l f⟩ := rfl
    generalize newJ s l f = J at hJ hJl hD
    conv => whnf
    refine ⟨fun m ρ H1 => ∃ j : Nat, j + m = f.recs.length ∧ ((j = 0 ∧ H1 = [.arr 1 [ledC l], .arr 6 [defC s], .arr 3 [fV f], .arr 1 [[.nil]], .arr 4 [zDelC], .arr 7 [souC s], .arr 3 [zonC], .arr 4 (dsC l), .arr 1 [[.sl 7 l.length 0 l.length]], .arr 4 [[.str f.id, .str f.src, .list false 3 (rC f.recs), .nil]]]) ∨ (j ≠ 0 ∧ H1 = [.arr 1 [ledC l], .arr 6 [defC s], .arr 3 [fV f], .arr 1 [[.nil]], .arr 4 [zDelC], .arr 7 [souC s], .arr 3 [zonC], .arr 4 (dsC l), .arr 1 [[.sl 7 l.length 0 l.length]], .arr 4 [[.str f.id, .str f.src, .list false 3 (rC f.recs), .sl 10 j 0 j]], .arr 1 (iC (J.take j))])) ∧ Sv 129 [(5, .ptr 2 1 0 0), (6, .ptr 3 1 0 0), (7, .ptr 4 1 0 0), (10, .ptr 5 1 0 0), (11, .ptr 6 1 0 0), (17, .ptr 8 1 0 0), (18, .ptr 9 1 0 0), (19, .int .i64 mk), (20, .int .i64 j)] ρ, f.recs.length, [], ?_, ?_⟩
    ·exact ⟨0, by omega, .inl ⟨rfl, rfl⟩, Sv.intro rfl ⟨rfl, rfl, rfl, rfl, rfl, rfl, rfl, rfl, rfl, trivial⟩⟩
    rintro m ρ H1 ⟨j, hj, ⟨rfl, rfl⟩ | ⟨hj0, rfl⟩, d, rfl⟩
    ·(conv => whnf); refine recA (fun hlt => ?_) (fun hlt => ?_)
     ·simp [rC_length] at hlt
      have hx : f.recs[0]? = some f.recs[0] := List.getElem?_eq_getElem hlt
      have hrl := hr _ (List.getElem_mem hlt)
      generalize f.recs[0] = r at hx hrl
      have hT : J.take (0 + 1) = J.take 0 ++ [judgeV s mk r] := take_snoc (by rw [hJ, List.getElem?_map, hx]; rfl)
      (conv => whnf); refine And.intro (by omega) ?_
      (conv => whnf); refine recO (rC_at hx) ?_
      (conv => whnf); refine ⟨_, judge_spec F.z2t s hs mk r (by omega) _, ?_⟩
      (conv => whnf); refine And.intro (⟨roomMul (by simp) (by omega), roomB_le (by simp)⟩) ?_
      repeat ((conv => whnf); refine And.intro rfl ?_)
      conv => whnf
      refine ⟨m - 1, by omega, Gp.keep rfl ?_ fun ρ1 h => ⟨1, by omega, .inr ⟨by omega, ?_⟩, h⟩⟩
      ·exact ⟨rfl, rfl, rfl, rfl, rfl, rfl, rfl, rfl, intEq (wrapI _ (by omega) (by omega)), trivial⟩
      ·rw [hT]; rfl
     ·simp [rC_length] at hlt
      have hrn : f.recs = [] := hlt
      have hJn : J = [] := List.length_eq_zero_iff.1 (by rw [hJl, hrn]; rfl)
      conv => whnf
      refine Ghost.some (n := 129) (live := [(6, .ptr 0 1 0 0), (7, .ptr 1 1 0 0), (17, .ptr 3 1 0 0), (18, .ptr 4 1 0 0)]) (H1 := [.arr 1 [[.nil]], .arr 4 [zDelC], .arr 4 (dsC l), .arr 1 [[.sl 2 l.length 0 l.length]], .arr 4 [[.str f.id, .str f.src, .list false 3 (rC f.recs), .nil]]]) [3, 4, 7, 8, 9] (by simp) ⟨⟨_, rfl, .same _ _ rfl⟩, ⟨_, rfl, .same _ _ rfl⟩, ⟨_, rfl, .same _ _ (pureEs_dsC l)⟩, ⟨_, rfl, ob11 (pubSl (k := 2) rfl rfl rfl rfl) rfl⟩, ⟨_, rfl, .same _ _ rfl⟩, trivial⟩ rfl ⟨.keepP 3 1 0 0 0 rfl, .keepP 4 1 0 0 1 rfl, .keepP 8 1 0 0 3 rfl, .keepP 9 1 0 0 4 rfl, trivial⟩ ?_
      rintro ρ ⟨d, rfl⟩
      (conv => whnf); refine ⟨_, copyDelivery_nil F.z32 f hf hr _, ?_⟩
      (conv => whnf); refine recT (by rw [dsC_length]; exact Nat.beq_refl _) ?_
      (conv => whnf); refine And.intro (⟨roomMul (by simp; omega) (by omega), roomB_le (by simp; omega), rfl, by rw [dsC_length]⟩) ?_
      repeat ((conv => whnf); refine And.intro rfl ?_)
      conv => whnf
      have hcn : dsC l ++ [delC ⟨f, []⟩] = dsC (l ++ [(⟨f, []⟩ : Del)]) := by rw [dsC_append]; rfl
      have hcl : (dsC l ++ [delC ⟨f, []⟩]).length = (l ++ [(⟨f, []⟩ : Del)]).length := by rw [hcn, dsC_length]
      have hX : accX s l f (.nil) = .tuple [.agg (ledC (l ++ [⟨f, []⟩])), .agg [.str f.id, .str f.src, .list false 3 (rC f.recs), (.nil)], .bool true, .int .i64 0] := by rw [accX, if_neg (by simp [he]), ← hdup]; simp only []; rw [if_neg (by omega), hD, hJn]
      refine ⟨accX s l f (.nil), ?_, .inr ⟨hrn, rfl⟩⟩
      rw [hX]
      exact pub4 (pubDel (es := dsC l ++ [delC ⟨f, []⟩]) (by simp) rfl hcn hcl hcl) (.closed _ rfl) (.closed _ rfl) (.closed _ rfl)
    ·(conv => whnf); refine recA (fun hlt => ?_) (fun hlt => ?_)
     ·simp [rC_length] at hlt
      have hx : f.recs[j]? = some f.recs[j] := List.getElem?_eq_getElem hlt
      have hrl := hr _ (List.getElem_mem hlt)
      generalize f.recs[j] = r at hx hrl
      have hT : J.take (j + 1) = J.take j ++ [judgeV s mk r] := take_snoc (by rw [hJ, List.getElem?_map, hx]; rfl)
      (conv => whnf); refine And.intro (by omega) ?_
      (conv => whnf); refine recO (rC_at hx) ?_
      (conv => whnf); refine ⟨_, judge_spec F.z2t s hs mk r (by omega) _, ?_⟩
      have hjl : (J.take j).length = j := by rw [List.length_take]; omega
      (conv => whnf); refine recT (by rw [iC_length, hjl]; exact Nat.beq_refl _) ?_
      (conv => whnf); refine And.intro (⟨roomMul (by simp; omega) (by omega), roomB_le (by simp; omega), rfl, by rw [iC_length, hjl]⟩) ?_
      repeat ((conv => whnf); refine And.intro rfl ?_)
      conv => whnf
      have hcn : iC (J.take j) ++ [[AVal.int .i64 (judgeV s mk r)]] = iC (J.take (j + 1)) := by rw [hT, iC_append]; rfl
      have hcl : (iC (J.take j) ++ [[AVal.int .i64 (judgeV s mk r)]]).length = j + 1 := by rw [List.length_append, iC_length, hjl]; rfl
      refine ⟨m - 1, by omega, Gp.keep rfl ?_ fun ρ1 h => ⟨j + 1, by omega, .inr ⟨by omega, ?_⟩, h⟩⟩
      ·exact ⟨rfl, rfl, rfl, rfl, rfl, rfl, rfl, rfl, intEq (wrapI _ (by omega) (by omega)), trivial⟩
      ·have gen : ∀ Y : List (List AVal), Y = iC (J.take (j + 1)) → Y.length = j + 1 → ([.arr 1 [ledC l], .arr 6 [defC s], .arr 3 [fV f], .arr 1 [[.nil]], .arr 4 [zDelC], .arr 7 [souC s], .arr 3 [zonC], .arr 4 (dsC l), .arr 1 [[.sl 7 l.length 0 l.length]], .arr 4 [[.str f.id, .str f.src, .list false 3 (rC f.recs), .sl 10 Y.length 0 Y.length]], .arr 1 Y] : List AObj) = [.arr 1 [ledC l], .arr 6 [defC s], .arr 3 [fV f], .arr 1 [[.nil]], .arr 4 [zDelC], .arr 7 [souC s], .arr 3 [zonC], .arr 4 (dsC l), .arr 1 [[.sl 7 l.length 0 l.length]], .arr 4 [[.str f.id, .str f.src, .list false 3 (rC f.recs), .sl 10 (j + 1) 0 (j + 1)]], .arr 1 (iC (J.take (j + 1)))] := by
        rintro Y rfl h
        rw [h]
       exact gen _ hcn hcl
     ·simp [rC_length] at hlt
      have hTj : J.take j = J := List.take_of_length_le (by omega)
      rw [hTj]
      conv => whnf
      refine Ghost.some (n := 129) (live := [(6, .ptr 0 1 0 0), (7, .ptr 1 1 0 0), (17, .ptr 3 1 0 0), (18, .ptr 4 1 0 0)]) (H1 := [.arr 1 [[.nil]], .arr 4 [zDelC], .arr 4 (dsC l), .arr 1 [[.sl 2 l.length 0 l.length]], .arr 4 [[.str f.id, .str f.src, .list false 3 (rC f.recs), .list false 1 (iC J)]]]) [3, 4, 7, 8, 9] (by simp) ⟨⟨_, rfl, .same _ _ rfl⟩, ⟨_, rfl, .same _ _ rfl⟩, ⟨_, rfl, .same _ _ (pureEs_dsC l)⟩, ⟨_, rfl, ob11 (pubSl (k := 2) rfl rfl rfl rfl) rfl⟩, ⟨_, rfl, ob4 rfl (pubFI (by simp) rfl (by rw [iC_length]; omega) (by rw [iC_length]; omega) (pureEs_iC J)) rfl⟩, trivial⟩ rfl ⟨.keepP 3 1 0 0 0 rfl, .keepP 4 1 0 0 1 rfl, .keepP 8 1 0 0 3 rfl, .keepP 9 1 0 0 4 rfl, trivial⟩ ?_
      rintro ρ ⟨d, rfl⟩
      (conv => whnf); refine ⟨_, copyDelivery_spec F.z32 ⟨f, J⟩ ⟨hf, hr, by show J.length ≤ 1000; omega⟩ _, ?_⟩
      (conv => whnf); refine recT (by rw [dsC_length]; exact Nat.beq_refl _) ?_
      (conv => whnf); refine And.intro (⟨roomMul (by simp; omega) (by omega), roomB_le (by simp; omega), rfl, by rw [dsC_length]⟩) ?_
      repeat ((conv => whnf); refine And.intro rfl ?_)
      conv => whnf
      have hcn : dsC l ++ [delC ⟨f, J⟩] = dsC (l ++ [(⟨f, J⟩ : Del)]) := by rw [dsC_append]; rfl
      have hcl : (dsC l ++ [delC ⟨f, J⟩]).length = (l ++ [(⟨f, J⟩ : Del)]).length := by rw [hcn, dsC_length]
      have hX : accX s l f (.list false 1 (iC J)) = .tuple [.agg (ledC (l ++ [⟨f, J⟩])), .agg [.str f.id, .str f.src, .list false 3 (rC f.recs), (.list false 1 (iC J))], .bool true, .int .i64 0] := by rw [accX, if_neg (by simp [he]), ← hdup]; simp only []; rw [if_neg (by omega), hD]
      refine ⟨accX s l f (.list false 1 (iC J)), ?_, .inl rfl⟩
      rw [hX]
      exact pub4 (pubDel (es := dsC l ++ [delC ⟨f, J⟩]) (by simp) rfl hcn hcl hcl) (.closed _ rfl) (.closed _ rfl) (.closed _ rfl)
 ·rw [show encFR f = .tuple [.nil, .int .i64 (encFE f)] from if_neg he]
  (conv => whnf); refine recT (by simpa using he) ?_
  conv => whnf
  refine ⟨accX s l f (.list false 1 (iC (newJ s l f))), ?_, .inl rfl⟩
  rw [accX, if_pos he]
  exact pub4 (.closed _ rfl) (.closed _ rfl) (.closed _ rfl) (.closed _ rfl)
end Go.AW
