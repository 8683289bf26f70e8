/-
  An abstract machine over the model, the code of functions on it, and their contracts: what the claim needs.
  No condition: definitions, plain laws, contracts over any program that has this code.
-/
import Derived.Test.YtgipmadklcjcoaaZ4
set_option linter.all false
namespace Go.AW
attribute [local irreducible] ACalls
def SortE (P : Program) (f g : FuncId) : Prop :=
  ∀ (l : List Ent), l ≠ [] → l.length ≤ 1000000 → (∀ e ∈ l, e.row.length ≤ 1000) → ∀ (H : List AObj) (i0 : Nat), H[i0]? = some (.arr 2 (eC l)) →
    ACalls P f [.sl i0 l.length 0 l.length, .fn g []] H (fun r H' => r = .tuple [] ∧ ∃ s : List Ent, s.Perm l ∧ Asc s ∧ H' = H.set i0 (.arr 2 (eC s)))

theorem bag_sum_1_spec {P : Program} (F : F_bag_sum_1 P) (x y : Ent) (hx : x.row.length ≤ 1000000) (H : List AObj) :
    ACalls P F.id [.agg (entC x), .agg (entC y)] H (fun r H' => r = .int .i64 (rowsCmp x.row y.row) ∧ H' = H) := by
  refine ACalls.pure rfl (acalls_of_body F.has ?_)
  (conv => whnf); refine ACalls.use (value_CompareRows_spec F.value_CompareRows false false x.row y.row hx _) ?_
  conv => whnf
  exact .closed _ rfl

set_option maxRecDepth 20000 in
theorem put1_spec {P : Program} (F : F_bag_put P) (o : AObj) (ex : Bool) (O : List Ent) (hO : O.length ≤ 100000) (row : List V) (hr : row.length ≤ 1000) (c : Int) :
    ACalls P F.id [.sl 1 O.length 0 O.length, .list ex 3 (vC row), .int .i64 c] [o, .arr 2 (eC O)]
      (fun r H' => (smallB c = false ∧ r = .tuple [.nil, .bool false] ∧ H' = [o, .arr 2 (eC O)]) ∨ (smallB c = true ∧ c = 0 ∧ r = .tuple [.sl 1 O.length 0 O.length, .bool true] ∧ H' = [o, .arr 2 (eC O)]) ∨
        (smallB c = true ∧ c ≠ 0 ∧ r = .tuple [.sl 1 (O.length + 1) 0 (O.length + 1), .bool true] ∧ H' = [o, .arr 2 (eC (O ++ [⟨row, c⟩]))])) := by
  refine acalls_of_body F.has ?_
  (conv => whnf); refine recA (fun h => ?_) (fun h => ?_)
  · simp at h
    conv => whnf
    exact .inl ⟨by rw [smallB]; simp; omega, rfl, rfl⟩
  simp at h
  (conv => whnf); refine recA (fun h2 => ?_) (fun h2 => ?_)
  · simp at h2
    conv => whnf
    exact .inl ⟨by rw [smallB]; simp; omega, rfl, rfl⟩
  simp at h2
  have hs : smallB c = true := by simp [smallB]; omega
  (conv => whnf); refine recA (fun hz => ?_) (fun hz => ?_)
  · replace hz : (!(c == 0)) = true := hz
    simp at hz
    conv => whnf
    refine ACalls.use (CloneV_spec F.slices_Clone_LValue_Value ex row (by omega) _) ?_
    (conv => whnf); refine recT (by rw [eC_length]; exact Nat.beq_refl _) ?_
    (conv => whnf); refine And.intro (⟨roomMul (by simp; omega) (by omega), roomB_le (by simp; omega), rfl, by rw [eC_length]⟩) ?_
    conv => whnf
    have hl : (eC O ++ [[AVal.list false 3 (vC row), .int .i64 c]]).length = O.length + 1 := by rw [List.length_append, eC_length]; rfl
    refine .inr (.inr ⟨hs, hz, ?_, ?_⟩)
    · exact congrArg (fun n => AVal.tuple [.sl 1 n 0 n, .bool true]) hl
    · rw [eC_append]; rfl
  · replace hz : (!(c == 0)) = false := hz
    simp at hz
    conv => whnf
    exact .inr (.inl ⟨hs, hz, rfl, rfl⟩)

set_option maxRecDepth 20000 in
theorem done1_spec {P : Program} (F : F_bag_done P) (o : AObj) (O : List Ent) :
    ACalls P F.id [.sl 1 O.length 0 O.length] [o, .arr 2 (eC O)]
      (fun r H' => H' = [o, .arr 2 (eC O)] ∧ ((4096 < O.length ∧ r = .tuple [.nil, .int .i64 2]) ∨ (O.length ≤ 4096 ∧ r = .tuple [.sl 1 O.length 0 O.length, .int .i64 0]))) := by
  refine acalls_of_body F.has ?_
  (conv => whnf); refine recT (by rw [eC_length]; exact Nat.beq_refl _) ?_
  (conv => whnf); refine recA (fun h => ?_) (fun h => ?_)
  · simp at h
    conv => whnf
    exact ⟨rfl, .inl ⟨by omega, rfl⟩⟩
  · simp at h
    conv => whnf
    exact ⟨rfl, .inr ⟨by omega, rfl⟩⟩

theorem eC_at0 {l : List Ent} {k : Nat} {x : Ent} (h : l[k]? = some x) : (eC l)[0 + k]? = some (entC x) := by rw [Nat.zero_add]; exact eC_at h

theorem grpL_drop {S : List Ent} {i : Nat} {x : Ent} (h : S[i]? = some x) : grpL (S.drop i) = grpA x (S.drop (i + 1)) := by
  obtain ⟨hi, rfl⟩ := List.getElem?_eq_some_iff.1 h
  rw [List.drop_eq_getElem_cons hi]; rfl

theorem grpA_end {S : List Ent} {k : Nat} {c : Ent} (h : S.length ≤ k ∨ ∃ y, S[k]? = some y ∧ rowsCmp c.row y.row ≠ 0) : grpA c (S.drop k) = c :: grpL (S.drop k) := by
  rcases h with h | ⟨y, hy, hn⟩
  · rw [List.drop_of_length_le h]; rfl
  · obtain ⟨hk, rfl⟩ := List.getElem?_eq_some_iff.1 hy
    rw [List.drop_eq_getElem_cons hk, grpA, if_neg hn]; rfl

theorem grpA_step {S : List Ent} {k : Nat} {c y : Ent} (hy : S[k]? = some y) (h : rowsCmp c.row y.row = 0) : grpA c (S.drop k) = grpA ⟨c.row, c.cnt + y.cnt⟩ (S.drop (k + 1)) := by
  obtain ⟨hk, rfl⟩ := List.getElem?_eq_some_iff.1 hy
  rw [List.drop_eq_getElem_cons hk, grpA, if_pos h]

theorem cntL_perm {a b : List Ent} (h : a.Perm b) : ∀ r, cntL a r = cntL b r := by
  induction h with
  | nil => intro r; rfl
  | cons x _ ih => intro r; rw [cntL, cntL, ih]
  | swap x y l => intro r; rw [cntL, cntL, cntL, cntL]; split <;> split <;> omega
  | trans _ _ h1 h2 => intro r; rw [h1, h2]

theorem SortE.all {P : Program} {F : F_slices_SortFunc_LEntry_Entry P} {g : FuncId} (hS : SortE P F.id g) (l : List Ent) (hl : l.length ≤ 1000000) (hr : ∀ e ∈ l, e.row.length ≤ 1000) (H : List AObj) (i0 : Nat) (ho : H[i0]? = some (.arr 2 (eC l))) :
    ACalls P F.id [.sl i0 l.length 0 l.length, .fn g []] H (fun r H' => r = .tuple [] ∧ ∃ s : List Ent, s.Perm l ∧ Asc s ∧ H' = H.set i0 (.arr 2 (eC s))) := by
  cases l with
  | nil =>
    refine (sort0_spec F i0 g H ho).mono ?_
    rintro r H' ⟨rfl, rfl⟩
    refine ⟨rfl, [], List.Perm.refl _, List.Pairwise.nil, ?_⟩
    obtain ⟨h, e⟩ := List.getElem?_eq_some_iff.1 ho
    rw [← e, List.set_getElem_self]
  | cons x l => exact hS (x :: l) (by simp) hl hr H i0 ho

def sumI (S : List Ent) (n : Nat) (m : Nat) (ρ : List AVal) (H : List AObj) : Prop :=
  (∃ (i : Nat) (pre : List Ent), i + m = n ∧ grpL S = pre ++ grpL (S.drop i) ∧ (pre.all fun e => smallB e.cnt) = true ∧ pre.length ≤ i ∧ H = [.arr 2 (eC S), .arr 2 (eC (pre.filter nzB))] ∧
    Sv 66 [(0, .sl 0 n 0 n), (4, .sl 1 (pre.filter nzB).length 0 (pre.filter nzB).length), (5, .bool true), (6, .int .i64 i)] ρ) ∨
  (∃ i : Nat, ((grpL S).all fun e => smallB e.cnt) = false ∧ i ≤ n ∧ H = [.arr 2 (eC S)] ∧ Sv 66 [(0, .sl 0 n 0 n), (4, .nil), (5, .bool false), (6, .int .i64 i)] ρ)

set_option maxHeartbeats 2000000 in
set_option maxRecDepth 20000 in
theorem bag_sum_spec {P : Program} (F : F_bag_sum P) (hS : SortE P F.slices_SortFunc_LEntry_Entry.id F.bag_sum_1.id) (ex : Bool) (l : List Ent) (hl : l.length ≤ 100000) (hE : ∀ e ∈ l, EntOk e) (H : List AObj) :
    ACalls P F.id [.list ex 2 (eC l)] H (fun r H' => r = resR (srtM l.length l) ∧ H' = H) := by
  have hN : ∀ S : List Ent, S.Perm l → Asc S → resR (srtM l.length l) = resR (grpL S) ∧ (∀ e ∈ S, EntOk e) ∧ S.length = l.length := fun S hp hs =>
    ⟨resR_ext (srt_srtM _ _ (by omega)) (by cases S with | nil => exact List.Pairwise.nil | cons x S => exact srt_grpA S x hs) fun r => by rw [cntL_srtM, cntL_grpL, cntL_perm hp], fun e h => hE e (hp.mem_iff.1 h), hp.length_eq⟩
  refine ACalls.pure (by simp [AVal.closed, AVal.isPure]) (acalls_of_body F.has ?_)
  (conv => whnf); refine ACalls.mono (CloneE_raw F.slices_Clone_LEntry_Entry ex l (by omega)) ?_
  rintro r H1 (⟨rfl, h0, rfl⟩ | ⟨rfl, rfl⟩)
  · subst h0
    (conv => whnf); refine ACalls.use (sort0n_spec F.slices_SortFunc_LEntry_Entry _ _) ?_
    conv => whnf
    refine ⟨fun m ρ H1 => H1 = [.arr 2 []] ∧ Sv 66 [(0, .nil), (4, .sl 0 0 0 0), (5, .bool true), (6, .int .i64 0)] ρ, 0, [(4, 2)], ?_, ?_⟩
    · exact ⟨rfl, Sv.intro rfl ⟨rfl, rfl, rfl, rfl, trivial⟩⟩
    rintro m ρ H1 ⟨rfl, d, rfl⟩
    conv => whnf
    refine (done_spec F.bag_done []).mono ?_
    rintro r H1 ⟨rfl, ⟨h, rfl⟩ | ⟨h, rfl⟩⟩
    · cases h
    · conv => whnf
      exact pub2 (pubF rfl rfl rfl rfl) (.closed _ rfl)
  · (conv => whnf); refine ACalls.mono (hS.all l (by omega) (fun e h => by have := (hE e h).1; omega) _ 0 rfl) ?_
    rintro r H1 ⟨rfl, S, hp, hs, rfl⟩
    obtain ⟨hR, hA, hSl⟩ := hN S hp hs
    replace hA : ∀ e ∈ S, EntOk e := hA
    clear hN hE
    have hl2 : S.length ≤ 100000 := by omega
    rw [hR, ← hSl]
    clear hR hSl hl
    conv => whnf
    refine ⟨sumI S S.length, S.length, [(4, 2)], ?_, ?_⟩
    · exact .inl ⟨0, [], by omega, rfl, rfl, Nat.le_refl _, rfl, Sv.intro rfl ⟨rfl, rfl, rfl, rfl, trivial⟩⟩
    rintro m ρ H1 (⟨i, pre, hm, hG, hP, hpl, rfl, d, rfl⟩ | ⟨i, hbad, hi, rfl, d, rfl⟩)
    · have hO : (pre.filter nzB).length ≤ pre.length := List.length_filter_le _ _
      (conv => whnf); refine recT (by rw [eC_length]; exact Nat.beq_refl _) ?_
      (conv => whnf); refine recA (fun hlt => ?_) (fun hlt => ?_)
      · simp at hlt
        obtain ⟨x, hx⟩ : ∃ x, S[i]? = some x := ⟨S[i], List.getElem?_eq_getElem hlt⟩
        obtain ⟨hx1, hx2, hx3⟩ := hA x (List.mem_of_getElem? hx)
        conv => whnf
        refine ⟨fun m1 ρ1 H2 => ∃ (k : Nat) (acc : Int), k + m1 = S.length ∧ ((k = i ∧ acc = 0) ∨ (i < k ∧ grpL (S.drop i) = grpA ⟨x.row, acc⟩ (S.drop k))) ∧ -(65536 * ((k : Int) - i)) ≤ acc ∧ acc ≤ 65536 * ((k : Int) - i) ∧
          H2 = [.arr 2 (eC S), .arr 2 (eC (pre.filter nzB))] ∧ Sv 66 [(0, .sl 0 S.length 0 S.length), (4, .sl 1 (pre.filter nzB).length 0 (pre.filter nzB).length), (6, .int .i64 i), (7, .int .i64 acc), (8, .int .i64 k)] ρ1, S.length - i, [], ?_, ?_⟩
        · exact ⟨i, 0, by omega, .inl ⟨rfl, rfl⟩, by omega, by omega, rfl, Sv.intro rfl ⟨rfl, rfl, rfl, rfl, rfl, trivial⟩⟩
        rintro m1 ρ1 H2 ⟨k, acc, hk, hc, hb1, hb2, rfl, d1, rfl⟩
        (conv => whnf); refine recT (by rw [eC_length]; exact Nat.beq_refl _) ?_
        (conv => whnf); refine recA (fun hkl => ?_) (fun hkl => ?_)
        · simp at hkl
          obtain ⟨y, hy⟩ : ∃ y, S[k]? = some y := ⟨S[k], List.getElem?_eq_getElem hkl⟩
          obtain ⟨hy1, hy2, hy3⟩ := hA y (List.mem_of_getElem? hy)
          (conv => whnf); refine recT (by rw [eC_length]; exact Nat.beq_refl _) ?_
          (conv => whnf); refine And.intro (by omega) ?_
          (conv => whnf); refine recT (by rw [eC_length]; exact Nat.beq_refl _) ?_
          (conv => whnf); refine recO (eC_at0 hx) ?_
          (conv => whnf); refine recT (by rw [eC_length]; exact Nat.beq_refl _) ?_
          (conv => whnf); refine And.intro (by omega) ?_
          (conv => whnf); refine recT (by rw [eC_length]; exact Nat.beq_refl _) ?_
          (conv => whnf); refine recO (eC_at0 hy) ?_
          (conv => whnf); refine ⟨_, value_CompareRows_spec F.value_CompareRows false false x.row y.row (by omega) _, ?_⟩
          (conv => whnf); refine recA (fun hc2 => ?_) (fun hc2 => ?_)
          · replace hc2 : (rowsCmp x.row y.row == 0) = true := hc2
            have hc3 : rowsCmp x.row y.row = 0 := by simpa using hc2
            (conv => whnf); refine recT (by rw [eC_length]; exact Nat.beq_refl _) ?_
            (conv => whnf); refine And.intro (by omega) ?_
            (conv => whnf); refine recT (by rw [eC_length]; exact Nat.beq_refl _) ?_
            (conv => whnf); refine recO (eC_at0 hy) ?_
            conv => whnf
            have ew := wrapI (acc + y.cnt) (by omega) (by omega)
            refine ⟨m1 - 1, by omega, Gp.two 0 1 (by decide) 2 2 (eC S) (eC (pre.filter nzB)) rfl rfl (pureEs_eC _) (pureEs_eC _) rfl ?_ fun ρ2 h => ⟨k + 1, acc + y.cnt, by omega, .inr ⟨by omega, ?_⟩, by omega, by omega, rfl, h⟩⟩
            · exact ⟨pubSl (k := 0) rfl rfl rfl rfl, pubSl (k := 1) rfl rfl rfl rfl, .closed _ rfl, pub_int ew, pub_int (wrapI _ (by omega) (by omega)), trivial⟩
            · rcases hc with ⟨h1, h2⟩ | ⟨h1, h2⟩
              · subst h1 h2
                rw [hx] at hy
                cases hy
                rw [grpL_drop hx, Int.zero_add]
              · exact h2.trans (grpA_step (c := ⟨x.row, acc⟩) hy hc3)
          · replace hc2 : (rowsCmp x.row y.row == 0) = false := hc2
            have hc3 : rowsCmp x.row y.row ≠ 0 := by simpa using hc2
            have hik : i < k ∧ grpL (S.drop i) = grpA ⟨x.row, acc⟩ (S.drop k) := by
              rcases hc with ⟨h1, h2⟩ | h
              · subst h1
                rw [hx] at hy
                cases hy
                exact absurd ((rowsCmp_zero _ _).2 rfl) hc3
              · exact h
            have hend := hik.2.trans (grpA_end (.inr ⟨y, hy, hc3⟩))
            conv => whnf
            have hN : grpL S = (pre ++ [⟨x.row, acc⟩]) ++ grpL (S.drop k) := by rw [hG, hend, List.append_assoc]; rfl
            (conv => whnf); refine recT (by rw [eC_length]; exact Nat.beq_refl _) ?_
            (conv => whnf); refine And.intro (by omega) ?_
            (conv => whnf); refine recT (by rw [eC_length]; exact Nat.beq_refl _) ?_
            (conv => whnf); refine recO (eC_at0 hx) ?_
            (conv => whnf); refine ACalls.mono (put1_spec F.bag_put (.arr 2 (eC S)) false (pre.filter nzB) (by omega) x.row (by omega) acc) ?_
            rintro r H1 (⟨hsm, rfl, rfl⟩ | ⟨hsm, hz0, rfl, rfl⟩ | ⟨hsm, hz0, rfl, rfl⟩)
            · conv => whnf
              refine ⟨m - 1, by omega, Gp.one 0 2 (eC S) rfl (pureEs_eC _) rfl ?_ fun ρ2 h => .inr ⟨k, by rw [hN]; simp [hsm], by omega, rfl, h⟩⟩
              exact ⟨pubSl (k := 0) rfl rfl rfl rfl, .closed _ rfl, .closed _ rfl, .closed _ rfl, trivial⟩
            · have hPN : ((pre ++ [(⟨x.row, acc⟩ : Ent)]).all fun e => smallB e.cnt) = true := by rw [List.all_append, hP]; simp [hsm]
              have hF : (pre ++ [(⟨x.row, acc⟩ : Ent)]).filter nzB = pre.filter nzB := by rw [List.filter_append]; simp [nzB, hz0]
              conv => whnf
              refine ⟨S.length - k, by omega, Gp.two 0 1 (by decide) 2 2 (eC S) (eC ((pre ++ [(⟨x.row, acc⟩ : Ent)]).filter nzB)) rfl (by rw [hF]; rfl) (pureEs_eC _) (pureEs_eC _) rfl ?_ fun ρ2 h => .inl ⟨k, pre ++ [⟨x.row, acc⟩], by omega, hN, hPN, by simp; omega, rfl, h⟩⟩
              exact ⟨pubSl (k := 0) rfl rfl rfl rfl, by rw [hF]; exact pubSl (k := 1) rfl rfl rfl rfl, .closed _ rfl, .closed _ rfl, trivial⟩
            · have hPN : ((pre ++ [(⟨x.row, acc⟩ : Ent)]).all fun e => smallB e.cnt) = true := by rw [List.all_append, hP]; simp [hsm]
              have hF : (pre ++ [(⟨x.row, acc⟩ : Ent)]).filter nzB = pre.filter nzB ++ [⟨x.row, acc⟩] := by rw [List.filter_append]; simp [nzB, hz0]
              have hFl : ((pre ++ [(⟨x.row, acc⟩ : Ent)]).filter nzB).length = (pre.filter nzB).length + 1 := by rw [hF, List.length_append]; rfl
              conv => whnf
              refine ⟨S.length - k, by omega, Gp.two 0 1 (by decide) 2 2 (eC S) (eC ((pre ++ [(⟨x.row, acc⟩ : Ent)]).filter nzB)) rfl (by rw [hF]; rfl) (pureEs_eC _) (pureEs_eC _) rfl ?_ fun ρ2 h => .inl ⟨k, pre ++ [⟨x.row, acc⟩], by omega, hN, hPN, by simp; omega, rfl, h⟩⟩
              exact ⟨pubSl (k := 0) rfl rfl rfl rfl, pubSl (k := 1) rfl rfl hFl.symm hFl.symm, .closed _ rfl, .closed _ rfl, trivial⟩
        · simp at hkl
          have hik : i < k ∧ grpL (S.drop i) = grpA ⟨x.row, acc⟩ (S.drop k) := by
            rcases hc with ⟨h1, h2⟩ | h
            · omega
            · exact h
          have hend := hik.2.trans (grpA_end (.inl hkl))
          conv => whnf
          have hN : grpL S = (pre ++ [⟨x.row, acc⟩]) ++ grpL (S.drop k) := by rw [hG, hend, List.append_assoc]; rfl
          (conv => whnf); refine recT (by rw [eC_length]; exact Nat.beq_refl _) ?_
          (conv => whnf); refine And.intro (by omega) ?_
          (conv => whnf); refine recT (by rw [eC_length]; exact Nat.beq_refl _) ?_
          (conv => whnf); refine recO (eC_at0 hx) ?_
          (conv => whnf); refine ACalls.mono (put1_spec F.bag_put (.arr 2 (eC S)) false (pre.filter nzB) (by omega) x.row (by omega) acc) ?_
          rintro r H1 (⟨hsm, rfl, rfl⟩ | ⟨hsm, hz0, rfl, rfl⟩ | ⟨hsm, hz0, rfl, rfl⟩)
          · conv => whnf
            refine ⟨m - 1, by omega, Gp.one 0 2 (eC S) rfl (pureEs_eC _) rfl ?_ fun ρ2 h => .inr ⟨k, by rw [hN]; simp [hsm], by omega, rfl, h⟩⟩
            exact ⟨pubSl (k := 0) rfl rfl rfl rfl, .closed _ rfl, .closed _ rfl, .closed _ rfl, trivial⟩
          · have hPN : ((pre ++ [(⟨x.row, acc⟩ : Ent)]).all fun e => smallB e.cnt) = true := by rw [List.all_append, hP]; simp [hsm]
            have hF : (pre ++ [(⟨x.row, acc⟩ : Ent)]).filter nzB = pre.filter nzB := by rw [List.filter_append]; simp [nzB, hz0]
            conv => whnf
            refine ⟨S.length - k, by omega, Gp.two 0 1 (by decide) 2 2 (eC S) (eC ((pre ++ [(⟨x.row, acc⟩ : Ent)]).filter nzB)) rfl (by rw [hF]; rfl) (pureEs_eC _) (pureEs_eC _) rfl ?_ fun ρ2 h => .inl ⟨k, pre ++ [⟨x.row, acc⟩], by omega, hN, hPN, by simp; omega, rfl, h⟩⟩
            exact ⟨pubSl (k := 0) rfl rfl rfl rfl, by rw [hF]; exact pubSl (k := 1) rfl rfl rfl rfl, .closed _ rfl, .closed _ rfl, trivial⟩
          · have hPN : ((pre ++ [(⟨x.row, acc⟩ : Ent)]).all fun e => smallB e.cnt) = true := by rw [List.all_append, hP]; simp [hsm]
            have hF : (pre ++ [(⟨x.row, acc⟩ : Ent)]).filter nzB = pre.filter nzB ++ [⟨x.row, acc⟩] := by rw [List.filter_append]; simp [nzB, hz0]
            have hFl : ((pre ++ [(⟨x.row, acc⟩ : Ent)]).filter nzB).length = (pre.filter nzB).length + 1 := by rw [hF, List.length_append]; rfl
            conv => whnf
            refine ⟨S.length - k, by omega, Gp.two 0 1 (by decide) 2 2 (eC S) (eC ((pre ++ [(⟨x.row, acc⟩ : Ent)]).filter nzB)) rfl (by rw [hF]; rfl) (pureEs_eC _) (pureEs_eC _) rfl ?_ fun ρ2 h => .inl ⟨k, pre ++ [⟨x.row, acc⟩], by omega, hN, hPN, by simp; omega, rfl, h⟩⟩
            exact ⟨pubSl (k := 0) rfl rfl rfl rfl, pubSl (k := 1) rfl rfl hFl.symm hFl.symm, .closed _ rfl, .closed _ rfl, trivial⟩
      · simp at hlt
        have hi : S.drop i = [] := List.drop_of_length_le hlt
        rw [hi] at hG
        have hGG : grpL S = pre := by rw [hG]; simp [grpL]
        conv => whnf
        refine (done1_spec F.bag_done _ (pre.filter nzB)).mono ?_
        rintro r H1 ⟨rfl, ⟨h, rfl⟩ | ⟨h, rfl⟩⟩
        · conv => whnf
          rw [hGG, resR, if_neg (by omega)]
          exact pub2 (.closed _ rfl) (.closed _ rfl)
        · conv => whnf
          rw [hGG, resR, if_pos ⟨hP, h⟩]
          exact pub2 (pubF rfl (eC_length _).symm (eC_length _).symm (pureEs_eC _)) (.closed _ rfl)
    · (conv => whnf); refine recT (by rw [eC_length]; exact Nat.beq_refl _) ?_
      (conv => whnf); refine recA (fun hlt => ?_) (fun hlt => ?_)
      all_goals
        conv => whnf
        rw [resR_bad _ hbad]
        exact pub2 (.closed _ rfl) (.closed _ rfl)

end Go.AW

namespace Go.AW
attribute [local irreducible] ACalls
theorem mrg_bnd {A B : Int} (hA0 : 0 ≤ A) (hB0 : 0 ≤ B) : ∀ (a b : List Ent), (∀ e ∈ a, EntB A e) → (∀ e ∈ b, EntB B e) → ∀ e ∈ mrg a b, EntB (A + B) e
  | [], b, ha, hb, e, he => by
    rw [mrg_nil] at he
    obtain ⟨h1, h2, h3⟩ := hb e he
    exact ⟨h1, by omega, by omega⟩
  | x :: a, [], ha, hb, e, he => by
    rw [mrg_nil2] at he
    obtain ⟨h1, h2, h3⟩ := ha e he
    exact ⟨h1, by omega, by omega⟩
  | x :: a, y :: b, ha, hb, e, he => by
    obtain ⟨h1, h2, h3⟩ := ha x (List.mem_cons_self ..)
    obtain ⟨k1, k2, k3⟩ := hb y (List.mem_cons_self ..)
    have ha' : ∀ e ∈ a, EntB A e := fun e h => ha e (List.mem_cons_of_mem _ h)
    have hb' : ∀ e ∈ b, EntB B e := fun e h => hb e (List.mem_cons_of_mem _ h)
    rw [mrg_cons] at he
    split at he
    · rcases List.mem_cons.1 he with rfl | he
      · exact ⟨h1, by omega, by omega⟩
      · exact mrg_bnd hA0 hB0 a (y :: b) ha' hb e he
    split at he
    · rcases List.mem_cons.1 he with rfl | he
      · exact ⟨k1, by omega, by omega⟩
      · exact mrg_bnd hA0 hB0 (x :: a) b ha hb' e he
    · rcases List.mem_cons.1 he with rfl | he
      · exact ⟨h1, by simp only []; omega, by simp only []; omega⟩
      · exact mrg_bnd hA0 hB0 a b ha' hb' e he
termination_by a b => a.length + b.length

theorem entB_mono {A B : Int} (h : A ≤ B) {e : Ent} (he : EntB A e) : EntB B e := ⟨he.1, by have := he.2.1; omega, by have := he.2.2; omega⟩

theorem srtM_bnd : ∀ (n : Nat) (l : List Ent), (∀ e ∈ l, EntOk e) → ∀ e ∈ srtM n l, EntB (65536 * (l.length : Int)) e
  | 0, l, h, e, he => by
    rw [srtM] at he
    have := List.length_pos_of_mem he
    exact entB_mono (A := 65536) (by omega) (h e he)
  | n + 1, l, h, e, he => by
    rw [srtM] at he
    split at he
    · have := List.length_pos_of_mem he
      exact entB_mono (A := 65536) (by omega) (h e he)
    · refine entB_mono ?_ (mrg_bnd (by omega) (by omega) _ _ (srtM_bnd n _ fun e h1 => h e (List.mem_of_mem_take h1)) (srtM_bnd n _ fun e h1 => h e (List.mem_of_mem_drop h1)) e he)
      rw [List.length_take, List.length_drop]; omega

theorem srtM_length : ∀ (n : Nat) (l : List Ent), (srtM n l).length ≤ l.length
  | 0, l => Nat.le_refl _
  | n + 1, l => by
    rw [srtM]
    split
    · exact Nat.le_refl _
    · have h := mrg_length (srtM n (l.take (l.length / 2))) (srtM n (l.drop (l.length / 2)))
      have h1 := srtM_length n (l.take (l.length / 2))
      have h2 := srtM_length n (l.drop (l.length / 2))
      rw [List.length_take] at h1
      rw [List.length_drop] at h2
      omega

set_option maxRecDepth 20000 in
theorem ref6_sorted_spec {P : Program} (F : F_warehouseref6_sorted P) : ∀ (n : Nat) (ex : Bool) (l : List Ent), l.length ≤ n → l.length ≤ 100000 → (∀ e ∈ l, EntOk e) → ∀ (H : List AObj),
    ACalls P F.id [.list ex 2 (eC l)] H (fun r H' => r = .list false 2 (eC (srtM n l)) ∧ H' = H) := by
  intro n
  induction n with
  | zero =>
    intro ex l hl _ hE H
    have : l = [] := List.length_eq_zero_iff.1 (by omega)
    subst this
    refine ACalls.pure rfl (acalls_of_body F.has ?_)
    (conv => whnf); refine And.intro (by decide) ?_
    conv => whnf
    exact pubF rfl rfl rfl rfl
  | succ n ih =>
    intro ex l hl hl2 hE H
    refine ACalls.pure (by simp [AVal.closed, AVal.isPure]) (acalls_of_body F.has ?_)
    (conv => whnf); refine recA (fun h => ?_) (fun h => ?_)
    · simp [eC_length] at h
      (conv => whnf); refine And.intro (⟨roomMul (by simp [eC_length]; omega) (by omega), roomB_le (by simp [eC_length]; omega)⟩) ?_
      conv => whnf
      rw [srtM, if_pos (by omega)]
      exact pubF rfl rfl rfl (pureEs_eC _)
    · simp [eC_length] at h
      have ew : IntKind.i64.wrap (((eC l).length : Int).tdiv 2) = ((l.length / 2 : Nat) : Int) := by
        rw [eC_length, Int.tdiv_eq_ediv_of_nonneg (by omega), wrapI _ (by omega) (by omega)]; omega
      have es1 : List.drop 0 (List.take (IntKind.i64.wrap (((eC l).length : Int).tdiv 2)).toNat (eC l)) = eC (l.take (l.length / 2)) := by rw [ew, Int.toNat_natCast, List.drop_zero, eC, eC, List.map_take]
      have es2 : List.drop (IntKind.i64.wrap (((eC l).length : Int).tdiv 2)).toNat (List.take (eC l).length (eC l)) = eC (l.drop (l.length / 2)) := by rw [ew, Int.toNat_natCast, List.take_length, eC, eC, List.map_drop]
      (conv => whnf); refine And.intro (by decide) ?_
      (conv => whnf); refine And.intro (⟨by rw [ew]; omega, by rw [ew, eC_length]; omega⟩) ?_
      conv => whnf
      rw [es1]
      (conv => whnf); refine ⟨_, ih _ (l.take (l.length / 2)) (by rw [List.length_take]; omega) (by rw [List.length_take]; omega) (fun e h => hE e (List.mem_of_mem_take h)) _, ?_⟩
      (conv => whnf); refine And.intro (by decide) ?_
      (conv => whnf); refine And.intro (⟨by rw [ew]; omega, by rw [ew, eC_length]; omega⟩) ?_
      conv => whnf
      rw [es2]
      (conv => whnf); refine ⟨_, ih _ (l.drop (l.length / 2)) (by rw [List.length_drop]; omega) (by rw [List.length_drop]; omega) (fun e h => hE e (List.mem_of_mem_drop h)) _, ?_⟩
      have b1 := srtM_bnd n (l.take (l.length / 2)) fun e h => hE e (List.mem_of_mem_take h)
      have b2 := srtM_bnd n (l.drop (l.length / 2)) fun e h => hE e (List.mem_of_mem_drop h)
      have c1 := srtM_length n (l.take (l.length / 2))
      have c2 := srtM_length n (l.drop (l.length / 2))
      rw [List.length_take] at b1 c1
      rw [List.length_drop] at b2 c2
      (conv => whnf); refine ⟨_, ref6_mergeB_spec F.warehouseref6_merge (B := 65536 * 100000) (by decide) false false _ _ (by omega) (by omega) (fun e h => entB_mono (by omega) (b1 e h)) (fun e h => entB_mono (by omega) (b2 e h)) _, ?_⟩
      conv => whnf
      rw [srtM, if_neg (by omega)]
      exact .closed _ (by simp [AVal.closed, AVal.isPure])

set_option maxRecDepth 20000 in
theorem ref6_Sum_spec {P : Program} (F : F_warehouseref6_Sum P) (ex : Bool) (l : List Ent) (hl : l.length ≤ 100000) (hE : ∀ e ∈ l, EntOk e) (H : List AObj) :
    ACalls P F.id [.list ex 2 (eC l)] H (fun r H' => r = resR (srtM l.length l) ∧ H' = H) := by
  refine ACalls.pure (by simp [AVal.closed, AVal.isPure]) (acalls_of_body F.has ?_)
  (conv => whnf); refine ACalls.use (ref6_sorted_spec F.warehouseref6_sorted l.length ex l (Nat.le_refl _) hl hE _) ?_
  have hb := srtM_bnd l.length l hE
  have hc := srtM_length l.length l
  (conv => whnf); refine ACalls.use (ref6_result_spec F.warehouseref6_result false (srtM l.length l) (by omega) (fun e h => by have := (hb e h).1; omega) _) ?_
  rcases resR_cases (srtM l.length l) with h | h
  all_goals
    rw [h]
    conv => whnf
    exact pub2 (.closed _ rfl) (.closed _ rfl)

def frmE : List Ent → Int
  | [] => 0
  | e :: l => if fitB e ≠ 0 then fitB e else frmE l

def norR (l : List Ent) : AVal := if frmE l ≠ 0 then .tuple [.nil, .int .i64 (frmE l)] else resR (srtM l.length l)

theorem frmE_ok : ∀ (l : List Ent), frmE l = 0 → ∀ e ∈ l, fitB e = 0
  | [], _, e, he => by cases he
  | x :: l, h, e, he => by
    rw [frmE] at h
    by_cases hx : fitB x = 0
    · rw [if_neg (by simp [hx])] at h
      rcases List.mem_cons.1 he with rfl | he
      · exact hx
      · exact frmE_ok l h e he
    · rw [if_pos hx] at h; exact absurd h hx

theorem fit_ok {e : Ent} (h : fitB e = 0) : EntOk e := by
  obtain ⟨h1, h2, h3, _⟩ := fitB_zero e h
  exact ⟨h1, h2, h3⟩

set_option maxRecDepth 20000 in
theorem ref6_Normalize_spec {P : Program} (F : F_warehouseref6_Normalize P) (ex : Bool) (l : List Ent) (hl : l.length ≤ 100000) (H : List AObj) :
    ACalls P F.id [.list ex 2 (eC l)] H (fun r H' => r = norR l ∧ H' = H) := by
  refine ACalls.pure (by simp [AVal.closed, AVal.isPure]) (acalls_of_body F.has ?_)
  conv => whnf
  refine ⟨fun m ρ H1 => ∃ k : Nat, k + m = l.length ∧ frmE l = frmE (l.drop k) ∧ H1 = [] ∧ Sv 24 [(0, .list ex 2 (eC l)), (4, .int .i64 k)] ρ, l.length, [], ?_, ?_⟩
  · exact ⟨0, by omega, rfl, rfl, Sv.intro rfl ⟨rfl, rfl, trivial⟩⟩
  rintro m ρ H1 ⟨k, hk, hr, rfl, d, rfl⟩
  (conv => whnf); refine recA (fun hlt => ?_) (fun hlt => ?_)
  · simp [eC_length] at hlt
    have hx : l[k]? = some l[k] := List.getElem?_eq_getElem hlt
    rw [List.drop_eq_getElem_cons hlt, frmE] at hr
    (conv => whnf); refine And.intro (by omega) ?_
    (conv => whnf); refine recO (eC_at hx) ?_
    (conv => whnf); refine ACalls.use (fits_spec F.warehouseref6_fits l[k] _) ?_
    (conv => whnf); refine recA (fun h1 => ?_) (fun h1 => ?_)
    · replace h1 : (!(fitB l[k] == 0)) = true := h1
      have h2 : fitB l[k] ≠ 0 := by simpa using h1
      rw [if_pos h2] at hr
      conv => whnf
      rw [norR, hr, if_pos h2]
      exact pub2 (.closed _ rfl) (.closed _ rfl)
    · replace h1 : (!(fitB l[k] == 0)) = false := h1
      have h2 : fitB l[k] = 0 := by simpa using h1
      rw [if_neg (by simp [h2])] at hr
      conv => whnf
      refine ⟨m - 1, by omega, Gp.keep rfl ?_ fun ρ1 h => ⟨k + 1, by omega, hr, rfl, h⟩⟩
      exact ⟨rfl, intEq (wrapI _ (by omega) (by omega)), trivial⟩
  · simp [eC_length] at hlt
    rw [List.drop_of_length_le (by omega), frmE] at hr
    (conv => whnf); refine ACalls.use (ref6_Sum_spec F.warehouseref6_Sum ex l hl (fun e h => fit_ok (frmE_ok l hr e h)) _) ?_
    rw [norR, if_neg (by simp [hr])]
    rcases resR_cases (srtM l.length l) with h | h
    all_goals
      rw [h]
      conv => whnf
      exact pub2 (.closed _ rfl) (.closed _ rfl)

set_option maxRecDepth 20000 in
theorem bag_Normalize_spec {P : Program} (F : F_bag_Normalize P) (hS : SortE P F.bag_sum.slices_SortFunc_LEntry_Entry.id F.bag_sum.bag_sum_1.id) (ex : Bool) (l : List Ent) (hl : l.length ≤ 100000) (H : List AObj) :
    ACalls P F.id [.list ex 2 (eC l)] H (fun r H' => r = norR l ∧ H' = H) := by
  refine ACalls.pure (by simp [AVal.closed, AVal.isPure]) (acalls_of_body F.has ?_)
  conv => whnf
  refine ⟨fun m ρ H1 => ∃ k : Nat, k + m = l.length ∧ frmE l = frmE (l.drop k) ∧ H1 = [] ∧ Sv 23 [(0, .list ex 2 (eC l)), (7, .list ex 2 (eC l)), (8, .int .i64 l.length), (9, .int .i64 k)] ρ, l.length, [], ?_, ?_⟩
  · exact ⟨0, by omega, rfl, rfl, Sv.intro rfl ⟨rfl, rfl, intEq (by rw [eC_length]), rfl, trivial⟩⟩
  rintro m ρ H1 ⟨k, hk, hr, rfl, d, rfl⟩
  (conv => whnf); refine recA (fun hlt => ?_) (fun hlt => ?_)
  · simp at hlt
    have hx : l[k]? = some l[k] := List.getElem?_eq_getElem hlt
    rw [List.drop_eq_getElem_cons hlt, frmE] at hr
    (conv => whnf); refine And.intro (by omega) ?_
    (conv => whnf); refine recO (eC_at hx) ?_
    (conv => whnf); refine ACalls.use (formed_spec F.bag_formed l[k] _) ?_
    (conv => whnf); refine recA (fun h1 => ?_) (fun h1 => ?_)
    · replace h1 : (!(fitB l[k] == 0)) = true := h1
      have h2 : fitB l[k] ≠ 0 := by simpa using h1
      rw [if_pos h2] at hr
      conv => whnf
      rw [norR, hr, if_pos h2]
      exact pub2 (.closed _ rfl) (.closed _ rfl)
    · replace h1 : (!(fitB l[k] == 0)) = false := h1
      have h2 : fitB l[k] = 0 := by simpa using h1
      rw [if_neg (by simp [h2])] at hr
      conv => whnf
      refine ⟨m - 1, by omega, Gp.none rfl ?_ fun ρ1 h => ⟨k + 1, by omega, hr, rfl, h⟩⟩
      exact ⟨.closed (.list ex 2 (eC l)) rfl, .closed (.list ex 2 (eC l)) rfl, .closed _ rfl, pub_int (wrapI _ (by omega) (by omega)), trivial⟩
  · simp at hlt
    rw [List.drop_of_length_le (by omega), frmE] at hr
    (conv => whnf); refine ACalls.use (bag_sum_spec F.bag_sum hS ex l hl (fun e h => fit_ok (frmE_ok l hr e h)) _) ?_
    rw [norR, if_neg (by simp [hr])]
    rcases resR_cases (srtM l.length l) with h | h
    all_goals
      rw [h]
      conv => whnf
      exact pub2 (.closed _ rfl) (.closed _ rfl)

end Go.AW

namespace Go.AW
attribute [local irreducible] ACalls
def tabB (b : List Ent) : Bool := (bagB b == 0) && b.all posE

def negE (e : Ent) : Bool := decide (e.cnt < 0)

theorem bag_IsTable_1_spec {P : Program} (F : F_bag_IsTable_1 P) (e : Ent) (H : List AObj) :
    ACalls P F.id [.agg (entC e)] H (fun r H' => r = .bool (negE e) ∧ H' = H) := by
  refine ACalls.pure (by simp [AVal.closed, entC, AVal.isPure]) (acalls_of_body F.has ?_)
  conv => whnf
  exact .closed _ rfl

theorem ContainsE_spec {P : Program} (F : F_slices_ContainsFunc_LEntry_Entry P) (g : FuncId) (p : Ent → Bool) (hg : ∀ c H, ACalls P g [.agg (entC c)] H (fun r H' => r = .bool (p c) ∧ H' = H)) (ex : Bool) (l : List Ent) (hl : l.length ≤ 1000000) (H : List AObj) :
    ACalls P F.id [.list ex 2 (eC l), .fn g []] H (fun r H' => r = .bool (l.any p) ∧ H' = H) := by
  refine ACalls.pure (by simp [AVal.closed, AVal.isPure]) (acalls_of_body F.has ?_)
  (conv => whnf); refine ACalls.use (IndexFuncE_spec F.slices_IndexFunc_LEntry_Entry g [] p _ l (fun c _ => hg c _) ex hl) ?_
  conv => whnf
  refine pubB ?_
  have h := idxOf_any p l 0 (by omega)
  rw [Bool.eq_iff_iff, ← h]; simp

theorem neg_any {b : List Ent} (h : bagB b = 0) : (!(b.any negE)) = b.all posE := by
  have hn := fun e he => (((bagB_iff b).1 h).2.1 e he).2
  rw [Bool.eq_iff_iff]
  simp only [Bool.not_eq_true', List.any_eq_false, List.all_eq_true, negE, posE, decide_eq_true_eq]
  constructor
  · intro h1 e he
    have := h1 e he
    have := hn e he
    omega
  · intro h1 e he
    have := h1 e he
    omega

set_option maxRecDepth 20000 in
theorem bag_IsTable_spec {P : Program} (F : F_bag_IsTable P) (ex : Bool) (b : List Ent) (H : List AObj) :
    ACalls P F.id [.list ex 2 (eC b)] H (fun r H' => r = .bool (tabB b) ∧ H' = H) := by
  refine ACalls.pure (by simp [AVal.closed, AVal.isPure]) (acalls_of_body F.has ?_)
  (conv => whnf); refine ACalls.use (bag_Validate_spec F.bag_Validate ex b _) ?_
  (conv => whnf); refine recA (fun h => ?_) (fun h => ?_)
  · replace h : (bagB b == 0) = true := h
    have h1 : bagB b = 0 := by simpa using h
    (conv => whnf); refine ACalls.use (ContainsE_spec F.slices_ContainsFunc_LEntry_Entry F.bag_IsTable_1.id negE (fun c H => bag_IsTable_1_spec F.bag_IsTable_1 c H) ex b (bagB_le h1) _) ?_
    conv => whnf
    exact pubB (by rw [neg_any h1, tabB, h, Bool.true_and])
  · replace h : (bagB b == 0) = false := h
    conv => whnf
    exact pubB (by rw [tabB, h, Bool.false_and])

def subR (a b : List Ent) : AVal :=
  if bagB a ≠ 0 then .tuple [.nil, .int .i64 (bagB a)] else if bagB b ≠ 0 then .tuple [.nil, .int .i64 (bagB b)] else resR (mrg a (sgn (-1) b))

set_option maxRecDepth 20000 in
theorem bag_Subtract_spec {P : Program} (F : F_bag_Subtract P) (e1 e2 : Bool) (a b : List Ent) (H : List AObj) :
    ACalls P F.id [.list e1 2 (eC a), .list e2 2 (eC b)] H (fun r H' => r = subR a b ∧ H' = H) := by
  refine ACalls.pure (by simp [AVal.closed, AVal.isPure]) (acalls_of_body F.has ?_)
  (conv => whnf); refine ACalls.use (both_spec F.bag_both e1 e2 a b _) ?_
  by_cases h1 : bagB a = 0
  · rw [if_neg (by simp [h1])]
    by_cases h2 : bagB b = 0
    · (conv => whnf); refine recF (by rw [h2]; rfl) ?_
      obtain ⟨a1, a2, _⟩ := bagB_ok h1
      obtain ⟨b1, b2, _⟩ := bagB_ok h2
      (conv => whnf); refine ACalls.use (bag_merge_spec F.bag_merge e1 e2 a b (-1) (.inr rfl) a1 b1 a2 b2 _) ?_
      rw [subR, if_neg (by simp [h1]), if_neg (by simp [h2])]
      rcases resR_cases (mrg a (sgn (-1) b)) with h | h
      all_goals
        rw [h]
        conv => whnf
        exact pub2 (.closed _ rfl) (.closed _ rfl)
    · (conv => whnf); refine recT (by show (!(bagB b == 0)) = true; simp [h2]) ?_
      conv => whnf
      rw [subR, if_neg (by simp [h1]), if_pos h2]
      exact pub2 (.closed _ rfl) (.closed _ rfl)
  · rw [if_pos h1]
    (conv => whnf); refine recT (by show (!(bagB a == 0)) = true; simp [h1]) ?_
    conv => whnf
    rw [subR, if_pos h1]
    exact pub2 (.closed _ rfl) (.closed _ rfl)

end Go.AW

namespace Go.AW
attribute [local irreducible] ACalls
def oneR (n : Int) : List V := [⟨2, n, bs []⟩]

theorem one6_spec {P : Program} (F : F_warehouselaw6_one P) (n : Int) (H : List AObj) :
    ACalls P F.id [.int .i64 n] H (fun r H' => r = .list false 3 (vC (oneR n)) ∧ H' = H) := by
  refine ACalls.weakR (Q := fun r H' => r = .list true 3 (vC (oneR n)) ∧ H' = H) ?_ (by rintro r H' ⟨rfl, rfl⟩; exact ⟨_, .list true false 3 _ (by simp), rfl, rfl⟩)
  refine ACalls.pure rfl (acalls_of_body F.has ?_)
  conv => whnf
  exact .closed _ rfl

def lightE (l : List Ent) : Bool := decide (l.length ≤ 60) && l.all fun e => decide (e.row.length ≤ 60)

theorem lightE_ok {l : List Ent} (h : lightE l = true) : l.length ≤ 60 ∧ ∀ e ∈ l, e.row.length ≤ 60 := by
  rw [lightE, Bool.and_eq_true] at h
  exact ⟨by simpa using h.1, fun e he => by simpa using List.all_eq_true.1 h.2 e he⟩

set_option maxRecDepth 20000 in
theorem light6_spec {P : Program} (F : F_warehouselaw6_light P) (ex : Bool) (l : List Ent) (H : List AObj) :
    ACalls P F.id [.list ex 2 (eC l)] H (fun r H' => r = .bool (lightE l) ∧ H' = H) := by
  refine ACalls.pure (by simp [AVal.closed, AVal.isPure]) (acalls_of_body F.has ?_)
  (conv => whnf); refine recA (fun h => ?_) (fun h => ?_)
  · simp [eC_length] at h
    conv => whnf
    exact pubB (by rw [lightE, decide_eq_false (by omega), Bool.false_and])
  simp [eC_length] at h
  conv => whnf
  refine ⟨fun m ρ H1 => ∃ k : Nat, k + m = l.length ∧ lightE l = (l.drop k).all (fun e => decide (e.row.length ≤ 60)) ∧ H1 = [] ∧ Sv 20 [(0, .list ex 2 (eC l)), (3, .int .i64 k)] ρ, l.length, [], ?_, ?_⟩
  · exact ⟨0, by omega, by rw [lightE, decide_eq_true (by omega), Bool.true_and]; rfl, rfl, Sv.intro rfl ⟨rfl, rfl, trivial⟩⟩
  rintro m ρ H1 ⟨k, hk, hr, rfl, d, rfl⟩
  (conv => whnf); refine recA (fun hlt => ?_) (fun hlt => ?_)
  · simp [eC_length] at hlt
    have hx : l[k]? = some l[k] := List.getElem?_eq_getElem hlt
    rw [List.drop_eq_getElem_cons hlt, List.all_cons] at hr
    (conv => whnf); refine And.intro (by omega) ?_
    (conv => whnf); refine recO (eC_at hx) ?_
    (conv => whnf); refine recA (fun h1 => ?_) (fun h1 => ?_)
    · simp [vC_length] at h1
      conv => whnf
      exact pubB (by rw [hr, decide_eq_false (by omega), Bool.false_and])
    · simp [vC_length] at h1
      rw [decide_eq_true (by omega), Bool.true_and] at hr
      conv => whnf
      refine ⟨m - 1, by omega, Gp.keep rfl ?_ fun ρ1 h => ⟨k + 1, by omega, hr, rfl, h⟩⟩
      exact ⟨rfl, intEq (wrapI _ (by omega) (by omega)), trivial⟩
  · simp [eC_length] at hlt
    rw [List.drop_of_length_le (by omega)] at hr
    conv => whnf
    exact pubB hr.symm

theorem oneC : ∀ (a b : Int), rowsCmp (oneR a) (oneR b) = if a < b then -1 else if b < a then 1 else 0 := by
  intro a b
  have h : valCmp ⟨2, a, bs []⟩ ⟨2, b, bs []⟩ = if a < b then -1 else if b < a then 1 else 0 := by
    unfold valCmp
    simp only [orI, cmpI, cmpS]
    by_cases h1 : a < b
    · simp [h1]
    · by_cases h2 : b < a
      · simp [h1, h2]
      · simp only [h1, h2, if_neg, if_true, not_false_eq_true]
        rfl
  rw [oneR, oneR, rowsCmp, rowsCmp, h]
  by_cases h1 : a < b
  · simp [h1]
  · by_cases h2 : b < a
    · simp [h1, h2]
    · simp [h1, h2, rowsCmp]

theorem norK : norR [⟨oneR 1, 2⟩, ⟨oneR 2, 1⟩, ⟨oneR 1, -2⟩] = .tuple [.list false 2 (eC [⟨oneR 2, 1⟩]), .int .i64 0] := by
  have h0 : frmE [⟨oneR 1, 2⟩, ⟨oneR 2, 1⟩, ⟨oneR 1, -2⟩] = 0 := by decide
  have h1 : srtM 3 [⟨oneR 1, 2⟩, ⟨oneR 2, 1⟩, ⟨oneR 1, -2⟩] = [⟨oneR 1, 0⟩, ⟨oneR 2, 1⟩] := by
    show mrg [⟨oneR 1, 2⟩] (mrg [⟨oneR 2, 1⟩] [⟨oneR 1, -2⟩]) = _
    simp [mrg_cons, mrg_nil, mrg_nil2, oneC]
  rw [norR, if_neg (by simp [h0])]
  show resR (srtM 3 _) = _
  rw [h1]
  rfl

theorem subK : subR [⟨oneR 1, 1⟩] [⟨oneR 1, 3⟩] = .tuple [.list false 2 (eC [⟨oneR 1, -2⟩]), .int .i64 0] := by
  have h0 : bagB [⟨oneR 1, 1⟩] = 0 := by decide
  have h1 : bagB [⟨oneR 1, 3⟩] = 0 := by decide
  rw [subR, if_neg (by simp [h0]), if_neg (by simp [h1])]
  have h2 : mrg [⟨oneR 1, 1⟩] (sgn (-1) [⟨oneR 1, 3⟩]) = [⟨oneR 1, -2⟩] := by
    show mrg [⟨oneR 1, 1⟩] [⟨oneR 1, -1 * 3⟩] = _
    simp [mrg_cons, mrg_nil, mrg_nil2, oneC]
  rw [h2]
  rfl

abbrev SortL (P : Program) (F : F_bag_Normalize P) : Prop := SortE P F.bag_sum.slices_SortFunc_LEntry_Entry.id F.bag_sum.bag_sum_1.id

set_option maxRecDepth 20000 in
theorem known6_spec {P : Program} (F : F_warehouselaw6_known P) (hS : SortL P F.bag_Normalize) (H : List AObj) :
    ACalls P F.id [] H (fun r H' => r = .bool true ∧ H' = H) := by
  refine ACalls.pure rfl (acalls_of_body F.has ?_)
  have o := fun n H => one6_spec F.warehouselaw6_one n H
  have i1 : tabB [⟨oneR 2, 1⟩] = true := rfl
  have i2 : tabB [⟨oneR 1, -2⟩] = false := rfl
  (conv => whnf); refine ACalls.use (o 1 _) ?_
  (conv => whnf); refine ACalls.use (o 2 _) ?_
  (conv => whnf); refine ACalls.use (o 1 _) ?_
  (conv => whnf); refine ACalls.use (bag_Normalize_spec F.bag_Normalize hS true [⟨oneR 1, 2⟩, ⟨oneR 2, 1⟩, ⟨oneR 1, -2⟩] (by decide) _) ?_
  rw [norK]
  (conv => whnf); refine ACalls.use (o 1 _) ?_
  (conv => whnf); refine ACalls.use (o 1 _) ?_
  (conv => whnf); refine ACalls.use (bag_Subtract_spec F.bag_Subtract true true [⟨oneR 1, 1⟩] [⟨oneR 1, 3⟩] _) ?_
  rw [subK]
  (conv => whnf); refine ACalls.use (o 2 _) ?_
  (conv => whnf); refine ACalls.use (ref6_Same_spec F.warehouseref6_Same false true [⟨oneR 2, 1⟩] [⟨oneR 2, 1⟩] (by decide) (by intro x hx; cases hx with | head => decide | tail _ h => cases h) _) ?_
  (conv => whnf); refine recT (eqD_true rfl) ?_
  (conv => whnf); refine ACalls.use (o 1 _) ?_
  (conv => whnf); refine ACalls.use (ref6_Same_spec F.warehouseref6_Same false true [⟨oneR 1, -2⟩] [⟨oneR 1, -2⟩] (by decide) (by intro x hx; cases hx with | head => decide | tail _ h => cases h) _) ?_
  (conv => whnf); refine recT (eqD_true rfl) ?_
  (conv => whnf); refine ACalls.use (bag_IsTable_spec F.bag_IsTable false [⟨oneR 2, 1⟩] _) ?_
  rw [i1]
  (conv => whnf); refine ACalls.use (bag_IsTable_spec F.bag_IsTable false [⟨oneR 1, -2⟩] _) ?_
  rw [i2]
  conv => whnf
  exact .closed _ rfl

end Go.AW

namespace Go.AW
attribute [local irreducible] ACalls
def rowOk (e : Ent) : Prop := e.row.length ≤ 12 ∧ e.row.all validB = true

def resP (l : List Ent) : List Ent × Int := if (l.all fun e => smallB e.cnt) = true ∧ (l.filter nzB).length ≤ 4096 then (l.filter nzB, 0) else ([], 2)

def tR (p : List Ent × Int) : AVal := if p.2 ≠ 0 then .tuple [.nil, .int .i64 p.2] else .tuple [.list false 2 (eC p.1), .int .i64 0]

def rV (p : List Ent × Int) : AVal := .tuple [.list false 2 (eC p.1), .int .i64 p.2]

theorem resR_P (l : List Ent) : resR l = tR (resP l) := by
  rw [resR, resP]
  split <;> rfl

theorem tR_wk {p : List Ent × Int} (h : p.2 ≠ 0 → p.1 = []) : WkD (tR p) (rV p) := by
  unfold tR rV
  split
  · rename_i h1
    rw [h h1]
    exact .tuples (.cons (.nil false 2) (.cons (.refl _) ⟨rfl, fun i a b h => by simp at h⟩))
  · rename_i h1
    have : p.2 = 0 := Classical.byContradiction fun h => h1 h
    rw [this]
    exact .refl _

def Good (p : List Ent × Int) : Prop := bagB p.1 = 0 ∧ (p.2 ≠ 0 → p.1 = [])

theorem good_err (n : Int) : Good ([], n) := ⟨rfl, fun _ => rfl⟩

theorem resP_good {l : List Ent} (hs : Srt l) (hf : ∀ e ∈ l, rowOk e) : Good (resP l) := by
  unfold resP
  split
  · rename_i h
    refine ⟨(bagB_iff _).2 ⟨h.2, fun e he => ?_, srt_filter _ hs⟩, fun h => absurd rfl h⟩
    obtain ⟨h1, h2⟩ := List.mem_filter.1 he
    exact ⟨(fitB_iff e).2 ⟨(hf e h1).1, List.all_eq_true.1 h.1 e h1, (hf e h1).2⟩, by simpa [nzB] using h2⟩
  · exact good_err 2

theorem mem_srtM : ∀ (n : Nat) (l : List Ent) (e : Ent), e ∈ srtM n l → ∃ x ∈ l, x.row = e.row
  | 0, l, e, h => ⟨e, h, rfl⟩
  | n + 1, l, e, h => by
    rw [srtM] at h
    split at h
    · exact ⟨e, h, rfl⟩
    · rcases mem_mrg _ _ e h with ⟨x, hx, hr⟩ | ⟨x, hx, hr⟩
      · obtain ⟨y, hy, hyr⟩ := mem_srtM n _ x hx
        exact ⟨y, List.mem_of_mem_take hy, hyr.trans hr⟩
      · obtain ⟨y, hy, hyr⟩ := mem_srtM n _ x hx
        exact ⟨y, List.mem_of_mem_drop hy, hyr.trans hr⟩

theorem rowOk_of {x e : Ent} (h : rowOk x) (hr : x.row = e.row) : rowOk e := by rw [rowOk, ← hr]; exact h

def sumP (l : List Ent) : List Ent × Int := resP (srtM l.length l)

theorem sumP_good {l : List Ent} (hf : ∀ e ∈ l, rowOk e) : Good (sumP l) :=
  resP_good (srt_srtM _ _ (by omega)) fun e he => by
    obtain ⟨x, hx, hr⟩ := mem_srtM _ _ e he
    exact rowOk_of (hf x hx) hr

theorem sumP_ext {a b : List Ent} (h : ∀ r, cntL a r = cntL b r) : sumP a = sumP b := by
  have ha := srt_srtM a.length a (by omega)
  have hb := srt_srtM b.length b (by omega)
  have hcn : ∀ r, cntL (srtM a.length a) r = cntL (srtM b.length b) r := fun r => by rw [cntL_srtM, cntL_srtM, h r]
  have e : (srtM a.length a).filter nzB = (srtM b.length b).filter nzB := bag_ext _ _ (ha.filter _) (hb.filter _) (fun e he => by have := (List.mem_filter.1 he).2; simpa [nzB] using this) (fun e he => by have := (List.mem_filter.1 he).2; simpa [nzB] using this) fun r => by rw [cntF_nz, cntF_nz, hcn r]
  rw [sumP, sumP, resP, resP, small_nz (srtM a.length a), small_nz (srtM b.length b), e]

def norP (l : List Ent) : List Ent × Int := if frmE l ≠ 0 then ([], frmE l) else sumP l

theorem norR_P (l : List Ent) : norR l = tR (norP l) := by
  rw [norR, norP]
  split
  · rename_i h; rw [tR, if_pos h]
  · exact resR_P _

theorem fit_rowOk {e : Ent} (h : fitB e = 0) : rowOk e := by
  have := (fitB_iff e).1 h
  exact ⟨this.1, this.2.2⟩

theorem norP_good (l : List Ent) : Good (norP l) := by
  unfold norP
  split
  · exact good_err _
  · rename_i h
    exact sumP_good fun e he => fit_rowOk (frmE_ok l (Classical.byContradiction fun hn => h hn) e he)

theorem frmE_zero : ∀ {l : List Ent}, (∀ e ∈ l, fitB e = 0) → frmE l = 0
  | [], _ => rfl
  | x :: l, h => by rw [frmE, if_neg (by simp [h x (List.mem_cons_self ..)]), frmE_zero fun e he => h e (List.mem_cons_of_mem _ he)]

theorem norP_sum {l : List Ent} (h : ∀ e ∈ l, fitB e = 0) : norP l = sumP l := by rw [norP, if_neg (by simp [frmE_zero h])]

theorem bag_rowOk {l : List Ent} (h : bagB l = 0) : ∀ e ∈ l, rowOk e := fit_row h

theorem bag_len {l : List Ent} (h : bagB l = 0) : l.length ≤ 4096 := ((bagB_iff l).1 h).1

theorem smallB_iff (n : Int) : smallB n = true ↔ -65536 ≤ n ∧ n ≤ 65536 := by simp [smallB]

theorem ACalls.goodW {P : Program} {f : FuncId} {args : List AVal} {H : List AObj} {R : AVal} {p : List Ent × Int} (h : ACalls P f args H (fun r H' => r = R ∧ H' = H)) (hR : R = tR p) (hp : Good p) : ACalls P f args H (fun r H' => r = rV p ∧ H' = H) :=
  ACalls.weakRD h (by rintro r H' ⟨rfl, rfl⟩; exact ⟨_, by rw [hR]; exact tR_wk hp.2, rfl, rfl⟩)

section
variable {P : Program}
theorem bag_Normalize_w (F : F_bag_Normalize P) (hS : SortL P F) (ex : Bool) (l : List Ent) (hl : l.length ≤ 100000) (H : List AObj) :
    ACalls P F.id [.list ex 2 (eC l)] H (fun r H' => r = rV (norP l) ∧ H' = H) := (bag_Normalize_spec F hS ex l hl H).goodW (norR_P l) (norP_good l)

theorem ref6_Normalize_w (F : F_warehouseref6_Normalize P) (ex : Bool) (l : List Ent) (hl : l.length ≤ 100000) (H : List AObj) :
    ACalls P F.id [.list ex 2 (eC l)] H (fun r H' => r = rV (norP l) ∧ H' = H) := (ref6_Normalize_spec F ex l hl H).goodW (norR_P l) (norP_good l)

theorem Same_bag (F : F_warehouseref6_Same P) (e1 e2 : Bool) (a b : List Ent) (ha : bagB a = 0) (H : List AObj) :
    ACalls P F.id [.list e1 2 (eC a), .list e2 2 (eC b)] H (fun r H' => r = .bool (eqD a b) ∧ H' = H) :=
  ref6_Same_spec F e1 e2 a b (by have := bag_len ha; omega) (fun x hx => by have := (bag_rowOk ha x hx).1; omega) H

end
end Go.AW

namespace Go.AW
attribute [local irreducible] ACalls
theorem and15 (n : Int) : ∃ k : Nat, k ≤ 15 ∧ and64 n 15 = k := by
  have h : and64 n 15 = n % 16 := and64_mask n 4 (by omega)
  exact ⟨(n % 16).toNat, by omega, by rw [h]; omega⟩

end Go.AW

namespace Go.AW
attribute [local irreducible] ACalls
def itE (l : List Int) (i : Nat) : Ent := ⟨[anyV ((atV l i).tmod 12)], IntKind.i64.wrap (and64 (shrI (atV l i) 4) 7 - 3)⟩

def itL (l : List Int) (n : Nat) : List Ent := (List.range n).map (itE l)

theorem itL_len (l : List Int) (n : Nat) : (itL l n).length = n := by simp [itL]

theorem itL_succ (l : List Int) (k : Nat) : itL l (k + 1) = itL l k ++ [itE l k] := by simp [itL, List.range_succ]

theorem itE_fit (l : List Int) (i : Nat) : fitB (itE l i) = 0 := by
  have h1 := and_7 (shrI (atV l i) 4)
  refine (fitB_iff _).2 ⟨by simp [itE], ?_, ?_⟩
  · rw [smallB_iff]
    show -65536 ≤ IntKind.i64.wrap (and64 (shrI (atV l i) 4) 7 - 3) ∧ IntKind.i64.wrap (and64 (shrI (atV l i) 4) 7 - 3) ≤ 65536
    rw [h1, wrapI _ (by omega) (by omega)]; omega
  · show (validB (anyV ((atV l i).tmod 12)) && true) = true
    rw [anyV_valid]; rfl

theorem itL_fit (l : List Int) (n : Nat) : ∀ e ∈ itL l n, fitB e = 0 := fun e he => by
  obtain ⟨i, _, rfl⟩ := List.mem_map.1 he
  exact itE_fit l i

theorem nor_rev (l : List Int) (n : Nat) : norP (itL l n).reverse = norP (itL l n) := by
  rw [norP_sum (itL_fit l n), norP_sum fun e he => itL_fit l n e (List.mem_reverse.1 he)]
  exact sumP_ext (cntL_perm (List.reverse_perm _))

def entT (e : Ent) : List AVal := [.list true 3 (vC e.row), .int .i64 e.cnt]

def eT (l : List Ent) : List (List AVal) := l.map entT

theorem eT_length (l : List Ent) : (eT l).length = l.length := List.length_map ..

theorem eT_append (a b : List Ent) : eT (a ++ b) = eT a ++ eT b := List.map_append

theorem pureEs_eT (l : List Ent) : pureEs (eT l) = true := by simp [pureEs, eT, entT, AVal.isPure]

theorem eT_wk (x : Bool) (l : List Ent) : WkD (.list x 2 (eT l)) (.list false 2 (eC l)) := by
  refine .list x false 2 _ _ (by simp) (by rw [eT_length, eC_length]) (fun i e f he hf => ?_) (fun i j f c hf hc => ?_) (fun i j e f d c he hf hd hc => ?_)
  · rw [eT, List.getElem?_map] at he
    rw [eC, List.getElem?_map] at hf
    obtain ⟨a, ha, rfl⟩ := Option.map_eq_some_iff.1 he
    obtain ⟨b, hb, rfl⟩ := Option.map_eq_some_iff.1 hf
    rfl
  · rw [eC, List.getElem?_map] at hf
    obtain ⟨b, hb, rfl⟩ := Option.map_eq_some_iff.1 hf
    rcases j with _ | _ | j
    · cases hc; rfl
    · cases hc; rfl
    · simp [entC] at hc
  · rw [eT, List.getElem?_map] at he
    rw [eC, List.getElem?_map] at hf
    obtain ⟨a, ha, rfl⟩ := Option.map_eq_some_iff.1 he
    obtain ⟨b, hb, rfl⟩ := Option.map_eq_some_iff.1 hf
    rw [ha] at hb; cases hb
    rcases j with _ | _ | j
    · cases hd; cases hc
      exact .list true false 3 _ _ (by simp) rfl (fun i e f he hf => by rw [he] at hf; cases hf; rfl) (fun i j f c hf hc => by
        rw [vC, List.getElem?_map] at hf
        obtain ⟨v, _, rfl⟩ := Option.map_eq_some_iff.1 hf
        rcases j with _ | _ | _ | j
        · cases hc; rfl
        · cases hc; rfl
        · cases hc; rfl
        · simp [valC] at hc) (fun i j e f d c he hf hd hc => by rw [he] at hf; cases hf; rw [hd] at hc; cases hc; exact .refl _)
    · cases hd; cases hc; exact .refl _
    · simp [entT] at hd

set_option maxRecDepth 20000 in
theorem law_BagNormalizes {P : Program} (F : F_warehouselaw6_BagNormalizes P) (hS : SortL P F.warehouselaw6_known.bag_Normalize) (hS2 : SortL P F.bag_Normalize) (r : List Ent) (l : List Int) (n : Int) :
    ACalls P F.id [.list false 2 (eC r), .list false 1 (iC l), .int .i64 n] [] (fun q _ => q = .bool true) := by
  have known := fun H => known6_spec F.warehouselaw6_known hS H
  obtain ⟨N, hN, eN⟩ := and15 n
  refine acalls_of_body F.has ?_
  (conv => whnf); refine ACalls.use (light6_spec F.warehouselaw6_light false r _) ?_
  (conv => whnf); refine recA (fun h1 => ?_) (fun h1 => ?_)
  · conv => whnf
    refine (known _).mono ?_
    rintro r H1 ⟨rfl, rfl⟩
    conv => whnf
  simp at h1
  obtain ⟨hr1, hr⟩ := lightE_ok h1
  have cl0 : ∀ (f : Bool) (z : Nat) (y : List (List AVal)) (H1 : List AObj) (ids : List Nat), pureEs y = true → Pub H1 0 ids (.list f z y) (.list f z y) := fun f z y H1 ids hy => .closed _ (by simpa [AVal.closed, AVal.isPure, pureEs] using hy)
  conv => whnf
  refine ⟨fun m ρ H1 => ∃ (k : Nat) (v : AVal), k + m = N ∧ H1 = [.arr 2 (eT (itL l k))] ∧ ((k = 0 ∧ v = .nil) ∨ (0 < k ∧ ∃ ex, v = .list ex 2 (eT (itL l k).reverse))) ∧
    Sv 108 [(0, .list false 2 (eC r)), (1, .list false 1 (iC l)), (2, .int .i64 n), (7, .sl 0 k 0 k), (8, v), (9, .int .i64 k)] ρ, N, [(7, 2)], ?_, ?_⟩
  · exact ⟨0, .nil, by omega, rfl, .inl ⟨rfl, rfl⟩, Sv.intro rfl ⟨rfl, rfl, rfl, rfl, rfl, rfl, trivial⟩⟩
  rintro m ρ H1 ⟨k, v, hk, rfl, hv, d, rfl⟩
  (conv => whnf); refine recA (fun hlt => ?_) (fun hlt => ?_)
  · replace hlt : decide ((k : Int) < and64 n 15) = true := hlt
    rw [eN] at hlt
    simp at hlt
    have hb := atV_bounds l k
    (conv => whnf); refine ACalls.use (At_spec F.warehousebase_At false l k _) ?_
    (conv => whnf); refine And.intro (by decide) ?_
    (conv => whnf); refine ACalls.use (Any_spec F.warehousebase_Any _ _) ?_
    (conv => whnf); refine And.intro (by decide) ?_
    (conv => whnf); refine recT (by rw [eT_length, itL_len]; exact Nat.beq_refl _) ?_
    (conv => whnf); refine And.intro (⟨roomMul (by simp; omega) (by omega), roomB_le (by simp; omega), rfl, by rw [eT_length, itL_len]⟩) ?_
    have hDl : ∀ z : List AVal, (eT (itL l k) ++ [z]).length = k + 1 := fun z => by rw [List.length_append, eT_length, itL_len]; rfl
    rcases hv with ⟨hk0, rfl⟩ | ⟨hk0, ex, rfl⟩
    · have hrev : (itL l (k + 1)).reverse = [itE l k] := by subst hk0; rfl
      repeat ((conv => whnf); refine And.intro rfl ?_)
      conv => whnf
      refine ⟨m - 1, by omega, Gp.one 0 2 (eT (itL l (k + 1))) (by rw [itL_succ, eT_append]; rfl) (pureEs_eT _) rfl ?_ fun ρ1 h => ⟨k + 1, .list true 2 (eT (itL l (k + 1)).reverse), by omega, rfl, .inr ⟨by omega, true, rfl⟩, h⟩⟩
      exact ⟨cl0 _ _ _ _ _ (pureEs_eC _), cl0 _ _ _ _ _ (pureEs_iC _), .closed _ rfl, pubSl (k := 0) rfl rfl (hDl _) (hDl _), by rw [hrev]; exact .closed (.list true 2 (eT [itE l k])) rfl, pub_int (wrapI _ (by omega) (by omega)), trivial⟩
    · have hrl : (itL l k).reverse.length = k := by rw [List.length_reverse, itL_len]
      have hrev : (itL l (k + 1)).reverse = itE l k :: (itL l k).reverse := by rw [itL_succ, List.reverse_append]; rfl
      obtain ⟨e0, es0, h0⟩ : ∃ e0 es0, (itL l k).reverse = e0 :: es0 := by
        cases h : (itL l k).reverse with
        | nil => rw [h] at hrl; simp at hrl; omega
        | cons e0 es0 => exact ⟨e0, es0, rfl⟩
      rw [h0] at hrl hrev ⊢
      have hl0 : (eT (e0 :: es0)).length = k := by rw [eT_length, hrl]
      (conv => whnf); refine And.intro (⟨roomMul (by simp; omega) (by omega), roomB_le (by simp; omega), .inl (by simp [eT])⟩) ?_
      repeat ((conv => whnf); refine And.intro rfl ?_)
      conv => whnf
      have hel : ∀ z : List AVal, (z :: eT (e0 :: es0)).length = (eT (itL l (k + 1)).reverse).length := fun z => by rw [hrev, List.length_cons, eT_length, eT_length]; rfl
      refine ⟨m - 1, by omega, Gp.one 0 2 (eT (itL l (k + 1))) (by rw [itL_succ, eT_append]; rfl) (pureEs_eT _) rfl ?_ fun ρ1 h => ⟨k + 1, .list false 2 (eT (itL l (k + 1)).reverse), by omega, rfl, .inr ⟨by omega, false, rfl⟩, h⟩⟩
      exact ⟨cl0 _ _ _ _ _ (pureEs_eC _), cl0 _ _ _ _ _ (pureEs_iC _), .closed _ rfl, pubSl (k := 0) rfl rfl (hDl _) (hDl _), pubFI (by simp) (by rw [hrev]; rfl) (hel _) (hel _) (pureEs_eT _), pub_int (wrapI _ (by omega) (by omega)), trivial⟩
  · replace hlt : decide ((k : Int) < and64 n 15) = false := hlt
    rw [eN] at hlt
    simp at hlt
    have hel : (eT (itL l k)).length = k := by rw [eT_length, itL_len]
    have wnil : WksD [] [] := ⟨rfl, fun i a b h => by simp at h⟩
    have nt := fun H => bag_Normalize_w F.bag_Normalize hS2 false (itL l k).reverse (by rw [List.length_reverse, itL_len]; omega) H
    rw [nor_rev] at nt
    conv => whnf
    rcases hv with ⟨hk0, rfl⟩ | ⟨hk0, ex, rfl⟩
    · refine Ghost.none (n := 108) (live := [(0, .list false 2 (eC r)), (7, .list false 2 (eT (itL l k))), (8, .nil)]) rfl ?_ ?_
      · exact ⟨cl0 _ _ _ _ _ (pureEs_eC _), pubF rfl hel.symm hel.symm (pureEs_eT _), .closed _ rfl, trivial⟩
      rintro ρ1 ⟨d, rfl⟩
      have hrev : (itL l k).reverse = [] := by subst hk0; rfl
      have nt2 := fun H => (nt H).weakD (.cons (by rw [hrev]; exact .nil false 2) wnil)
      (conv => whnf); refine ACalls.use (bag_Normalize_w F.bag_Normalize hS2 false r (by omega) _) ?_
      (conv => whnf); refine ACalls.use (ref6_Normalize_w F.warehouseref6_Normalize false r (by omega) _) ?_
      (conv => whnf); refine ACalls.use ((bag_Normalize_w F.bag_Normalize hS2 false (itL l k) (by rw [itL_len]; omega) _).weakD (.cons (eT_wk false _) wnil)) ?_
      (conv => whnf); refine ACalls.use ((ref6_Normalize_w F.warehouseref6_Normalize false (itL l k) (by rw [itL_len]; omega) _).weakD (.cons (eT_wk false _) wnil)) ?_
      (conv => whnf); refine ACalls.use (nt2 _) ?_
      (conv => whnf); refine ACalls.use (Same_bag F.warehouseref6_Same false false _ _ (norP_good r).1 _) ?_
      (conv => whnf); refine recT (eqD_true rfl) ?_
      (conv => whnf); refine recT (by simp) ?_
      (conv => whnf); refine ACalls.use (Same_bag F.warehouseref6_Same false false _ _ (norP_good (itL l k)).1 _) ?_
      (conv => whnf); refine recT (eqD_true rfl) ?_
      (conv => whnf); refine recT (by simp) ?_
      (conv => whnf); refine ACalls.use (Same_bag F.warehouseref6_Same false false _ _ (norP_good (itL l k)).1 _) ?_
      (conv => whnf); refine recT (eqD_true rfl) ?_
      (conv => whnf); refine recT (by simp) ?_
      (conv => whnf); refine ACalls.mono (known _) ?_
      rintro r H1 ⟨rfl, rfl⟩
      conv => whnf
    · refine Ghost.none (n := 108) (live := [(0, .list false 2 (eC r)), (7, .list false 2 (eT (itL l k))), (8, .list ex 2 (eT (itL l k).reverse))]) rfl ?_ ?_
      · exact ⟨cl0 _ _ _ _ _ (pureEs_eC _), pubF rfl hel.symm hel.symm (pureEs_eT _), cl0 _ _ _ _ _ (pureEs_eT _), trivial⟩
      rintro ρ1 ⟨d, rfl⟩
      have nt2 := fun H => (nt H).weakD (.cons (eT_wk ex _) wnil)
      (conv => whnf); refine ACalls.use (bag_Normalize_w F.bag_Normalize hS2 false r (by omega) _) ?_
      (conv => whnf); refine ACalls.use (ref6_Normalize_w F.warehouseref6_Normalize false r (by omega) _) ?_
      (conv => whnf); refine ACalls.use ((bag_Normalize_w F.bag_Normalize hS2 false (itL l k) (by rw [itL_len]; omega) _).weakD (.cons (eT_wk false _) wnil)) ?_
      (conv => whnf); refine ACalls.use ((ref6_Normalize_w F.warehouseref6_Normalize false (itL l k) (by rw [itL_len]; omega) _).weakD (.cons (eT_wk false _) wnil)) ?_
      (conv => whnf); refine ACalls.use (nt2 _) ?_
      (conv => whnf); refine ACalls.use (Same_bag F.warehouseref6_Same false false _ _ (norP_good r).1 _) ?_
      (conv => whnf); refine recT (eqD_true rfl) ?_
      (conv => whnf); refine recT (by simp) ?_
      (conv => whnf); refine ACalls.use (Same_bag F.warehouseref6_Same false false _ _ (norP_good (itL l k)).1 _) ?_
      (conv => whnf); refine recT (eqD_true rfl) ?_
      (conv => whnf); refine recT (by simp) ?_
      (conv => whnf); refine ACalls.use (Same_bag F.warehouseref6_Same false false _ _ (norP_good (itL l k)).1 _) ?_
      (conv => whnf); refine recT (eqD_true rfl) ?_
      (conv => whnf); refine recT (by simp) ?_
      (conv => whnf); refine ACalls.mono (known _) ?_
      rintro r H1 ⟨rfl, rfl⟩
      conv => whnf

end Go.AW

namespace Go.AW
open Go.Sort
section
variable {P : Program} {β : Type}
structure El (C : Nat → Nat) (w : World) (k : Nat) (cells : β → List AVal) where
  vs : List Value
  x : β
  len : vs.length = k
  one : ∀ v ∈ vs, v.oneCell' = true
  rd : ∀ (j : Nat) (c : AVal) (v : Value), (cells x)[j]? = some c → vs[j]? = some v → Rd C w c v

theorem Rd.later {C : Nat → Nat} {w w' : World} {a : AVal} {v : Value} (h : Rd C w a v) (hc : ∀ b i, i < C b → w'.cell? ⟨b, i, none⟩ = w.cell? ⟨b, i, none⟩) : Rd C w' a v := by
  have s : Step C (fun _ => none) [] w C (fun _ => none) [] { w with heap := w.heap } := Step.refl
  induction h with
  | junk v h => exact .junk v h
  | bool b => exact .bool b
  | int k n => exact .int k n
  | str s => exact .str s
  | nil => exact .nil
  | list0 x sz a cap hx => exact .list0 x sz a cap hx
  | list x sz es b off cap vs hx hcap hsz hC hcell hp hrd ih =>
    refine .list x sz es b off cap vs hx hcap hsz hC (fun i j hi hj => ?_) hp fun i j e d he hd => ih i j e d he hd
    rw [hc b _ ?_, hcell i j hi hj]
    have : i * sz + sz ≤ es.length * sz := by
      have := Nat.mul_le_mul_right sz (show i + 1 ≤ es.length by omega)
      rwa [Nat.add_mul, Nat.one_mul] at this
    omega
  | cptr cs fld b off vs hC hcell hp hrd ih =>
    refine .cptr cs fld b off vs hC (fun j hj => ?_) hp fun j d hd => ih j d hd
    rw [hc b _ (by omega), hcell j hj]
  | fn f => exact .fn f

theorem cmpLays_of {C : Nat → Nat} {w : World} {k : Nat} {cells : β → List AVal} (hk : ∀ x, (cells x).length = k) [Inhabited (El C w k cells)] {cmp : β → β → Int} {g : FuncId}
    (eg : ∀ args w, (callFunc g args).run P w = .ok (.enter g args) w)
    (hg : ∀ x y, ACalls P g [.agg (cells x), .agg (cells y)] [] (fun r _ => r = .int .i64 (cmp x y)))
    {blk off size : Nat} (hlt : ∀ b, 0 < C b → b < w.heap.size) (hblk : C blk = 0) :
    Go.Proofs.CmpLays P g #[] (fun e : El C w k cells => e.vs) k (fun a b => cmp a.x b.x) blk off size w := by
  intro m os dk hs x y
  obtain ⟨W, hW⟩ : ∃ W, Go.Proofs.sortWorldK (fun e : El C w k cells => e.vs) k w blk off m dk os = W := ⟨_, rfl⟩
  rw [hW]
  have hcell : ∀ b i, i < C b → W.cell? ⟨b, i, none⟩ = w.cell? ⟨b, i, none⟩ := by
    intro b i hi
    have hb : b < w.heap.size := hlt b (by omega)
    have hbb : b ≠ blk := fun e => by rw [e, hblk] at hi; omega
    refine cell_heap ?_
    rw [← hW]
    unfold Go.Proofs.sortWorldK Go.Sort.putRowK putRow mapBlock grow Go.Sort.ahead
    simp only []
    rw [Array.getElem?_append_left (by simp; exact hb), Array.getElem?_modify, if_neg (Ne.symm hbb)]
  have hsz : w.heap.size ≤ W.heap.size := by rw [← hW]; exact Go.Proofs.size_sortWorldK_c _ _ _ _ _ _ _ _
  have hwf : WF C (fun _ => none) [] W := ⟨fun id o h => by simp at h, fun id o h => by simp at h, fun id o l h => by simp at h, fun id l h => by simp at h, fun i j li lj h => by simp at h, fun b hb => Nat.lt_of_lt_of_le (hlt b hb) hsz⟩
  have hrel : ∀ e : El C w k cells, Rel C W (fun _ => none) [] (.agg (cells e.x)) (.agg e.vs.toArray) := fun e => by
    refine .agg _ _ (by simp [hk, e.len]) fun i c v hc hv => .rd ((e.rd i c v hc ?_).later hcell)
    simpa using hv
  have h := hg x.x y.x C (fun _ => none) W #[.agg x.vs.toArray, .agg y.vs.toArray] hwf rfl fun i a v ha hv => by
    rcases i with _ | _ | i
    · cases ha; cases hv; exact hrel x
    · cases ha; cases hv; exact hrel y
    · simp at ha
  unfold CallsX at h
  rw [eg] at h
  refine Calls.mono h fun e w' => ?_
  rintro ⟨v, r, C', τ', H', rfl, rfl, hrv, hst, _⟩
  refine ⟨?_, w'.drawn - W.drawn, w'.heap.extract W.heap.size w'.heap.size, ?_⟩
  · cases hrv with
    | rd h => cases h; rfl
  · have f := hst.fr
    have hp : ∀ b, b < W.heap.size → w'.heap[b]? = W.heap[b]? := fun b hb => f.prot b ⟨hb, by rintro ⟨id, l, h, _⟩; simp at h⟩
    have hh : w'.heap = W.heap ++ w'.heap.extract W.heap.size w'.heap.size := by
      refine Array.ext_getElem? fun i => ?_
      by_cases hi : i < W.heap.size
      · rw [Array.getElem?_append_left hi]; exact hp i hi
      · rw [Array.getElem?_append_right (by omega), Array.getElem?_extract]
        by_cases hi2 : i < w'.heap.size
        · rw [if_pos (by omega)]; congr 1; omega
        · rw [if_neg (by omega)]; exact Array.getElem?_eq_none (by omega)
    have hd : w'.drawn = W.drawn + (w'.drawn - W.drawn) := by have := f.drawn; omega
    obtain ⟨h1, h2, h3, h4, h5⟩ := w'
    unfold grow World.drewN
    simp only [World.mk.injEq]
    exact ⟨hh, f.tape, hd, f.os, f.output⟩

theorem St.grow {w0 w : World} {Pr : Nat → Prop} {C : Nat → Nat} {τ : Nat → Option Loc} {H : List AObj} (h : St w0 Pr C τ H w) : ∀ (os : List Obj), St w0 Pr C τ H (Go.Sort.grow w os.toArray) ∧ Step C τ H w C τ H (Go.Sort.grow w os.toArray) := by
  intro os
  induction os generalizing w with
  | nil => simpa using ⟨h, Step.refl⟩
  | cons o os ih =>
    obtain ⟨st, s⟩ := h.alloc_comm o 0
    have hCC : updF C w.heap.size (C w.heap.size + 0) = C := by
      funext b
      by_cases e : b = w.heap.size
      · subst e; rw [updF_same]; rfl
      · rw [updF_other _ _ e]
    rw [hCC] at st s
    obtain ⟨st2, s2⟩ := ih st
    have e : Go.Sort.grow (w.alloc o) os.toArray = Go.Sort.grow w (o :: os).toArray := by
      rw [alloc_eq_grow, grow_grow]
      congr 1
      simp
    rw [e] at st2 s2
    exact ⟨st2, s.trans s2⟩

theorem St.putRow {w0 w : World} {Pr : Nat → Prop} {C : Nat → Nat} {τ : Nat → Option Loc} {H : List AObj} {k : Nat} {cells : β → List AVal} (hk : ∀ x, (cells x).length = k) (hk0 : 0 < k) (hcl : ∀ x, ∀ c ∈ cells x, c.isCell = true) [Inhabited (El C w k cells)]
    (h : St w0 Pr C τ H w) {i0 : Nat} {es : List β} {l : Loc} (ho : H[i0]? = some (.arr k (es.map cells))) (hl : τ i0 = some l) (d : Array (El C w k cells)) (hd : d.size = es.length) :
    St w0 Pr C τ (H.set i0 (.arr k (d.toList.map fun e => cells e.x))) (putRowK (fun e : El C w k cells => e.vs) k w l.b 0 d) ∧ Step C τ H w C τ (H.set i0 (.arr k (d.toList.map fun e => cells e.x))) (putRowK (fun e : El C w k cells => e.vs) k w l.b 0 d) := by
  obtain ⟨hcap, cs, elem, fz, h1, h2, h3, _⟩ := h.wf.objs i0 _ l ho hl
  rw [List.length_map] at hcap
  have hw : (putRowK (fun e : El C w k cells => e.vs) k w l.b 0 d).heap[l.b]? = some (.cells (Go.Sort.putCells id 0 (flatK (fun e : El C w k cells => e.vs) k d) cs) elem fz) := by
    unfold putRowK Go.Sort.putRow mapBlock
    simp only [Array.getElem?_modify, if_true, h1, Option.map_some, onCells]
  refine h.set_obj (w' := putRowK (fun e : El C w k cells => e.vs) k w l.b 0 d) (o' := .arr k (d.toList.map fun e => cells e.x)) ho hl (fun b hb => ?_) (by simp [putRowK]) rfl rfl rfl rfl ⟨rfl, by simp; omega, fun _ => rfl⟩ (fun e he => ?_) fun C' τ' H' s => ?_
  · unfold putRowK Go.Sort.putRow mapBlock
    simp only [Array.getElem?_modify]
    rw [if_neg (Ne.symm hb)]
  · obtain ⟨x, _, rfl⟩ := List.mem_map.1 he
    exact ⟨hk x.x, hcl x.x⟩
  · refine ⟨by simp; omega, _, elem, fz, hw, by simp [Go.Sort.putCells, h2], by simpa [Go.Sort.putCells] using h3, fun i j e c he hc => ?_⟩
    rw [List.getElem?_map] at he
    obtain ⟨x, hx, rfl⟩ := Option.map_eq_some_iff.1 he
    have hi : i < d.size := by have := (List.getElem?_eq_some_iff.1 hx).1; simpa using this
    have hj : j < k := by have := (List.getElem?_eq_some_iff.1 hc).1; rwa [hk] at this
    have hxd : d[i]! = x := by
      rw [getElem!_pos d i hi]
      have := (List.getElem?_eq_some_iff.1 hx).2
      simpa using this
    have ht : i * k + j < d.size * k := by
      have := Nat.mul_le_mul_right k (show i + 1 ≤ d.size by omega)
      rw [Nat.add_mul, Nat.one_mul] at this
      omega
    have htc : i * k + j < cs.size := by
      have := Nat.mul_le_mul_right k (show d.size ≤ l.cap by omega)
      omega
    have hjv : j < x.vs.length := by rw [x.len]; exact hj
    refine ⟨x.vs[j], ?_, ?_⟩
    · unfold Go.Sort.putCells
      rw [Array.getElem?_mapIdx, Array.getElem?_eq_getElem htc]
      have hf := get_flatK (fun e : El C w k cells => e.vs) k d (i * k + j) ht
      have e1 : (i * k + j) / k = i := by rw [Nat.mul_comm, Nat.mul_add_div hk0, Nat.div_eq_of_lt hj, Nat.add_zero]
      have e2 : (i * k + j) % k = j := by rw [Nat.mul_comm, Nat.mul_add_mod, Nat.mod_eq_of_lt hj]
      rw [e1, e2, hxd] at hf
      simp only [Option.map_some, size_flatK, Nat.zero_le, true_and, Nat.zero_add, ht, if_true, Nat.sub_zero, hf]
      rw [getElem!_pos x.vs j hjv]
      rfl
    · exact (Rel.rd (x.rd j c _ hc (List.getElem?_eq_getElem hjv))).mono s

theorem row_of {w0 w : World} {Pr : Nat → Prop} {C : Nat → Nat} {τ : Nat → Option Loc} {H : List AObj} {k : Nat} {cells : β → List AVal} (hk : ∀ x, (cells x).length = k) (hk0 : 0 < k) (hpu : ∀ x, ∀ c ∈ cells x, c.isPure = true)
    (h : St w0 Pr C τ H w) {i0 : Nat} {es : List β} {l : Loc} (ho : H[i0]? = some (.arr k (es.map cells))) (hl : τ i0 = some l) :
    ∃ d : Array (El C w k cells), d.size = es.length ∧ d.toList.map (fun e => e.x) = es ∧ ∀ [Inhabited (El C w k cells)], HoldsK (fun e : El C w k cells => e.vs) k w l.b 0 d := by
  obtain ⟨hcap, cs, elem, fz, h1, h2, h3, h4⟩ := h.wf.objs i0 _ l ho hl
  rw [List.length_map] at hcap
  have hroom : es.length * k ≤ cs.size := by rw [h2]; exact Nat.mul_le_mul_right k hcap
  have get : ∀ (i j : Nat) (hi : i < es.length) (hj : j < k), i * k + j < cs.size := fun i j hi hj => by
    have := Nat.mul_le_mul_right k (show i + 1 ≤ es.length by omega)
    rw [Nat.add_mul, Nat.one_mul] at this
    omega
  have rel : ∀ (i j : Nat) (hi : i < es.length) (c : AVal) (v : Value), (cells es[i])[j]? = some c → cs[i * k + j]? = some v → Rd C w c v := fun i j hi c v hc hv => by
    obtain ⟨v', hv', hr⟩ := h4 i j (cells es[i]) c (by rw [List.getElem?_map, List.getElem?_eq_getElem hi]; rfl) hc
    rw [hv] at hv'
    cases hv'
    exact hr.pure (hpu _ c (List.mem_of_getElem? hc))
  have vget : ∀ (i j : Nat), ((cs.extract (i * k) (i * k + k)).toList)[j]? = if j < min (i * k + k) cs.size - i * k then cs[i * k + j]? else none := fun i j => by
    rw [Array.getElem?_toList, Array.getElem?_extract]
  have mk : ∀ i : Fin es.length, ∃ e : El C w k cells, e.vs = (cs.extract (i.1 * k) (i.1 * k + k)).toList ∧ e.x = es[i.1] := fun ⟨i, hi⟩ => by
    have hik := get i (k - 1) hi (by omega)
    have hlen : (cs.extract (i * k) (i * k + k)).size = k := by rw [Array.size_extract]; omega
    refine ⟨⟨(cs.extract (i * k) (i * k + k)).toList, es[i], by rw [Array.length_toList]; exact hlen, ?_, fun j c v hc hv => ?_⟩, rfl, rfl⟩
    · refine rel_cellsPlain (C := C) (w := w) (τ := τ) (H := H) (cs := cells es[i]) (by rw [hk, hlen]) (fun j c v hc hv => ?_) (List.all_eq_true.2 fun c hc => AVal.isCell_of_isPure (hpu _ c hc))
      have := vget i j
      rw [Array.getElem?_toList, hv] at this
      split at this
      · exact .rd (rel i j hi c v hc this.symm)
      · cases this
    · have := vget i j
      rw [hv] at this
      split at this
      · exact rel i j hi c v hc this.symm
      · cases this
  refine ⟨Array.ofFn fun i => (mk i).choose, by simp, ?_, ?_⟩
  · refine List.ext_getElem? fun i => ?_
    by_cases hi : i < es.length
    · rw [List.getElem?_map, Array.getElem?_toList, Array.getElem?_ofFn, dif_pos hi, List.getElem?_eq_getElem hi]
      show some ((mk ⟨i, hi⟩).choose).x = _
      rw [(mk ⟨i, hi⟩).choose_spec.2]
    · rw [List.getElem?_eq_none (by simp; omega), List.getElem?_eq_none (by omega)]
  · intro _ t ht
    rw [size_flatK, Array.size_ofFn] at ht
    have hi : t / k < es.length := Nat.div_lt_of_lt_mul (by rwa [Nat.mul_comm] at ht)
    have hj : t % k < k := Nat.mod_lt _ hk0
    have htk : t / k * k + t % k = t := by rw [Nat.mul_comm]; exact Nat.div_add_mod t k
    have htc := get _ _ hi hj
    rw [htk] at htc
    rw [get_flatK _ _ _ t (by rw [Array.size_ofFn]; exact ht), getElem!_pos _ (t / k) (by rw [Array.size_ofFn]; exact hi), Array.getElem_ofFn]
    have hv := vget (t / k) (t % k)
    rw [if_pos (by have := get (t / k) (k - 1) hi (by omega); omega), htk, Array.getElem?_eq_getElem htc, ← (mk ⟨t / k, hi⟩).choose_spec.1] at hv
    have hb := (List.getElem?_eq_some_iff.1 hv).1
    have hv2 := (List.getElem?_eq_some_iff.1 hv).2
    rw [getElem!_pos _ (t % k) hb]
    refine ⟨?_, ?_⟩
    · simp only [World.cell?, h1, Nat.zero_add]
      simp [Array.getElem?_eq_getElem htc, ← hv2]
    · simp only [World.frozen?, h1, Nat.zero_add]
      simp only [Bool.and_eq_false_iff, decide_eq_false_iff_not]
      omega

def Sorted (cmp : β → β → Int) (es es' : List β) : Prop := es'.Perm es ∧ ∀ (i j : Nat) (x y : β), i < j → es'[i]? = some x → es'[j]? = some y → 0 ≤ cmp y x

theorem sort_spec {ρ : Go.Shelf.Ren} (L : Go.Proofs.SlLaysF0.n6 P ρ) {k : Nat} (hk0 : 0 < k) (aE : ∀ w, (isAgg (ρ.t 24)).run P w = .ok true w) (zE : ∀ w, (Go.sizeOf (ρ.t 24)).run P w = .ok k w)
    {cells : β → List AVal} (hk : ∀ x, (cells x).length = k) (hpu : ∀ x, ∀ c ∈ cells x, c.isPure = true) {cmp : β → β → Int} (hO : SWO (Go.Proofs.ltOf cmp)) {g : FuncId}
    (eg : ∀ args w, (callFunc g args).run P w = .ok (.enter g args) w)
    (hg : ∀ x y, ACalls P g [.agg (cells x), .agg (cells y)] [] (fun r _ => r = .int .i64 (cmp x y)))
    {es : List β} (hne : es ≠ []) (hlen : es.length ≤ 1000000) {H : List AObj} {i0 : Nat} (ho : H[i0]? = some (.arr k (es.map cells))) :
    ACalls P (ρ.f 6) [.sl i0 es.length 0 es.length, .fn g []] H (fun r H' => r = .tuple [] ∧ ∃ es', Sorted cmp es es' ∧ H' = H.set i0 (.arr k (es'.map cells))) := by
  intro C τ w vs hw hl hr
  obtain ⟨v0, v1, rfl⟩ : ∃ v0 v1, vs = #[v0, v1] := by
    obtain ⟨m⟩ := vs
    match m, hl with
    | [v0, v1], _ => exact ⟨v0, v1, rfl⟩
  have r0 := hr 0 _ v0 rfl rfl
  have r1 := hr 1 _ v1 rfl rfl
  have e1 : v1 = .func (.func g) #[] #[] := by
    cases r1 with
    | rd h => cases h; rfl
    | fn _ _ vs hl2 h =>
      have : vs = #[] := Array.eq_empty_of_size_eq_zero hl2.symm
      rw [this]
  subst e1
  have hpos : 0 < es.length := List.length_pos_iff.2 hne
  cases r0 with
  | rd h => cases h
  | sl _ _ _ _ a cap esz es0 ho' hep hcur =>
  rw [ho] at ho'
  cases ho'
  obtain ⟨_, hcap, hor⟩ := hcur (by simp)
  rcases hor with ⟨_, h0⟩ | ⟨l, hlt, hlc, ha⟩
  · omega
  have ha2 : a = some ⟨l.b, 0, none⟩ := by
    rcases ha with h0 | h0
    · omega
    · rw [h0, Nat.zero_mul]
  subst ha2
  have st := St.start hw
  obtain ⟨d, hd, hdx, hH⟩ := row_of hk hk0 hpu st ho hlt
  haveI : Inhabited (El C w k cells) := ⟨d[0]'(by omega)⟩
  have hid := (List.getElem?_eq_some_iff.1 ho).1
  have hcmp := cmpLays_of (P := P) (C := C) (w := w) hk eg hg (blk := l.b) (off := 0) (size := d.size) hw.lt (hw.comm i0 l hid hlt)
  have hO2 : SWO (Go.Proofs.ltOf fun a b : El C w k cells => cmp a.x b.x) := ⟨fun x => hO.irrefl x.x, fun x y z => hO.trans x.x y.x z.x, fun x y z => hO.ntrans x.x y.x z.x⟩
  have main := Go.Proofs.AnyQ.slices_SortFunc L k aE zE (fun e : El C w k cells => e.vs) (fun x => x.len) (fun x => x.one) (fun a b => cmp a.x b.x) hO2 g #[] l.b 0 cap d w eg hcmp hH (hw.locLt hid hlt) (by omega)
  rw [hd] at main
  unfold CallsX
  have en : ∀ args w, (callFunc (ρ.f 6) args).run P w = .ok (.enter (ρ.f 6) args) w := L.f6.enters rfl
  rw [en]
  refine Calls.mono main fun e w' => ?_
  rintro ⟨rfl, d', n, os, hp, hs, rfl⟩
  have hd's : d'.size = es.length := by have := hp.1; omega
  obtain ⟨st1, s1⟩ := st.putRow hk hk0 (fun x c hc => AVal.isCell_of_isPure (hpu x c hc)) ho hlt d' hd's
  obtain ⟨st2, s2⟩ := st1.same (w' := Go.Sort.ahead (putRowK (fun e : El C w k cells => e.vs) k w l.b 0 d') n) rfl rfl rfl rfl (Nat.le_add_right _ _)
  obtain ⟨st3, s3⟩ := st2.grow os.toList
  have ew : Go.Sort.grow (Go.Sort.ahead (putRowK (fun e : El C w k cells => e.vs) k w l.b 0 d') n) os.toList.toArray = Go.Proofs.sortWorldK (fun e : El C w k cells => e.vs) k w l.b 0 n d' os := by
    rw [Array.toArray_toList]; rfl
  rw [ew] at st3 s3
  refine ⟨.tuple #[], .tuple [], C, τ, _, rfl, ⟨rfl, d'.toList.map (fun e => e.x), ⟨?_, fun i j x y hij hx hy => ?_⟩, by rw [List.map_map]; rfl⟩, .tuple _ _ rfl fun i c v h => by simp at h, st3, (s1.trans s2).trans s3⟩
  · have h3 := hp.2.2
    have a1 : d'.extract 0 es.length = d' := by rw [← hd's]; simp
    have a2 : d.extract 0 es.length = d := by rw [← hd]; simp
    rw [a1, a2] at h3
    have := h3.map (fun e : El C w k cells => e.x)
    rwa [hdx] at this
  · rw [List.getElem?_map] at hx hy
    obtain ⟨ex, hx1, rfl⟩ := Option.map_eq_some_iff.1 hx
    obtain ⟨ey, hy1, rfl⟩ := Option.map_eq_some_iff.1 hy
    clear hx hy
    have hj := (List.getElem?_eq_some_iff.1 hy1).1
    rw [Array.length_toList, hd's] at hj
    have h4 := hs i j (Nat.zero_le _) hij hj
    have b1 : d'[i]! = ex := by
      rw [getElem!_pos d' i (by omega)]
      have := (List.getElem?_eq_some_iff.1 hx1).2
      simpa using this
    have b2 : d'[j]! = ey := by
      rw [getElem!_pos d' j (by omega)]
      have := (List.getElem?_eq_some_iff.1 hy1).2
      simpa using this
    rw [b1, b2] at h4
    unfold Go.Proofs.ltOf at h4
    simp at h4
    exact h4

end
end Go.AW

namespace Go.AW
open Go.Sort
attribute [local irreducible] ACalls
abbrev EntS := {e : Ent // e.row.length ≤ 1000}

def subL : (l : List Ent) → (∀ e ∈ l, e.row.length ≤ 1000) → List EntS
  | [], _ => []
  | e :: l, h => ⟨e, h e (List.mem_cons_self ..)⟩ :: subL l fun e he => h e (List.mem_cons_of_mem _ he)

theorem subL_map : ∀ (l : List Ent) (h : ∀ e ∈ l, e.row.length ≤ 1000), (subL l h).map (fun e => e.1) = l
  | [], _ => rfl
  | e :: l, h => by rw [subL, List.map_cons, subL_map l]

theorem swo_rows : SWO (Go.Proofs.ltOf fun a b : EntS => rowsCmp a.1.row b.1.row) where
  irrefl x := by simp [Go.Proofs.ltOf, (rowsCmp_zero x.1.row x.1.row).2 rfl]
  trans x y z h1 h2 := by
    simp [Go.Proofs.ltOf] at h1 h2 ⊢
    exact rowsCmp_trans _ _ _ h1 h2
  ntrans x y z h1 h2 := by
    simp [Go.Proofs.ltOf] at h1 h2 ⊢
    refine Int.not_lt.1 fun hn => ?_
    by_cases hz : rowsCmp y.1.row z.1.row = 0
    · rw [(rowsCmp_zero _ _).1 hz] at h1
      omega
    · have h3 : rowsCmp z.1.row y.1.row < 0 := by rw [rowsCmp_anti]; omega
      have := rowsCmp_trans _ _ _ hn h3
      omega

theorem sortE_of {P : Program} {ρ : Go.Shelf.Ren} (L : Go.Proofs.SlLaysF0.n6 P ρ) (aE : ∀ w, (isAgg (ρ.t 24)).run P w = .ok true w) (zE : ∀ w, (Go.sizeOf (ρ.t 24)).run P w = .ok 2 w) (F : F_bag_sum_1 P) :
    SortE P (ρ.f 6) F.id := by
  intro l hne hl hr H i0 ho
  have eg : ∀ args w, (callFunc F.id args).run P w = .ok (.enter F.id args) w := by
    obtain ⟨fn, c, h1, h2, h3, _⟩ := F.has
    exact Go.Proofs.enters_of h1 h2 h3
  have hm := subL_map l hr
  have hcells : (subL l hr).map (fun e => entC e.1) = eC l := by
    have := congrArg (List.map entC) hm
    rw [List.map_map] at this
    exact this
  have hlen : (subL l hr).length = l.length := by rw [← List.length_map (f := fun e : EntS => e.1), hm]
  have main := sort_spec (P := P) L (k := 2) (by decide) aE zE (cells := fun e : EntS => entC e.1) (fun _ => rfl) (fun x c hc => by
    simp [entC] at hc
    rcases hc with rfl | rfl
    · simp [AVal.isPure]
    · rfl) (cmp := fun a b => rowsCmp a.1.row b.1.row) swo_rows (g := F.id) eg (fun x y => (bag_sum_1_spec F x.1 y.1 (by have := x.2; omega) []).mono fun _ _ h => h.1)
    (es := subL l hr) (fun h => by rw [h] at hm; exact hne hm.symm) (by omega) (i0 := i0) (by rw [hcells]; exact ho)
  rw [hlen] at main
  refine main.mono ?_
  rintro r H' ⟨rfl, es', ⟨hp, hs⟩, rfl⟩
  refine ⟨rfl, es'.map (fun e => e.1), by have := hp.map (fun e : EntS => e.1); rwa [hm] at this, ?_, ?_⟩
  · refine List.pairwise_iff_getElem.2 fun i j hi hj hij => ?_
    rw [List.length_map] at hi hj
    have := hs i j es'[i] es'[j] hij (List.getElem?_eq_getElem hi) (List.getElem?_eq_getElem hj)
    replace this : 0 ≤ rowsCmp (es'[j]).1.row (es'[i]).1.row := this
    rw [rowsCmp_anti] at this
    simp only [List.getElem_map]
    omega
  · rw [eC, List.map_map]; rfl

end Go.AW

