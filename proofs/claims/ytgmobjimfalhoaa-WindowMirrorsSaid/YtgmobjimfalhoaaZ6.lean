/-
  An abstract machine over the model, the code of functions on it, and their contracts: what the claim needs.
  No condition: definitions, plain laws, contracts over any program that has this code.
-/
import Derived.Test.YtgmobjimfalhoaaZ5
set_option linter.all false
namespace Go.AW
variable [Draws]
attribute [local irreducible] ACalls
theorem mrg_bnd {A B : Int} (hA0 : 0 ≤ A) (hB0 : 0 ≤ B) : ∀ (a b : List Ent), (∀ e ∈ a, EntB A e) → (∀ e ∈ b, EntB B e) → ∀ e ∈ mrg a b, EntB (A + B) e
  | [], b, ha, hb, e, he => by
    rw [mrg_nil] at he
    obtain ⟨h1, h2, h3⟩ := hb e he
    exact ⟨h1, by omega, by omega⟩
  | x :: a, [], ha, hb, e, he => by
    rw [mrg_nil2] at he
    obtain ⟨h1, h2, h3⟩ := ha e he
    exact ⟨h1, by omega, by omega⟩
  | x :: a, y :: b, ha, hb, e, he => by
    obtain ⟨h1, h2, h3⟩ := ha x (List.mem_cons_self ..)
    obtain ⟨k1, k2, k3⟩ := hb y (List.mem_cons_self ..)
    have ha' : ∀ e ∈ a, EntB A e := fun e h => ha e (List.mem_cons_of_mem _ h)
    have hb' : ∀ e ∈ b, EntB B e := fun e h => hb e (List.mem_cons_of_mem _ h)
    rw [mrg_cons] at he
    split at he
    · rcases List.mem_cons.1 he with rfl | he
      · exact ⟨h1, by omega, by omega⟩
      · exact mrg_bnd hA0 hB0 a (y :: b) ha' hb e he
    split at he
    · rcases List.mem_cons.1 he with rfl | he
      · exact ⟨k1, by omega, by omega⟩
      · exact mrg_bnd hA0 hB0 (x :: a) b ha hb' e he
    · rcases List.mem_cons.1 he with rfl | he
      · exact ⟨h1, by simp only []; omega, by simp only []; omega⟩
      · exact mrg_bnd hA0 hB0 a b ha' hb' e he
termination_by a b => a.length + b.length

theorem entB_mono {A B : Int} (h : A ≤ B) {e : Ent} (he : EntB A e) : EntB B e := ⟨he.1, by have := he.2.1; omega, by have := he.2.2; omega⟩

theorem srtM_bnd : ∀ (n : Nat) (l : List Ent), (∀ e ∈ l, EntOk e) → ∀ e ∈ srtM n l, EntB (65536 * (l.length : Int)) e
  | 0, l, h, e, he => by
    rw [srtM] at he
    have := List.length_pos_of_mem he
    exact entB_mono (A := 65536) (by omega) (h e he)
  | n + 1, l, h, e, he => by
    rw [srtM] at he
    split at he
    · have := List.length_pos_of_mem he
      exact entB_mono (A := 65536) (by omega) (h e he)
    · refine entB_mono ?_ (mrg_bnd (by omega) (by omega) _ _ (srtM_bnd n _ fun e h1 => h e (List.mem_of_mem_take h1)) (srtM_bnd n _ fun e h1 => h e (List.mem_of_mem_drop h1)) e he)
      rw [List.length_take, List.length_drop]; omega

theorem srtM_length : ∀ (n : Nat) (l : List Ent), (srtM n l).length ≤ l.length
  | 0, l => Nat.le_refl _
  | n + 1, l => by
    rw [srtM]
    split
    · exact Nat.le_refl _
    · have h := mrg_length (srtM n (l.take (l.length / 2))) (srtM n (l.drop (l.length / 2)))
      have h1 := srtM_length n (l.take (l.length / 2))
      have h2 := srtM_length n (l.drop (l.length / 2))
      rw [List.length_take] at h1
      rw [List.length_drop] at h2
      omega

set_option maxRecDepth 20000 in
theorem ref6_sorted_spec {P : Program} (F : F_warehouseref6_sorted P) : ∀ (n : Nat) (ex : Bool) (l : List Ent), l.length ≤ n → l.length ≤ 100000 → (∀ e ∈ l, EntOk e) → ∀ (H : List AObj),
    ACalls P F.id [.list ex 2 (eC l)] H (fun r H' => r = .list false 2 (eC (srtM n l)) ∧ H' = H) := by
  intro n
  induction n with
  | zero =>
    intro ex l hl _ hE H
    have : l = [] := List.length_eq_zero_iff.1 (by omega)
    subst this
    refine ACalls.pure rfl (acalls_of_body F.has ?_)
    (conv => whnf); refine And.intro (by decide) ?_
    conv => whnf
    exact pubF rfl rfl rfl rfl
  | succ n ih =>
    intro ex l hl hl2 hE H
    refine ACalls.pure (by simp [AVal.closed, AVal.isPure]) (acalls_of_body F.has ?_)
    (conv => whnf); refine recA (fun h => ?_) (fun h => ?_)
    · simp [eC_length] at h
      (conv => whnf); refine And.intro (⟨roomMul (by simp [eC_length]; omega) (by omega), roomB_le (by simp [eC_length]; omega)⟩) ?_
      conv => whnf
      rw [srtM, if_pos (by omega)]
      exact pubF rfl rfl rfl (pureEs_eC _)
    · simp [eC_length] at h
      have ew : IntKind.i64.wrap (((eC l).length : Int).tdiv 2) = ((l.length / 2 : Nat) : Int) := by
        rw [eC_length, Int.tdiv_eq_ediv_of_nonneg (by omega), wrapI _ (by omega) (by omega)]; omega
      have es1 : List.drop 0 (List.take (IntKind.i64.wrap (((eC l).length : Int).tdiv 2)).toNat (eC l)) = eC (l.take (l.length / 2)) := by rw [ew, Int.toNat_natCast, List.drop_zero, eC, eC, List.map_take]
      have es2 : List.drop (IntKind.i64.wrap (((eC l).length : Int).tdiv 2)).toNat (List.take (eC l).length (eC l)) = eC (l.drop (l.length / 2)) := by rw [ew, Int.toNat_natCast, List.take_length, eC, eC, List.map_drop]
      (conv => whnf); refine And.intro (by decide) ?_
      (conv => whnf); refine And.intro (⟨by rw [ew]; omega, by rw [ew, eC_length]; omega⟩) ?_
      conv => whnf
      rw [es1]
      (conv => whnf); refine ⟨_, ih _ (l.take (l.length / 2)) (by rw [List.length_take]; omega) (by rw [List.length_take]; omega) (fun e h => hE e (List.mem_of_mem_take h)) _, ?_⟩
      (conv => whnf); refine And.intro (by decide) ?_
      (conv => whnf); refine And.intro (⟨by rw [ew]; omega, by rw [ew, eC_length]; omega⟩) ?_
      conv => whnf
      rw [es2]
      (conv => whnf); refine ⟨_, ih _ (l.drop (l.length / 2)) (by rw [List.length_drop]; omega) (by rw [List.length_drop]; omega) (fun e h => hE e (List.mem_of_mem_drop h)) _, ?_⟩
      have b1 := srtM_bnd n (l.take (l.length / 2)) fun e h => hE e (List.mem_of_mem_take h)
      have b2 := srtM_bnd n (l.drop (l.length / 2)) fun e h => hE e (List.mem_of_mem_drop h)
      have c1 := srtM_length n (l.take (l.length / 2))
      have c2 := srtM_length n (l.drop (l.length / 2))
      rw [List.length_take] at b1 c1
      rw [List.length_drop] at b2 c2
      (conv => whnf); refine ⟨_, ref6_mergeB_spec F.warehouseref6_merge (B := 65536 * 100000) (by decide) false false _ _ (by omega) (by omega) (fun e h => entB_mono (by omega) (b1 e h)) (fun e h => entB_mono (by omega) (b2 e h)) _, ?_⟩
      conv => whnf
      rw [srtM, if_neg (by omega)]
      exact .closed _ (by simp [AVal.closed, AVal.isPure])

set_option maxRecDepth 20000 in
theorem ref6_Sum_spec {P : Program} (F : F_warehouseref6_Sum P) (ex : Bool) (l : List Ent) (hl : l.length ≤ 100000) (hE : ∀ e ∈ l, EntOk e) (H : List AObj) :
    ACalls P F.id [.list ex 2 (eC l)] H (fun r H' => r = resR (srtM l.length l) ∧ H' = H) := by
  refine ACalls.pure (by simp [AVal.closed, AVal.isPure]) (acalls_of_body F.has ?_)
  (conv => whnf); refine ACalls.use (ref6_sorted_spec F.warehouseref6_sorted l.length ex l (Nat.le_refl _) hl hE _) ?_
  have hb := srtM_bnd l.length l hE
  have hc := srtM_length l.length l
  (conv => whnf); refine ACalls.use (ref6_result_spec F.warehouseref6_result false (srtM l.length l) (by omega) (fun e h => by have := (hb e h).1; omega) _) ?_
  rcases resR_cases (srtM l.length l) with h | h
  all_goals
    rw [h]
    conv => whnf
    exact pub2 (.closed _ rfl) (.closed _ rfl)

def frmE : List Ent → Int
  | [] => 0
  | e :: l => if fitB e ≠ 0 then fitB e else frmE l

def norR (l : List Ent) : AVal := if frmE l ≠ 0 then .tuple [.nil, .int .i64 (frmE l)] else resR (srtM l.length l)

theorem frmE_ok : ∀ (l : List Ent), frmE l = 0 → ∀ e ∈ l, fitB e = 0
  | [], _, e, he => by cases he
  | x :: l, h, e, he => by
    rw [frmE] at h
    by_cases hx : fitB x = 0
    · rw [if_neg (by simp [hx])] at h
      rcases List.mem_cons.1 he with rfl | he
      · exact hx
      · exact frmE_ok l h e he
    · rw [if_pos hx] at h; exact absurd h hx

theorem fit_ok {e : Ent} (h : fitB e = 0) : EntOk e := by
  obtain ⟨h1, h2, h3, _⟩ := fitB_zero e h
  exact ⟨h1, h2, h3⟩

set_option maxRecDepth 20000 in
theorem ref6_Normalize_spec {P : Program} (F : F_warehouseref6_Normalize P) (ex : Bool) (l : List Ent) (hl : l.length ≤ 100000) (H : List AObj) :
    ACalls P F.id [.list ex 2 (eC l)] H (fun r H' => r = norR l ∧ H' = H) := by
  refine ACalls.pure (by simp [AVal.closed, AVal.isPure]) (acalls_of_body F.has ?_)
  conv => whnf
  refine ⟨fun m ρ H1 => ∃ k : Nat, k + m = l.length ∧ frmE l = frmE (l.drop k) ∧ H1 = [] ∧ Sv 24 [(0, .list ex 2 (eC l)), (4, .int .i64 k)] ρ, l.length, [], ?_, ?_⟩
  · exact ⟨0, by omega, rfl, rfl, Sv.intro rfl ⟨rfl, rfl, trivial⟩⟩
  rintro m ρ H1 ⟨k, hk, hr, rfl, d, rfl⟩
  (conv => whnf); refine recA (fun hlt => ?_) (fun hlt => ?_)
  · simp [eC_length] at hlt
    have hx : l[k]? = some l[k] := List.getElem?_eq_getElem hlt
    rw [List.drop_eq_getElem_cons hlt, frmE] at hr
    (conv => whnf); refine And.intro (by omega) ?_
    (conv => whnf); refine recO (eC_at hx) ?_
    (conv => whnf); refine ACalls.use (fits_spec F.warehouseref6_fits l[k] _) ?_
    (conv => whnf); refine recA (fun h1 => ?_) (fun h1 => ?_)
    · replace h1 : (!(fitB l[k] == 0)) = true := h1
      have h2 : fitB l[k] ≠ 0 := by simpa using h1
      rw [if_pos h2] at hr
      conv => whnf
      rw [norR, hr, if_pos h2]
      exact pub2 (.closed _ rfl) (.closed _ rfl)
    · replace h1 : (!(fitB l[k] == 0)) = false := h1
      have h2 : fitB l[k] = 0 := by simpa using h1
      rw [if_neg (by simp [h2])] at hr
      conv => whnf
      refine ⟨m - 1, by omega, Gp.keep rfl ?_ fun ρ1 h => ⟨k + 1, by omega, hr, rfl, h⟩⟩
      exact ⟨rfl, intEq (wrapI _ (by omega) (by omega)), trivial⟩
  · simp [eC_length] at hlt
    rw [List.drop_of_length_le (by omega), frmE] at hr
    (conv => whnf); refine ACalls.use (ref6_Sum_spec F.warehouseref6_Sum ex l hl (fun e h => fit_ok (frmE_ok l hr e h)) _) ?_
    rw [norR, if_neg (by simp [hr])]
    rcases resR_cases (srtM l.length l) with h | h
    all_goals
      rw [h]
      conv => whnf
      exact pub2 (.closed _ rfl) (.closed _ rfl)

set_option maxRecDepth 20000 in
theorem bag_Normalize_spec {P : Program} (F : F_bag_Normalize P) (hS : SortE P F.bag_sum.slices_SortFunc_LEntry_Entry.id F.bag_sum.bag_sum_1.id) (ex : Bool) (l : List Ent) (hl : l.length ≤ 100000) (H : List AObj) :
    ACalls P F.id [.list ex 2 (eC l)] H (fun r H' => r = norR l ∧ H' = H) := by
  refine ACalls.pure (by simp [AVal.closed, AVal.isPure]) (acalls_of_body F.has ?_)
  conv => whnf
  refine ⟨fun m ρ H1 => ∃ k : Nat, k + m = l.length ∧ frmE l = frmE (l.drop k) ∧ H1 = [] ∧ Sv 23 [(0, .list ex 2 (eC l)), (7, .list ex 2 (eC l)), (8, .int .i64 l.length), (9, .int .i64 k)] ρ, l.length, [], ?_, ?_⟩
  · exact ⟨0, by omega, rfl, rfl, Sv.intro rfl ⟨rfl, rfl, intEq (by rw [eC_length]), rfl, trivial⟩⟩
  rintro m ρ H1 ⟨k, hk, hr, rfl, d, rfl⟩
  (conv => whnf); refine recA (fun hlt => ?_) (fun hlt => ?_)
  · simp at hlt
    have hx : l[k]? = some l[k] := List.getElem?_eq_getElem hlt
    rw [List.drop_eq_getElem_cons hlt, frmE] at hr
    (conv => whnf); refine And.intro (by omega) ?_
    (conv => whnf); refine recO (eC_at hx) ?_
    (conv => whnf); refine ACalls.use (formed_spec F.bag_formed l[k] _) ?_
    (conv => whnf); refine recA (fun h1 => ?_) (fun h1 => ?_)
    · replace h1 : (!(fitB l[k] == 0)) = true := h1
      have h2 : fitB l[k] ≠ 0 := by simpa using h1
      rw [if_pos h2] at hr
      conv => whnf
      rw [norR, hr, if_pos h2]
      exact pub2 (.closed _ rfl) (.closed _ rfl)
    · replace h1 : (!(fitB l[k] == 0)) = false := h1
      have h2 : fitB l[k] = 0 := by simpa using h1
      rw [if_neg (by simp [h2])] at hr
      conv => whnf
      refine ⟨m - 1, by omega, Gp.none rfl ?_ fun ρ1 h => ⟨k + 1, by omega, hr, rfl, h⟩⟩
      exact ⟨.closed (.list ex 2 (eC l)) rfl, .closed (.list ex 2 (eC l)) rfl, .closed _ rfl, pub_int (wrapI _ (by omega) (by omega)), trivial⟩
  · simp at hlt
    rw [List.drop_of_length_le (by omega), frmE] at hr
    (conv => whnf); refine ACalls.use (bag_sum_spec F.bag_sum hS ex l hl (fun e h => fit_ok (frmE_ok l hr e h)) _) ?_
    rw [norR, if_neg (by simp [hr])]
    rcases resR_cases (srtM l.length l) with h | h
    all_goals
      rw [h]
      conv => whnf
      exact pub2 (.closed _ rfl) (.closed _ rfl)

end Go.AW

namespace Go.AW
variable [Draws]
attribute [local irreducible] ACalls
def tabB (b : List Ent) : Bool := (bagB b == 0) && b.all posE

def negE (e : Ent) : Bool := decide (e.cnt < 0)

theorem bag_IsTable_1_spec {P : Program} (F : F_bag_IsTable_1 P) (e : Ent) (H : List AObj) :
    ACalls P F.id [.agg (entC e)] H (fun r H' => r = .bool (negE e) ∧ H' = H) := by
  refine ACalls.pure (by simp [AVal.closed, entC, AVal.isPure]) (acalls_of_body F.has ?_)
  conv => whnf
  exact .closed _ rfl

theorem ContainsE_spec {P : Program} (F : F_slices_ContainsFunc_LEntry_Entry P) (g : FuncId) (p : Ent → Bool) (hg : ∀ c H, ACalls P g [.agg (entC c)] H (fun r H' => r = .bool (p c) ∧ H' = H)) (ex : Bool) (l : List Ent) (hl : l.length ≤ 1000000) (H : List AObj) :
    ACalls P F.id [.list ex 2 (eC l), .fn g []] H (fun r H' => r = .bool (l.any p) ∧ H' = H) := by
  refine ACalls.pure (by simp [AVal.closed, AVal.isPure]) (acalls_of_body F.has ?_)
  (conv => whnf); refine ACalls.use (IndexFuncE_spec F.slices_IndexFunc_LEntry_Entry g [] p _ l (fun c _ => hg c _) ex hl) ?_
  conv => whnf
  refine pubB ?_
  have h := idxOf_any p l 0 (by omega)
  rw [Bool.eq_iff_iff, ← h]; simp

theorem neg_any {b : List Ent} (h : bagB b = 0) : (!(b.any negE)) = b.all posE := by
  have hn := fun e he => (((bagB_iff b).1 h).2.1 e he).2
  rw [Bool.eq_iff_iff]
  simp only [Bool.not_eq_true', List.any_eq_false, List.all_eq_true, negE, posE, decide_eq_true_eq]
  constructor
  · intro h1 e he
    have := h1 e he
    have := hn e he
    omega
  · intro h1 e he
    have := h1 e he
    omega

set_option maxRecDepth 20000 in
theorem bag_IsTable_spec {P : Program} (F : F_bag_IsTable P) (ex : Bool) (b : List Ent) (H : List AObj) :
    ACalls P F.id [.list ex 2 (eC b)] H (fun r H' => r = .bool (tabB b) ∧ H' = H) := by
  refine ACalls.pure (by simp [AVal.closed, AVal.isPure]) (acalls_of_body F.has ?_)
  (conv => whnf); refine ACalls.use (bag_Validate_spec F.bag_Validate ex b _) ?_
  (conv => whnf); refine recA (fun h => ?_) (fun h => ?_)
  · replace h : (bagB b == 0) = true := h
    have h1 : bagB b = 0 := by simpa using h
    (conv => whnf); refine ACalls.use (ContainsE_spec F.slices_ContainsFunc_LEntry_Entry F.bag_IsTable_1.id negE (fun c H => bag_IsTable_1_spec F.bag_IsTable_1 c H) ex b (bagB_le h1) _) ?_
    conv => whnf
    exact pubB (by rw [neg_any h1, tabB, h, Bool.true_and])
  · replace h : (bagB b == 0) = false := h
    conv => whnf
    exact pubB (by rw [tabB, h, Bool.false_and])

end Go.AW

namespace Go.AW
variable [Draws]
attribute [local irreducible] ACalls
abbrev SortL (P : Program) (F : F_bag_Normalize P) : Prop := SortE P F.bag_sum.slices_SortFunc_LEntry_Entry.id F.bag_sum.bag_sum_1.id

end Go.AW

namespace Go.AW
variable [Draws]
attribute [local irreducible] ACalls
def rowOk (e : Ent) : Prop := e.row.length ≤ 12 ∧ e.row.all validB = true

def resP (l : List Ent) : List Ent × Int := if (l.all fun e => smallB e.cnt) = true ∧ (l.filter nzB).length ≤ 4096 then (l.filter nzB, 0) else ([], 2)

def tR (p : List Ent × Int) : AVal := if p.2 ≠ 0 then .tuple [.nil, .int .i64 p.2] else .tuple [.list false 2 (eC p.1), .int .i64 0]

def rV (p : List Ent × Int) : AVal := .tuple [.list false 2 (eC p.1), .int .i64 p.2]

theorem resR_P (l : List Ent) : resR l = tR (resP l) := by
  rw [resR, resP]
  split <;> rfl

theorem tR_wk {p : List Ent × Int} (h : p.2 ≠ 0 → p.1 = []) : WkD (tR p) (rV p) := by
  unfold tR rV
  split
  · rename_i h1
    rw [h h1]
    exact .tuples (.cons (.nil false 2) (.cons (.refl _) ⟨rfl, fun i a b h => by simp at h⟩))
  · rename_i h1
    have : p.2 = 0 := Classical.byContradiction fun h => h1 h
    rw [this]
    exact .refl _

def Good (p : List Ent × Int) : Prop := bagB p.1 = 0 ∧ (p.2 ≠ 0 → p.1 = [])

theorem good_err (n : Int) : Good ([], n) := ⟨rfl, fun _ => rfl⟩

theorem resP_good {l : List Ent} (hs : Srt l) (hf : ∀ e ∈ l, rowOk e) : Good (resP l) := by
  unfold resP
  split
  · rename_i h
    refine ⟨(bagB_iff _).2 ⟨h.2, fun e he => ?_, srt_filter _ hs⟩, fun h => absurd rfl h⟩
    obtain ⟨h1, h2⟩ := List.mem_filter.1 he
    exact ⟨(fitB_iff e).2 ⟨(hf e h1).1, List.all_eq_true.1 h.1 e h1, (hf e h1).2⟩, by simpa [nzB] using h2⟩
  · exact good_err 2

theorem resP_cnt {l : List Ent} (h0 : (resP l).2 = 0) (r : List V) : cntL (resP l).1 r = cntL l r := by
  unfold resP at h0 ⊢
  split at h0
  · rename_i h
    rw [if_pos h]
    exact cntL_nz l r
  · cases h0

theorem resP_ok {l : List Ent} (hs : Srt l) (hl : l.length ≤ 4096) (hc : ∀ r, smallB (cntL l r) = true) : (resP l).2 = 0 := by
  have hsm : ∀ e ∈ l, smallB e.cnt = true := fun e he => by rw [← cntL_mem hs he]; exact hc _
  rw [resP, if_pos ⟨List.all_eq_true.2 hsm, Nat.le_trans (List.length_filter_le _ _) hl⟩]

theorem mem_srtM : ∀ (n : Nat) (l : List Ent) (e : Ent), e ∈ srtM n l → ∃ x ∈ l, x.row = e.row
  | 0, l, e, h => ⟨e, h, rfl⟩
  | n + 1, l, e, h => by
    rw [srtM] at h
    split at h
    · exact ⟨e, h, rfl⟩
    · rcases mem_mrg _ _ e h with ⟨x, hx, hr⟩ | ⟨x, hx, hr⟩
      · obtain ⟨y, hy, hyr⟩ := mem_srtM n _ x hx
        exact ⟨y, List.mem_of_mem_take hy, hyr.trans hr⟩
      · obtain ⟨y, hy, hyr⟩ := mem_srtM n _ x hx
        exact ⟨y, List.mem_of_mem_drop hy, hyr.trans hr⟩

theorem rowOk_of {x e : Ent} (h : rowOk x) (hr : x.row = e.row) : rowOk e := by rw [rowOk, ← hr]; exact h

def sumP (l : List Ent) : List Ent × Int := resP (srtM l.length l)

theorem sumP_good {l : List Ent} (hf : ∀ e ∈ l, rowOk e) : Good (sumP l) :=
  resP_good (srt_srtM _ _ (by omega)) fun e he => by
    obtain ⟨x, hx, hr⟩ := mem_srtM _ _ e he
    exact rowOk_of (hf x hx) hr

theorem sumP_cnt {l : List Ent} (h0 : (sumP l).2 = 0) (r : List V) : cntL (sumP l).1 r = cntL l r := by
  rw [sumP, resP_cnt h0, cntL_srtM]

theorem sumP_ok {l : List Ent} (hl : l.length ≤ 4096) (hc : ∀ r, smallB (cntL l r) = true) : (sumP l).2 = 0 :=
  resP_ok (srt_srtM _ _ (by omega)) (Nat.le_trans (srtM_length _ _) hl) fun r => by rw [cntL_srtM]; exact hc r

theorem sumP_ext {a b : List Ent} (h : ∀ r, cntL a r = cntL b r) : sumP a = sumP b := by
  have ha := srt_srtM a.length a (by omega)
  have hb := srt_srtM b.length b (by omega)
  have hcn : ∀ r, cntL (srtM a.length a) r = cntL (srtM b.length b) r := fun r => by rw [cntL_srtM, cntL_srtM, h r]
  have e : (srtM a.length a).filter nzB = (srtM b.length b).filter nzB := bag_ext _ _ (ha.filter _) (hb.filter _) (fun e he => by have := (List.mem_filter.1 he).2; simpa [nzB] using this) (fun e he => by have := (List.mem_filter.1 he).2; simpa [nzB] using this) fun r => by rw [cntF_nz, cntF_nz, hcn r]
  rw [sumP, sumP, resP, resP, small_nz (srtM a.length a), small_nz (srtM b.length b), e]

def norP (l : List Ent) : List Ent × Int := if frmE l ≠ 0 then ([], frmE l) else sumP l

theorem norR_P (l : List Ent) : norR l = tR (norP l) := by
  rw [norR, norP]
  split
  · rename_i h; rw [tR, if_pos h]
  · exact resR_P _

theorem fit_rowOk {e : Ent} (h : fitB e = 0) : rowOk e := by
  have := (fitB_iff e).1 h
  exact ⟨this.1, this.2.2⟩

theorem norP_good (l : List Ent) : Good (norP l) := by
  unfold norP
  split
  · exact good_err _
  · rename_i h
    exact sumP_good fun e he => fit_rowOk (frmE_ok l (Classical.byContradiction fun hn => h hn) e he)

theorem bag_rowOk {l : List Ent} (h : bagB l = 0) : ∀ e ∈ l, rowOk e := fit_row h

theorem bag_srt {l : List Ent} (h : bagB l = 0) : Srt l := ((bagB_iff l).1 h).2.2

theorem bag_len {l : List Ent} (h : bagB l = 0) : l.length ≤ 4096 := ((bagB_iff l).1 h).1

theorem nz0 {n : Int} (h : ¬ n ≠ 0) : n = 0 := Classical.byContradiction h

theorem smallB_iff (n : Int) : smallB n = true ↔ -65536 ≤ n ∧ n ≤ 65536 := by simp [smallB]

theorem ACalls.goodW {P : Program} {f : FuncId} {args : List AVal} {H : List AObj} {R : AVal} {p : List Ent × Int} (h : ACalls P f args H (fun r H' => r = R ∧ H' = H)) (hR : R = tR p) (hp : Good p) : ACalls P f args H (fun r H' => r = rV p ∧ H' = H) :=
  ACalls.weakRD h (by rintro r H' ⟨rfl, rfl⟩; exact ⟨_, by rw [hR]; exact tR_wk hp.2, rfl, rfl⟩)

section
variable {P : Program}
theorem ref6_Normalize_w (F : F_warehouseref6_Normalize P) (ex : Bool) (l : List Ent) (hl : l.length ≤ 100000) (H : List AObj) :
    ACalls P F.id [.list ex 2 (eC l)] H (fun r H' => r = rV (norP l) ∧ H' = H) := (ref6_Normalize_spec F ex l hl H).goodW (norR_P l) (norP_good l)

end
end Go.AW

namespace Go.AW
variable [Draws]
attribute [local irreducible] ACalls
theorem and7 (n : Int) : ∃ k : Nat, k ≤ 7 ∧ and64 n 7 = k := by
  have h : and64 n 7 = n % 8 := and64_mask n 3 (by omega)
  exact ⟨(n % 8).toNat, by omega, by rw [h]; omega⟩

end Go.AW

namespace Go.AW
variable [Draws]
attribute [local irreducible] ACalls
theorem tabB_eq {b : List Ent} (h : bagB b = 0) : tabB b = b.all posE := by rw [tabB, h]; rfl

end Go.AW

namespace Go.AW
variable [Draws]
attribute [local irreducible] ACalls
def rwA (R : List (List V)) : List AVal := R.map fun r => .list false 3 (vC r)

def rwC (R : List (List V)) : List (List AVal) := (rwA R).map fun x => [x]

theorem rwC_length (R : List (List V)) : (rwC R).length = R.length := by simp [rwC, rwA]

theorem rwC_append (R S : List (List V)) : rwC (R ++ S) = rwC R ++ rwC S := by simp [rwC, rwA]

theorem rwC_at {R : List (List V)} {k : Nat} {r : List V} (h : R[k]? = some r) : (rwC R)[k]? = some [.list false 3 (vC r)] := by rw [rwC, rwA, List.getElem?_map, List.getElem?_map, h]; rfl

theorem pureEs_rwC (R : List (List V)) : pureEs (rwC R) = true := by simp [pureEs, rwC, rwA, AVal.isPure]

def expL (b : List Ent) : List (List V) := b.flatMap fun e => List.replicate e.cnt.toNat e.row

theorem expL_nil : expL [] = [] := rfl

theorem expL_cons (e : Ent) (b : List Ent) : expL (e :: b) = List.replicate e.cnt.toNat e.row ++ expL b := rfl

theorem expL_append (a b : List Ent) : expL (a ++ b) = expL a ++ expL b := by simp [expL]

theorem expL_split {b : List Ent} {k : Nat} {x : Ent} (h : b[k]? = some x) : expL b = expL (b.take k) ++ (List.replicate x.cnt.toNat x.row ++ expL (b.drop (k + 1))) := by
  obtain ⟨y, hy, hd, _⟩ := get_drop (List.getElem?_eq_some_iff.1 h).1
  rw [h] at hy; cases hy
  rw [← expL_cons, ← hd, ← expL_append, List.take_append_drop]

theorem expL_take {b : List Ent} {k : Nat} {x : Ent} (h : b[k]? = some x) : expL (b.take (k + 1)) = expL (b.take k) ++ List.replicate x.cnt.toNat x.row := by
  rw [List.take_add_one, h, expL_append]
  show _ ++ expL [x] = _
  rw [expL_cons, expL_nil, List.append_nil]

theorem expL_row {b : List Ent} {r : List V} (h : r ∈ expL b) : ∃ e ∈ b, e.row = r := by
  obtain ⟨e, he, hr⟩ := List.mem_flatMap.1 h
  exact ⟨e, he, (List.mem_replicate.1 hr).2.symm⟩

theorem szW_len : ∀ (b : List Ent) (a : Int), (∀ e ∈ b, 0 ≤ e.cnt ∧ e.cnt ≤ 65536) → 0 ≤ a → a + 65536 * b.length ≤ 4000000000000 → szW b a = a + (expL b).length
  | [], a, _, _, _ => by simp [szW, expL_nil]
  | e :: b, a, h, h0, hl => by
    obtain ⟨h1, h2⟩ := h e (List.mem_cons_self ..)
    rw [List.length_cons] at hl
    have ew : IntKind.i64.wrap (a + e.cnt) = a + e.cnt := wrapI _ (by omega) (by omega)
    rw [szW, ew, szW_len b _ (fun e he => h e (List.mem_cons_of_mem _ he)) (by omega) (by omega), expL_cons, List.length_append, List.length_replicate]
    omega

theorem bag_cnt {b : List Ent} (h : bagB b = 0) (hp : b.all posE = true) : ∀ e ∈ b, 0 ≤ e.cnt ∧ e.cnt ≤ 65536 := fun e he => by
  have h1 := fitB_zero e (((bagB_iff b).1 h).2.1 e he).1
  have h2 := List.all_eq_true.1 hp e he
  simp [posE] at h2
  omega

theorem szW_bag {b : List Ent} (h : bagB b = 0) (hp : b.all posE = true) : szW b 0 = (expL b).length := by
  have := szW_len b 0 (bag_cnt h hp) (by omega) (by have := bag_len h; omega)
  omega

def expP (b : List Ent) : List (List V) × Int :=
  if bagB b ≠ 0 then ([], bagB b) else if b.all posE = true then (if 4096 < szW b 0 then ([], 2) else (expL b, 0)) else ([], 8)

def tW (p : List (List V) × Int) : AVal := if p.2 ≠ 0 then .tuple [.nil, .int .i64 p.2] else .tuple [.list false 1 (rwC p.1), .int .i64 0]

def rW (p : List (List V) × Int) : AVal := .tuple [.list false 1 (rwC p.1), .int .i64 p.2]

theorem tW_wk {p : List (List V) × Int} (h : p.2 ≠ 0 → p.1 = []) : WkD (tW p) (rW p) := by
  unfold tW rW
  split
  · rename_i h1
    rw [h h1]
    exact .tuples (.cons (.nil false 1) (.cons (.refl _) ⟨rfl, fun i a b h => by simp at h⟩))
  · rename_i h1
    rw [nz0 h1]
    exact .refl _

theorem expP_nil (b : List Ent) : (expP b).2 ≠ 0 → (expP b).1 = [] := by
  intro h
  unfold expP at h ⊢
  split
  · rfl
  · rename_i h1
    rw [if_neg h1] at h
    split
    · rename_i h2
      rw [if_pos h2] at h
      split
      · rfl
      · rename_i h3
        rw [if_neg h3] at h
        exact absurd rfl h
    · rfl

theorem expP_row (b : List Ent) : ∀ r ∈ (expP b).1, r.length ≤ 12 := by
  intro r hr
  unfold expP at hr
  split at hr
  · cases hr
  · rename_i h1
    split at hr
    · split at hr
      · cases hr
      · obtain ⟨e, he, rfl⟩ := expL_row hr
        exact (bag_rowOk (nz0 h1) e he).1
    · cases hr

theorem expP_len (b : List Ent) : (expP b).1.length ≤ 4096 := by
  unfold expP
  split
  · exact Nat.zero_le _
  · rename_i h1
    split
    · rename_i h2
      split
      · exact Nat.zero_le _
      · rename_i h3
        rw [szW_bag (nz0 h1) h2] at h3
        show (expL b).length ≤ 4096
        omega
    · exact Nat.zero_le _

theorem expL_snoc {b : List Ent} {k j : Nat} {x : Ent} : (expL (b.take k) ++ List.replicate j x.row) ++ [x.row] = expL (b.take k) ++ List.replicate (j + 1) x.row := by
  rw [List.append_assoc, ← List.replicate_succ']

set_option maxRecDepth 20000 in
theorem bag_Expand_raw {P : Program} (F : F_bag_Expand P) (ex : Bool) (b : List Ent) (H : List AObj) :
    ACalls P F.id [.list ex 2 (eC b)] H (fun r H' => r = tW (expP b) ∧ H' = H) := by
  refine ACalls.pure (by simp [AVal.closed, AVal.isPure]) (acalls_of_body F.has ?_)
  by_cases h0 : bagB b ≠ 0
  · have s1 := fun H => bag_Size_spec F.bag_Size ex b H
    rw [sizeR, if_neg h0] at s1
    (conv => whnf); refine ACalls.use (s1 _) ?_
    (conv => whnf); refine recT (by show (!(bagB b == 0)) = true; simp [h0]) ?_
    conv => whnf
    rw [expP, if_pos h0, tW, if_pos h0]
    exact pub2 (.closed _ rfl) (.closed _ rfl)
  replace h0 := nz0 h0
  have s1 := fun H => bag_Size_spec F.bag_Size ex b H
  rw [sizeR, if_pos h0] at s1
  have lb := bag_len h0
  (conv => whnf); refine ACalls.use (s1 _) ?_
  (conv => whnf); refine ACalls.use (bag_IsTable_spec F.bag_IsTable ex b _) ?_
  rw [tabB_eq h0]
  by_cases hp : ¬ b.all posE = true
  · have hpf : b.all posE = false := by simpa using hp
    (conv => whnf); refine recT (by rw [hpf]; rfl) ?_
    conv => whnf
    rw [expP, if_neg (by simp [h0]), if_neg hp]
    exact pub2 (.closed _ rfl) (.closed _ rfl)
  replace hp := Classical.not_not.1 hp
  (conv => whnf); refine recF (by rw [hp]; rfl) ?_
  have hR : expP b = if 4096 < szW b 0 then ([], 2) else (expL b, 0) := by rw [expP, if_neg (by simp [h0]), if_pos hp]
  rw [hR]
  clear hR s1
  have hsz := szW_bag h0 hp
  (conv => whnf); refine recA (fun h3 => ?_) (fun h3 => ?_)
  · simp at h3
    conv => whnf
    rw [if_pos h3]
    exact pub2 (.closed _ rfl) (.closed _ rfl)
  simp at h3
  rw [if_neg (by omega)]
  rw [hsz] at h3
  have cnts := bag_cnt h0 hp
  have hrow := fun e he => (bag_rowOk h0 e he).1
  have cl0 : ∀ (f : Bool) (z : Nat) (y : List (List AVal)) (H1 : List AObj), pureEs y = true → Pub H1 0 [0] (.list f z y) (.list f z y) := fun f z y H1 hy => .closed _ (by simpa [AVal.closed, AVal.isPure, pureEs] using hy)
  have cl1 : ∀ (f : Bool) (z : Nat) (y : List (List AVal)) (H1 : List AObj), pureEs y = true → Pub H1 0 [0, 1] (.list f z y) (.list f z y) := fun f z y H1 hy => .closed _ (by simpa [AVal.closed, AVal.isPure, pureEs] using hy)
  conv => whnf
  refine ⟨fun m ρ H1 => ∃ k : Nat, k + m = b.length ∧ H1 = [.arr 1 (rwC (expL (b.take k)))] ∧ Sv 41 [(6, .sl 0 (expL (b.take k)).length 0 (expL (b.take k)).length), (22, .list ex 2 (eC b)), (23, .int .i64 b.length), (24, .int .i64 k)] ρ, b.length, [(6, 1)], ?_, ?_⟩
  · exact ⟨0, by omega, rfl, Sv.intro rfl ⟨rfl, rfl, intEq (by rw [eC_length]), rfl, trivial⟩⟩
  rintro m ρ H1 ⟨k, hk, rfl, d, rfl⟩
  (conv => whnf); refine recA (fun hlt => ?_) (fun hlt => ?_)
  · simp at hlt
    obtain ⟨x, hx, _, hxm⟩ := get_drop hlt
    obtain ⟨x1, x2⟩ := cnts x hxm
    have x3 := hrow x hxm
    have hspl := congrArg List.length (expL_split hx)
    rw [List.length_append, List.length_append, List.length_replicate] at hspl
    (conv => whnf); refine And.intro (by omega) ?_
    (conv => whnf); refine recO (eC_at hx) ?_
    conv => whnf
    refine ⟨fun m1 ρ1 H2 => ∃ j : Nat, j + m1 = x.cnt.toNat ∧ H2 = [.arr 1 (rwC (expL (b.take k) ++ List.replicate j x.row)), .arr 2 [entC x]] ∧
      Sv 41 [(6, .sl 0 (expL (b.take k) ++ List.replicate j x.row).length 0 (expL (b.take k) ++ List.replicate j x.row).length), (8, .ptr 1 1 0 0), (22, .list ex 2 (eC b)), (23, .int .i64 b.length), (24, .int .i64 k), (29, .int .i64 x.cnt), (30, .int .i64 j)] ρ1, x.cnt.toNat, [], ?_, ?_⟩
    · refine ⟨0, by omega, ?_, Sv.intro rfl ⟨?_, rfl, rfl, rfl, rfl, rfl, rfl, trivial⟩⟩
      · rw [List.replicate_zero, List.append_nil]; rfl
      · rw [List.replicate_zero, List.append_nil]; rfl
    rintro m1 ρ1 H2 ⟨j, hj, rfl, d1, rfl⟩
    have hRl : (expL (b.take k) ++ List.replicate j x.row).length = (expL (b.take k)).length + j := by rw [List.length_append, List.length_replicate]
    (conv => whnf); refine recA (fun hjl => ?_) (fun hjl => ?_)
    · simp at hjl
      (conv => whnf); refine ACalls.use (CloneV_spec F.slices_Clone_LValue_Value false x.row (by omega) _) ?_
      (conv => whnf); refine recT (by rw [rwC_length]; exact Nat.beq_refl _) ?_
      (conv => whnf); refine And.intro (⟨roomMul (by simp; omega) (by omega), roomB_le (by simp; omega), rfl, by rw [rwC_length]⟩) ?_
      conv => whnf
      have hN : rwC (expL (b.take k) ++ List.replicate (j + 1) x.row) = rwC (expL (b.take k) ++ List.replicate j x.row) ++ [[.list false 3 (vC x.row)]] := by rw [← expL_snoc, rwC_append]; rfl
      have hl : (rwC (expL (b.take k) ++ List.replicate j x.row) ++ [[AVal.list false 3 (vC x.row)]]).length = (expL (b.take k) ++ List.replicate (j + 1) x.row).length := by rw [← hN, rwC_length]
      refine ⟨m1 - 1, by omega, Gp.two 0 1 (by decide) 1 2 (rwC (expL (b.take k) ++ List.replicate (j + 1) x.row)) [entC x] (by rw [hN]; rfl) rfl (pureEs_rwC _) (pureEs_eC [x]) rfl ?_ fun ρ2 h => ⟨j + 1, by omega, rfl, h⟩⟩
      exact ⟨pubSl (k := 0) rfl rfl hl hl, .keepP 1 1 0 0 1 rfl, cl1 _ _ _ _ (pureEs_eC _), .closed _ rfl, .closed _ rfl, .closed _ rfl, pub_int (wrapI _ (by omega) (by omega)), trivial⟩
    · simp at hjl
      have hjx : j = x.cnt.toNat := by omega
      have hT := expL_take hx
      rw [← hjx] at hT
      conv => whnf
      refine ⟨m - 1, by omega, Gp.one 0 1 (rwC (expL (b.take (k + 1)))) (by rw [hT]; rfl) (pureEs_rwC _) rfl ?_ fun ρ2 h => ⟨k + 1, by omega, rfl, h⟩⟩
      exact ⟨by rw [hT]; exact pubSl (k := 0) rfl rfl rfl rfl, cl0 _ _ _ _ (pureEs_eC _), .closed _ rfl, pub_int (wrapI _ (by omega) (by omega)), trivial⟩
  · simp at hlt
    rw [List.take_of_length_le hlt]
    conv => whnf
    exact pub2 (pubF rfl (rwC_length _).symm (rwC_length _).symm (pureEs_rwC _)) (.closed _ rfl)

end Go.AW

namespace Go.AW
variable [Draws]
attribute [local irreducible] ACalls
theorem bag_Expand_w {P : Program} (F : F_bag_Expand P) (ex : Bool) (b : List Ent) (H : List AObj) :
    ACalls P F.id [.list ex 2 (eC b)] H (fun r H' => r = rW (expP b) ∧ H' = H) :=
  ACalls.weakRD (bag_Expand_raw F ex b H) (by rintro r H' ⟨rfl, rfl⟩; exact ⟨_, tW_wk (expP_nil b), rfl, rfl⟩)

end Go.AW

namespace Go.AW
variable [Draws]
attribute [local irreducible] ACalls
theorem pick_valid {r : List V} (h : r.all validB = true) (is : List Int) : (pickL zV r is).all validB = true := List.all_eq_true.2 fun v hv => by
  obtain ⟨i, _, rfl⟩ := List.mem_map.1 hv
  split
  · rename_i hi
    rw [List.getD_eq_getElem?_getD, List.getElem?_eq_getElem (by omega)]
    exact List.all_eq_true.1 h _ (List.getElem_mem _)
  · rfl

end Go.AW

namespace Go.AW
variable [Draws]
attribute [local irreducible] ACalls
def entT (e : Ent) : List AVal := [.list true 3 (vC e.row), .int .i64 e.cnt]

def eT (l : List Ent) : List (List AVal) := l.map entT

theorem eT_length (l : List Ent) : (eT l).length = l.length := List.length_map ..

theorem eT_wk (x : Bool) (l : List Ent) : WkD (.list x 2 (eT l)) (.list false 2 (eC l)) := by
  refine .list x false 2 _ _ (by simp) (by rw [eT_length, eC_length]) (fun i e f he hf => ?_) (fun i j f c hf hc => ?_) (fun i j e f d c he hf hd hc => ?_)
  · rw [eT, List.getElem?_map] at he
    rw [eC, List.getElem?_map] at hf
    obtain ⟨a, ha, rfl⟩ := Option.map_eq_some_iff.1 he
    obtain ⟨b, hb, rfl⟩ := Option.map_eq_some_iff.1 hf
    rfl
  · rw [eC, List.getElem?_map] at hf
    obtain ⟨b, hb, rfl⟩ := Option.map_eq_some_iff.1 hf
    rcases j with _ | _ | j
    · cases hc; rfl
    · cases hc; rfl
    · simp [entC] at hc
  · rw [eT, List.getElem?_map] at he
    rw [eC, List.getElem?_map] at hf
    obtain ⟨a, ha, rfl⟩ := Option.map_eq_some_iff.1 he
    obtain ⟨b, hb, rfl⟩ := Option.map_eq_some_iff.1 hf
    rw [ha] at hb; cases hb
    rcases j with _ | _ | j
    · cases hd; cases hc
      exact .list true false 3 _ _ (by simp) rfl (fun i e f he hf => by rw [he] at hf; cases hf; rfl) (fun i j f c hf hc => by
        rw [vC, List.getElem?_map] at hf
        obtain ⟨v, _, rfl⟩ := Option.map_eq_some_iff.1 hf
        rcases j with _ | _ | _ | j
        · cases hc; rfl
        · cases hc; rfl
        · cases hc; rfl
        · simp [valC] at hc) (fun i j e f d c he hf hd hc => by rw [he] at hf; cases hf; rw [hd] at hc; cases hc; exact .refl _)
    · cases hd; cases hc; exact .refl _
    · simp [entT] at hd

end Go.AW

namespace Go.AW
variable [Draws]
attribute [local irreducible] ACalls
theorem clL {H1 : List AObj} {n : Nat} {ids : List Nat} (f : Bool) (z : Nat) (y : List (List AVal)) : Pub H1 n ids (.list f z y) (.list f z y) := .closed _ rfl

def celV (r : List V) (i : Int) : V := if 0 ≤ i ∧ i < (r.length : Int) then r.getD i.toNat zV else zV

theorem pick1 (r : List V) (i : Int) : pickL zV r [i] = [celV r i] := rfl

theorem window_cell_spec {P : Program} (F : F_window_cell P) (e1 : Bool) (r : List V) (i : Int) (hr : r.length ≤ 1000000) (H : List AObj) :
    ACalls P F.id [.list e1 3 (vC r), .int .i64 i] H (fun q H' => q = .agg (valC (celV r i)) ∧ H' = H) := by
  refine ACalls.pure (by simp [AVal.closed, AVal.isPure]) (acalls_of_body F.has ?_)
  (conv => whnf); refine ACalls.use (schema_Pick_spec F.schema_Pick e1 true r [i] hr (by simp) _) ?_
  conv => whnf
  refine And.intro (by decide) ?_
  conv => whnf
  exact .closed _ rfl

theorem window_integer_spec {P : Program} (F : F_window_integer P) (n : Int) (H : List AObj) :
    ACalls P F.id [.int .i64 n] H (fun r H' => r = .agg (valC (numV n)) ∧ H' = H) := by
  refine ACalls.pure rfl (acalls_of_body F.has ?_)
  (conv => whnf); refine recA (fun h => ?_) (fun h => ?_)
  · simp at h
    conv => whnf
    exact pubEq (by rw [numV, if_pos (by omega)]; rfl) rfl
  simp at h
  (conv => whnf); refine recA (fun h2 => ?_) (fun h2 => ?_)
  · simp at h2
    conv => whnf
    exact pubEq (by rw [numV, if_pos (by omega)]; rfl) rfl
  simp at h2
  conv => whnf
  exact pubEq (by rw [numV, if_neg (by omega)]; rfl) rfl

def winB (f : Int) : Bool := f == 1 || f == 3 || (decide (8 ≤ f) && decide (f ≤ 13))

def cmpK (is : List Int) (a b : List V) : Int := rowsCmp (pickL zV a is) (pickL zV b is)

def cmpO (is : List Int) (a b : List V) : Int := if cmpK is a b ≠ 0 then cmpK is a b else rowsCmp a b

theorem partitions_1_spec {P : Program} (F : F_window_partitions_1 P) (e1 e2 e3 : Bool) (a b : List V) (is : List Int) (ha : a.length ≤ 1000000) (hb : b.length ≤ 1000000) (hi : is.length ≤ 1000000) (H : List AObj) :
    ACalls P F.id [.list e1 3 (vC a), .list e2 3 (vC b), .cptr [.list e3 1 (iC is)] 0] H (fun r H' => r = .int .i64 (cmpO is a b) ∧ H' = H) := by
  refine ACalls.pure (by simp [AVal.closed, AVal.isPure]) (acalls_of_body F.has ?_)
  (conv => whnf); refine ⟨_, schema_Pick_spec F.schema_Pick e1 e3 a is ha hi _, ?_⟩
  (conv => whnf); refine ⟨_, schema_Pick_spec F.schema_Pick e2 e3 b is hb hi _, ?_⟩
  (conv => whnf); refine ⟨_, value_CompareRows_spec F.value_CompareRows false false (pickL zV a is) (pickL zV b is) (by rw [pickL_length]; exact hi) _, ?_⟩
  (conv => whnf); refine recA (fun h => ?_) (fun h => ?_)
  · replace h : (!(cmpK is a b == 0)) = true := h
    simp at h
    conv => whnf
    exact pubI (by rw [cmpO, if_pos h]; rfl)
  · replace h : (!(cmpK is a b == 0)) = false := h
    simp at h
    (conv => whnf); refine ACalls.use (value_CompareRows_spec F.value_CompareRows e1 e2 a b ha _) ?_
    conv => whnf
    exact pubI (by rw [cmpO, if_neg (by simp [h])])

def fpL (r : List V) : List Int := r.flatMap fun v => encB [v]

theorem fpL_len (r : List V) (h : r.all validB = true) : (fpL r).length ≤ 67 * r.length := by
  induction r with
  | nil => simp [fpL]
  | cons v l ih =>
    simp only [List.all_cons, Bool.and_eq_true] at h
    have h1 := encV_len v h.1
    have h2 := ih h.2
    have e : fpL (v :: l) = encB [v] ++ fpL l := by simp [fpL]
    have e2 : (encB [v]).length = 1 + (encV v).length := by simp [encB]; omega
    rw [e, List.length_append, e2, List.length_cons]; omega

def strB (l : List Int) : ByteArray := ⟨(l.map fun n => UInt8.ofNat n.toNat).toArray⟩

set_option maxRecDepth 20000 in
theorem fingerprint_spec {P : Program} (F : F_window_fingerprint P) (ex : Bool) (r : List V) (hv : r.all validB = true) (hr : r.length ≤ 10000) (H : List AObj) :
    ACalls P F.id [.list ex 3 (vC r)] H (fun q H' => q = .str (strB (fpL r)) ∧ H' = H) := by
  refine ACalls.pure (by simp [AVal.closed, AVal.isPure]) (acalls_of_body F.has ?_)
  conv => whnf
  refine ⟨fun m ρ H1 => ∃ k : Nat, k + m = r.length ∧ H1 = [.arr 1 (bC (fpL (r.take k)))] ∧ Sv 26 [(3, .sl 0 (fpL (r.take k)).length 0 (fpL (r.take k)).length), (8, .list ex 3 (vC r)), (9, .int .i64 r.length), (10, .int .i64 k)] ρ, r.length, [(3, 1)], ?_, ?_⟩
  · exact ⟨0, by omega, rfl, Sv.intro rfl ⟨rfl, rfl, intEq (by rw [vC_length]), rfl, trivial⟩⟩
  rintro m ρ H1 ⟨k, hk, rfl, d, rfl⟩
  (conv => whnf); refine recA (fun hlt => ?_) (fun hlt => ?_)
  · simp at hlt
    obtain ⟨x, hx, _, hxm⟩ := get_drop hlt
    have hvx : [x].all validB = true := by simpa using List.all_eq_true.1 hv x hxm
    have hT : fpL (r.take (k + 1)) = fpL (r.take k) ++ encB [x] := by
      rw [List.take_add_one, hx]; simp [fpL]
    have hl1 : (fpL (r.take k)).length ≤ 67 * (r.take k).length := fpL_len _ (List.all_eq_true.2 fun v hv1 => List.all_eq_true.1 hv v (List.mem_of_mem_take hv1))
    have hl2 : (encB [x]).length ≤ 67 := by have := fpL_len [x] hvx; simpa [fpL] using this
    rw [List.length_take] at hl1
    (conv => whnf); refine And.intro (by omega) ?_
    (conv => whnf); refine recO (vC_at hx) ?_
    have henc := encode_list F.value_Encode true [x]
    rw [encR, if_neg (by simp), if_pos hvx] at henc
    (conv => whnf); refine ACalls.use (henc _) ?_
    (conv => whnf); refine recT (by rw [bC_length]; exact Nat.beq_refl _) ?_
    (conv => whnf); refine And.intro (⟨roomMul (by rw [bC_length]; omega) (by omega), roomB_le (by rw [bC_length]; omega), rfl, by rw [bC_length]⟩) ?_
    conv => whnf
    have hL : (bC (fpL (r.take k)) ++ bC (encB [x])).length = (fpL (r.take (k + 1))).length := by rw [hT, List.length_append, List.length_append, bC_length, bC_length]
    refine ⟨m - 1, by omega, Gp.one 0 1 (bC (fpL (r.take (k + 1)))) (by rw [hT, bC_append]; rfl) (pureEs_bC _) rfl ?_ fun ρ1 h => ⟨k + 1, by omega, rfl, h⟩⟩
    exact ⟨pubSl (k := 0) rfl rfl hL hL, clL .., .closed _ rfl, pub_int (wrapI _ (by omega) (by omega)), trivial⟩
  · simp [vC_length] at hlt
    rw [List.take_of_length_le (by omega)]
    (conv => whnf); refine recT (by rw [bC_length]; exact Nat.beq_refl _) ?_
    have hE : ((bC (fpL r)).drop 0).take (fpL r).length = bC (fpL r) := by rw [List.drop_zero]; exact List.take_of_length_le (by rw [bC_length]; omega)
    conv => whnf
    refine ⟨_, by rw [hE]; exact bytesOf_bC _, ?_⟩
    conv => whnf
    exact pubEq (by rw [strB]) rfl

end Go.AW

namespace Go.AW
variable [Draws]
theorem isCmp_O (is : List Int) : IsCmp (cmpO is) where
  vals a b := by
    unfold cmpO cmpK
    split
    · exact rowsCmp_vals _ _
    · exact rowsCmp_vals _ _
  anti a b := by
    have h1 := rowsCmp_anti (pickL zV a is) (pickL zV b is)
    have h2 := rowsCmp_anti a b
    unfold cmpO cmpK
    rw [h1, h2]
    by_cases h : rowsCmp (pickL zV a is) (pickL zV b is) = 0
    · rw [if_neg (by simp [h]), if_neg (by simp [h])]
    · rw [if_pos h, if_pos (by omega)]
  zero a b := by
    unfold cmpO cmpK
    by_cases h : rowsCmp (pickL zV a is) (pickL zV b is) = 0
    · rw [if_neg (by simp [h])]; exact rowsCmp_zero a b
    · rw [if_pos h]
      refine ⟨fun h2 => absurd h2 h, fun e => ?_⟩
      rw [e] at h
      exact absurd ((rowsCmp_zero _ _).2 rfl) h
  trans a b d h1 h2 := by
    unfold cmpO cmpK at *
    by_cases e1 : rowsCmp (pickL zV a is) (pickL zV b is) = 0
    · rw [if_neg (by simp [e1])] at h1
      rw [(rowsCmp_zero _ _).1 e1]
      by_cases e2 : rowsCmp (pickL zV b is) (pickL zV d is) = 0
      · rw [if_neg (by simp [e2])] at h2 ⊢; exact rowsCmp_trans _ _ _ h1 h2
      · rw [if_pos e2] at h2 ⊢; exact h2
    · rw [if_pos e1] at h1
      by_cases e2 : rowsCmp (pickL zV b is) (pickL zV d is) = 0
      · rw [← (rowsCmp_zero _ _).1 e2, if_pos e1]; exact h1
      · rw [if_pos e2] at h2
        have := rowsCmp_trans _ _ _ h1 h2
        rw [if_pos (by omega)]; exact this

section
variable {α : Type} {c : α → α → Int}
theorem IsCmp.le_trans (h : IsCmp c) {x y z : α} (h1 : c x y ≤ 0) (h2 : c y z ≤ 0) : c x z ≤ 0 := by
  by_cases e1 : c x y = 0
  · rw [(h.zero x y).1 e1]; exact h2
  · by_cases e2 : c y z = 0
    · rw [← (h.zero y z).1 e2]; exact h1
    · have := h.trans x y z (by omega) (by omega); omega

def SrtC (c : α → α → Int) (l : List α) : Prop := l.Pairwise fun x y => c x y ≤ 0

theorem SrtC.uniq (h : IsCmp c) {a b : List α} (ha : SrtC c a) (hb : SrtC c b) (hp : a.Perm b) : a = b :=
  hp.eq_of_pairwise (fun x y _ _ h1 h2 => by
    have := h.anti x y
    exact (h.zero x y).1 (by omega)) ha hb

def insC (c : α → α → Int) (x : α) : List α → List α
  | [] => [x]
  | y :: l => if c x y ≤ 0 then x :: y :: l else y :: insC c x l

def srtC (c : α → α → Int) : List α → List α
  | [] => []
  | x :: l => insC c x (srtC c l)

theorem insC_perm (x : α) : ∀ l : List α, (insC c x l).Perm (x :: l)
  | [] => .refl _
  | y :: l => by
    rw [insC]
    split
    · exact .refl _
    · exact ((insC_perm x l).cons y).trans (.swap x y l)

theorem srtC_perm : ∀ l : List α, (srtC c l).Perm l
  | [] => .refl _
  | x :: l => (insC_perm x _).trans ((srtC_perm l).cons x)

theorem insC_srt (h : IsCmp c) (x : α) : ∀ l : List α, SrtC c l → SrtC c (insC c x l)
  | [], _ => by simp [insC, SrtC]
  | y :: l, hs => by
    have h1 := List.pairwise_cons.1 hs
    rw [insC]
    split
    · rename_i hx
      refine List.pairwise_cons.2 ⟨fun z hz => ?_, hs⟩
      rcases List.mem_cons.1 hz with rfl | hz
      · exact hx
      · exact h.le_trans hx (h1.1 z hz)
    · rename_i hx
      refine List.pairwise_cons.2 ⟨fun z hz => ?_, insC_srt h x l h1.2⟩
      rcases List.mem_cons.1 ((insC_perm x l).mem_iff.1 hz) with rfl | hz
      · have := h.anti z y; omega
      · exact h1.1 z hz

theorem srtC_srt (h : IsCmp c) : ∀ l : List α, SrtC c (srtC c l)
  | [] => List.Pairwise.nil
  | x :: l => insC_srt h x _ (srtC_srt h l)

theorem srtC_eq (h : IsCmp c) {a b : List α} (ha : SrtC c a) (hp : a.Perm b) : a = srtC c b :=
  SrtC.uniq h ha (srtC_srt h b) (hp.trans (srtC_perm b).symm)

theorem srtC_length (l : List α) : (srtC c l).length = l.length := (srtC_perm l).length_eq

theorem srtC_mem {l : List α} {x : α} : x ∈ srtC c l ↔ x ∈ l := (srtC_perm l).mem_iff

end
def srtO (is : List Int) (l : List (List V)) : List (List V) := srtC (cmpO is) l

def SortR (P : Program) (f g : FuncId) : Prop :=
  ∀ (e3 : Bool) (is : List Int) (l : List (List V)), is.length ≤ 1000000 → l ≠ [] → l.length ≤ 1000000 → (∀ r ∈ l, r.length ≤ 1000) → ∀ (H : List AObj) (i0 : Nat), H[i0]? = some (.arr 1 (rwC l)) →
    ACalls P f [.sl i0 l.length 0 l.length, .fn g [.cptr [.list e3 1 (iC is)] 0]] H (fun r H' => r = .tuple [] ∧ H' = H.set i0 (.arr 1 (rwC (srtO is l))))

end Go.AW

namespace Go.AW
variable [Draws]
attribute [local irreducible] ACalls
instance lawfulBytes : LawfulBEq ByteArray where
  rfl {a} := by rw [beq_bytes]; simp
  eq_of_beq {a b} h := by
    rw [beq_bytes] at h
    obtain ⟨⟨a⟩⟩ := a
    obtain ⟨⟨b⟩⟩ := b
    simp at h
    subst h; rfl

def keyB (is : List Int) (r : List V) : ByteArray := strB (fpL (pickL zV r is))

def mpK (b : Nat) : List ByteArray → List (AVal × AVal)
  | [] => []
  | k :: ks => (.str k, .int .i64 b) :: mpK (b + 1) ks

def hdC (b : Nat) : List (List (List V)) → List (List AVal)
  | [] => []
  | g :: gs => [.sl b g.length 0 g.length] :: hdC (b + 1) gs

def pOb (gs : List (List (List V))) : List AObj := gs.map fun g => .arr 1 (rwC g)

def grpsK (is : List Int) (R : List (List V)) (ks : List ByteArray) : List (List (List V)) := ks.map fun k => R.filter fun r => keyB is r == k

theorem hdC_length : ∀ (b : Nat) (gs : List (List (List V))), (hdC b gs).length = gs.length
  | _, [] => rfl
  | b, g :: gs => by rw [hdC, List.length_cons, List.length_cons, hdC_length]

theorem hdC_at : ∀ {b : Nat} {gs : List (List (List V))} {i : Nat} {g : List (List V)}, gs[i]? = some g → (hdC b gs)[i]? = some [.sl (b + i) g.length 0 g.length]
  | _, [], _, _, h => by simp at h
  | b, x :: gs, 0, g, h => by simp at h; subst h; rfl
  | b, x :: gs, i + 1, g, h => by
    rw [hdC, List.getElem?_cons_succ, hdC_at (by simpa using h)]
    rw [show b + 1 + i = b + (i + 1) from by omega]

theorem hdC_append : ∀ (b : Nat) (gs hs : List (List (List V))), hdC b (gs ++ hs) = hdC b gs ++ hdC (b + gs.length) hs
  | _, [], _ => rfl
  | b, g :: gs, hs => by rw [List.cons_append, hdC, hdC, hdC_append, List.cons_append, List.length_cons, show b + 1 + gs.length = b + (gs.length + 1) from by omega]

theorem hdC_set : ∀ (b : Nat) (gs : List (List (List V))) (i : Nat) (g : List (List V)), hdC b (gs.set i g) = (hdC b gs).set i [.sl (b + i) g.length 0 g.length]
  | _, [], _, _ => rfl
  | b, x :: gs, 0, g => rfl
  | b, x :: gs, i + 1, g => by rw [List.set_cons_succ, hdC, hdC, List.set_cons_succ, hdC_set, show b + 1 + i = b + (i + 1) from by omega]

theorem pOb_at {gs : List (List (List V))} {i : Nat} {g : List (List V)} (h : gs[i]? = some g) : (pOb gs)[i]? = some (.arr 1 (rwC g)) := by rw [pOb, List.getElem?_map, h]; rfl

theorem pOb_length (gs : List (List (List V))) : (pOb gs).length = gs.length := List.length_map ..

theorem mpK_find : ∀ (ks : List ByteArray) (b : Nat) (k : ByteArray), (k ∉ ks ∧ mfind 2 (.str k) (mpK b ks) = none) ∨ ∃ i, ks[i]? = some k ∧ mfind 2 (.str k) (mpK b ks) = some (.int .i64 ((b + i : Nat) : Int))
  | [], b, k => .inl ⟨by simp, rfl⟩
  | x :: ks, b, k => by
    have hx : eqCell 2 (.str k) (.str x) = some (k == x) := by rw [beq_bytes]; rfl
    by_cases e : k = x
    · subst e
      exact .inr ⟨0, rfl, by rw [mpK, mfind, hx]; simp⟩
    · have hf : (k == x) = false := by simpa using e
      rw [mpK]
      simp only [mfind, hx, hf]
      rcases mpK_find ks (b + 1) k with ⟨h1, h2⟩ | ⟨i, h1, h2⟩
      · exact .inl ⟨by simp [e, h1], h2⟩
      · exact .inr ⟨i + 1, h1, by rw [h2, show b + 1 + i = b + (i + 1) from by omega]⟩

theorem mpK_put : ∀ (ks : List ByteArray) (b : Nat) (k : ByteArray), k ∉ ks → mput 2 (.str k) (.int .i64 ((b + ks.length : Nat) : Int)) (mpK b ks) = mpK b (ks ++ [k])
  | [], b, k, _ => rfl
  | x :: ks, b, k, h => by
    have hx : eqCell 2 (.str k) (.str x) = some (k == x) := by rw [beq_bytes]; rfl
    have hf : (k == x) = false := by simp at h ⊢; exact h.1
    rw [List.cons_append, mpK, mpK]
    simp only [mput, hx, hf]
    rw [List.length_cons, show b + (ks.length + 1) = b + 1 + ks.length from by omega, mpK_put ks (b + 1) k (by simp at h; exact h.2)]

theorem mpK_ok (k : ByteArray) : ∀ (ks : List ByteArray) (b : Nat), keyOk 2 (.str k) (mpK b ks) = true := fun ks => by
  have h : ∀ (ks : List ByteArray) (b : Nat), (mpK b ks).all (fun kv => (eqCell 2 (.str k) kv.1).isSome) = true := by
    intro ks
    induction ks with
    | nil => intro b; rfl
    | cons x ks ih => intro b; rw [mpK, List.all_cons, ih]; rfl
  intro b
  rw [keyOk, h]; rfl

theorem nodup_inj {α : Type} {l : List α} (h : l.Nodup) {i j : Nat} (hi : i < l.length) (hj : j < l.length) (e : l[i] = l[j]) : i = j := by
  have hp := List.pairwise_iff_getElem.1 h
  rcases Nat.lt_trichotomy i j with h1 | h1 | h1
  · exact absurd e (hp i j hi hj h1)
  · exact h1
  · exact absurd e.symm (hp j i hj hi h1)

theorem grpsK_new {is : List Int} {R : List (List V)} {n : Nat} {r : List V} {ks : List ByteArray} (hr : R[n]? = some r) (hk : ∀ x ∈ R.take n, keyB is x ∈ ks) (hn : keyB is r ∉ ks) :
    grpsK is (R.take (n + 1)) (ks ++ [keyB is r]) = grpsK is (R.take n) ks ++ [[r]] := by
  have e : R.take (n + 1) = R.take n ++ [r] := by rw [List.take_add_one, hr]; rfl
  rw [grpsK, List.map_append, e]
  congr 1
  · refine List.map_congr_left fun k hk2 => ?_
    rw [List.filter_append]
    have : (keyB is r == k) = false := by
      refine beq_eq_false_iff_ne.2 fun h => hn (h ▸ hk2)
    simp [this]
  · simp only [List.map_cons, List.map_nil, List.filter_append]
    have : (R.take n).filter (fun x => keyB is x == keyB is r) = [] := List.filter_eq_nil_iff.2 fun x hx h => hn (by
      have := hk x hx
      rwa [show keyB is x = keyB is r from by simpa using h] at this)
    simp [this]

theorem grpsK_old {is : List Int} {R : List (List V)} {n i : Nat} {r : List V} {ks : List ByteArray} (hnd : ks.Nodup) (hr : R[n]? = some r) (hi : ks[i]? = some (keyB is r)) :
    grpsK is (R.take (n + 1)) ks = (grpsK is (R.take n) ks).set i ((R.take n).filter (fun x => keyB is x == keyB is r) ++ [r]) := by
  have e : R.take (n + 1) = R.take n ++ [r] := by rw [List.take_add_one, hr]; rfl
  refine List.ext_getElem? fun j => ?_
  rw [List.getElem?_set, grpsK, grpsK, List.getElem?_map, List.getElem?_map, List.length_map, e]
  have hil := (List.getElem?_eq_some_iff.1 hi).1
  by_cases hj : i = j
  · subst hj
    rw [if_pos rfl, if_pos hil, hi]
    simp
  · rw [if_neg hj]
    cases hkj : ks[j]? with
    | none => rfl
    | some k =>
      have hne : (keyB is r == k) = false := by
        refine beq_eq_false_iff_ne.2 fun h => hj ?_
        have hjl := (List.getElem?_eq_some_iff.1 hkj).1
        exact nodup_inj hnd hil hjl (by
          rw [(List.getElem?_eq_some_iff.1 hi).2, (List.getElem?_eq_some_iff.1 hkj).2]; exact h)
      simp [hne]

end Go.AW

namespace Go.AW
variable [Draws]
attribute [local irreducible] ACalls
def kyS (is : List Int) (R : List (List V)) : List ByteArray := R.foldl (fun ks r => if keyB is r ∈ ks then ks else ks ++ [keyB is r]) []

theorem kyS_snoc (is : List Int) (R : List (List V)) (r : List V) : kyS is (R ++ [r]) = if keyB is r ∈ kyS is R then kyS is R else kyS is R ++ [keyB is r] := by
  rw [kyS, List.foldl_append]; rfl

theorem kyS_facts (is : List Int) (R : List (List V)) : ∀ n, (kyS is (R.take n)).Nodup ∧ (∀ r ∈ R.take n, keyB is r ∈ kyS is (R.take n)) ∧ (∀ k ∈ kyS is (R.take n), ∃ r ∈ R.take n, keyB is r = k)
  | 0 => by simp [kyS]
  | n + 1 => by
    obtain ⟨h1, h2, h3⟩ := kyS_facts is R n
    cases hr : R[n]? with
    | none =>
      have hle : R.length ≤ n := by simpa using hr
      rw [List.take_of_length_le (by omega)]
      rw [List.take_of_length_le hle] at h1 h2 h3
      exact ⟨h1, h2, h3⟩
    | some r =>
      have e : R.take (n + 1) = R.take n ++ [r] := by rw [List.take_add_one, hr]; rfl
      rw [e, kyS_snoc]
      by_cases hk : keyB is r ∈ kyS is (R.take n)
      · rw [if_pos hk]
        refine ⟨h1, fun x hx => ?_, fun k hk2 => ?_⟩
        · rcases List.mem_append.1 hx with hx | hx
          · exact h2 x hx
          · rw [List.mem_singleton.1 hx]; exact hk
        · obtain ⟨x, hx, hxe⟩ := h3 k hk2
          exact ⟨x, List.mem_append_left _ hx, hxe⟩
      · rw [if_neg hk]
        refine ⟨List.nodup_append.2 ⟨h1, by simp, fun a ha b hb => ?_⟩, fun x hx => ?_, fun k hk2 => ?_⟩
        · rw [List.mem_singleton.1 hb]; rintro rfl; exact hk ha
        · rcases List.mem_append.1 hx with hx | hx
          · exact List.mem_append_left _ (h2 x hx)
          · rw [List.mem_singleton.1 hx]; exact List.mem_append_right _ (by simp)
        · rcases List.mem_append.1 hk2 with hk2 | hk2
          · obtain ⟨x, hx, hxe⟩ := h3 k hk2
            exact ⟨x, List.mem_append_left _ hx, hxe⟩
          · exact ⟨r, List.mem_append_right _ (by simp), (List.mem_singleton.1 hk2).symm⟩

def parL (is ord : List Int) (R : List (List V)) : List (List (List V)) := (grpsK is R (kyS is R)).map (srtO ord)

def ppC (G : List (List (List V))) : List (List AVal) := G.map fun g => [.list false 1 (rwC g)]

theorem ppC_length (G : List (List (List V))) : (ppC G).length = G.length := List.length_map ..

theorem ppC_at {G : List (List (List V))} {k : Nat} {g : List (List V)} (h : G[k]? = some g) : (ppC G)[k]? = some [.list false 1 (rwC g)] := by rw [ppC, List.getElem?_map, h]; rfl

theorem pureEs_ppC (G : List (List (List V))) : pureEs (ppC G) = true := by simp [pureEs, ppC, AVal.isPure]

theorem kyS_len (is : List Int) (R : List (List V)) : (kyS is R).length ≤ R.length := by
  have h : ∀ (R : List (List V)) (ks : List ByteArray), (R.foldl (fun ks r => if keyB is r ∈ ks then ks else ks ++ [keyB is r]) ks).length ≤ ks.length + R.length := by
    intro R
    induction R with
    | nil => intro ks; simp
    | cons r R ih =>
      intro ks
      rw [List.foldl_cons, List.length_cons]
      have := ih (if keyB is r ∈ ks then ks else ks ++ [keyB is r])
      split at this
      · rename_i h1; rw [if_pos h1]; omega
      · rename_i h1; rw [if_neg h1]; simp at this; omega
  have := h R []
  simpa [kyS] using this

theorem pOb_set (gs : List (List (List V))) (i : Nat) (g : List (List V)) : pOb (gs.set i g) = (pOb gs).set i (.arr 1 (rwC g)) := by rw [pOb, pOb, List.map_set]

theorem setO_to {H : List AObj} {n : Nat} {o : AObj} {k : List AObj → Prop} {H' : List AObj} (h : H.set n o = H') (hk : k H') : setO H n o k := by rw [setO_eq, h]; exact hk

theorem hdC_srt (ord : List Int) : ∀ (b : Nat) (G : List (List (List V))), hdC b (G.map (srtO ord)) = hdC b G
  | _, [] => rfl
  | b, g :: G => by rw [List.map_cons, hdC, hdC, hdC_srt, srtO, srtC_length]

theorem obPar (m : List (AVal × AVal)) (G : List (List (List V))) : ObP (.map m :: .arr 1 (hdC 2 G) :: pOb G) [1] (.arr 1 (hdC 2 G)) (.arr 1 (ppC G)) := by
  refine .map 1 _ _ (by rw [ppC_length, hdC_length]) (fun i e e1 h1 h2 => ?_) (fun i j e e1 d d1 h1 h2 h3 h4 => ?_)
  all_goals
    have hi : i < G.length := by have := (List.getElem?_eq_some_iff.1 h2).1; rwa [ppC_length] at this
    have hg : G[i]? = some G[i] := List.getElem?_eq_getElem hi
    rw [hdC_at hg] at h1
    rw [ppC_at hg] at h2
    cases h1
    cases h2
  · rfl
  · rcases j with _ | j
    · cases h3
      cases h4
      refine ⟨?_, rfl⟩
      have h := Pub.frz (H1 := .map m :: .arr 1 (hdC 2 G) :: pOb G) (n := 0) (ids := [1]) (2 + i) (rwC G[i]).length 0 (rwC G[i]).length 1 (rwC G[i]) (by rw [Nat.add_comm]; exact pOb_at hg) rfl (pureEs_rwC _) (by simp; omega)
      rw [List.drop_zero, List.take_length, rwC_length] at h
      exact h
    · simp at h3

set_option maxRecDepth 20000 in
theorem partitions_spec {P : Program} (F : F_window_partitions P) (hS : SortR P F.slices_SortFunc_LLValue_LValue.id F.window_partitions_1.id) (e1 e2 e3 : Bool) (R : List (List V)) (is ord : List Int)
    (hR : R.length ≤ 4096) (hr : ∀ r ∈ R, r.length ≤ 1000 ∧ r.all validB = true) (hi : is.length ≤ 10000) (ho : ord.length ≤ 1000000) (H : List AObj) :
    ACalls P F.id [.list e1 1 (rwC R), .list e2 1 (iC is), .list e3 1 (iC ord)] H (fun r H' => r = .list false 1 (ppC (parL is ord R)) ∧ H' = H) := by
  refine ACalls.pure (by simp [AVal.closed, AVal.isPure]) (acalls_of_body F.has ?_)
  conv => whnf
  refine Ghost.none (n := 65) (live := [(0, .list e1 1 (rwC R)), (1, .list e2 1 (iC is)), (5, .cptr [.list e3 1 (iC ord)] 0), (6, .nil)]) rfl ⟨clL .., clL .., .frzP 0 1 0 0 1 [[.list e3 1 (iC ord)]] _ rfl rfl rfl rfl (by simp), .closed _ rfl, trivial⟩ ?_
  rintro ρ ⟨d, rfl⟩
  conv => whnf
  refine ⟨fun m ρ H1 => ∃ k : Nat, k + m = R.length ∧ H1 = .map (mpK 0 (kyS is (R.take k))) :: .arr 1 (hdC 2 (grpsK is (R.take k) (kyS is (R.take k)))) :: pOb (grpsK is (R.take k) (kyS is (R.take k))) ∧
    Sv 65 [(1, .list e2 1 (iC is)), (5, .cptr [.list e3 1 (iC ord)] 0), (7, .mp 0), (8, .sl 1 (kyS is (R.take k)).length 0 (kyS is (R.take k)).length), (17, .list e1 1 (rwC R)), (18, .int .i64 R.length), (19, .int .i64 k)] ρ, R.length, [(8, 1)], ?_, ?_⟩
  · exact ⟨0, by omega, rfl, Sv.intro rfl ⟨rfl, rfl, rfl, rfl, rfl, intEq (by rw [rwC_length]), rfl, trivial⟩⟩
  rintro m ρ H1 ⟨k, hk, rfl, d, rfl⟩
  (conv => whnf); refine recA (fun hlt => ?_) (fun hlt => ?_)
  · simp at hlt
    obtain ⟨r, hx, _, hxm⟩ := get_drop hlt
    obtain ⟨hrl, hrv⟩ := hr r hxm
    obtain ⟨hnd, hin, hex⟩ := kyS_facts is R k
    have hksl := kyS_len is (R.take k)
    rw [List.length_take] at hksl
    have eT : R.take (k + 1) = R.take k ++ [r] := by rw [List.take_add_one, hx]; rfl
    have hky := kyS_snoc is (R.take k) r
    rw [← eT] at hky
    generalize hks : kyS is (R.take k) = ks at *
    have hgl : (grpsK is (R.take k) ks).length = ks.length := by rw [grpsK, List.length_map]
    (conv => whnf); refine And.intro (by omega) ?_
    (conv => whnf); refine recO (rwC_at hx) ?_
    (conv => whnf); refine ACalls.use (schema_Pick_spec F.schema_Pick false e2 r is (by omega) (by omega) _) ?_
    (conv => whnf); refine ACalls.use (fingerprint_spec F.window_fingerprint false (pickL zV r is) (pick_valid hrv is) (by rw [pickL_length]; omega) _) ?_
    (conv => whnf); refine recT (mpK_ok (keyB is r) ks 0) ?_
    rcases mpK_find ks 0 (keyB is r) with ⟨hno, hf⟩ | ⟨i, hi1, hf⟩
    · conv => whnf
      refine recN hf ?_
      rw [if_neg hno] at hky
      (conv => whnf); refine recT (by rw [hdC_length, hgl]; exact Nat.beq_refl _) ?_
      (conv => whnf); refine recT (mpK_ok (keyB is r) ks 0) ?_
      (conv => whnf); refine recT (by rw [hdC_length, hgl]; exact Nat.beq_refl _) ?_
      (conv => whnf); refine And.intro (⟨by show _ ≤ 1099511627776; simp; omega, roomB_le (by simp; omega), rfl, by rw [hdC_length, hgl]⟩) ?_
      have hlen2 : (hdC 2 (grpsK is (R.take k) ks) ++ [[AVal.nil]]).length = ks.length + 1 := by rw [List.length_append, hdC_length, hgl]; rfl
      (conv => whnf); refine recT (Nat.beq_refl _) ?_
      (conv => whnf); refine And.intro (by simp [hdC_length, hgl]; omega) ?_
      (conv => whnf); refine recT (Nat.beq_refl _) ?_
      have hidx : (hdC 2 (grpsK is (R.take k) ks) ++ [AVal.nil] :: List.replicate 0 [AVal.nil])[0 + (ks.length : Int).toNat]? = some [AVal.nil] := by
        rw [Nat.zero_add, Int.toNat_natCast, List.getElem?_append_right (by rw [hdC_length, hgl]; exact Nat.le_refl _), hdC_length, hgl, Nat.sub_self]; rfl
      (conv => whnf); refine recO (hidx) ?_
      (conv => whnf); refine And.intro (⟨by show _ ≤ 1099511627776; simp, by show _ ≤ 1099511627776; simp⟩) ?_
      rw [snocK_eq]
      (conv => whnf); refine recT (Nat.beq_refl _) ?_
      (conv => whnf); refine And.intro (by simp [hdC_length, hgl]; omega) ?_
      (conv => whnf); refine recT (Nat.beq_refl _) ?_
      (conv => whnf); refine recO (hidx) ?_
      conv => whnf
      have hG := grpsK_new (is := is) hx hin hno
      refine ⟨m - 1, by omega, Gp.keep rfl ?_ fun ρ1 h => ⟨k + 1, by omega, ?_, h⟩⟩
      · refine ⟨rfl, rfl, rfl, slEq ?_ ?_, rfl, rfl, intEq (wrapI _ (by omega) (by omega)), trivial⟩
        · rw [hky]; simp [hdC_length, hgl]
        · rw [hky]; simp [hdC_length, hgl]
      · have hmp := mpK_put ks 0 (keyB is r) hno
        rw [Nat.zero_add] at hmp
        rw [hky, hG, ← hmp]
        show AObj.map (mput 2 (.str (keyB is r)) (.int .i64 ks.length) (mpK 0 ks)) :: AObj.arr 1 (setEs (hdC 2 (grpsK is (R.take k) ks) ++ [[AVal.nil]]) (0 + (ks.length : Int).toNat) [AVal.sl (0 + (AObj.map (mput 2 (.str (keyB is r)) (.int .i64 ks.length) (mpK 0 ks)) :: AObj.arr 1 (hdC 2 (grpsK is (R.take k) ks) ++ [[AVal.nil]]) :: pOb (grpsK is (R.take k) ks)).length) 1 0 1]) :: (pOb (grpsK is (R.take k) ks) ++ [AObj.arr 1 [[.list false 3 (vC r)]]]) = _
        rw [setEs_eq, hdC_append, Nat.zero_add, Int.toNat_natCast, List.set_append_right _ _ (by rw [hdC_length, hgl]; exact Nat.le_refl _), hdC_length, hgl, Nat.sub_self]
        have e5 : 0 + (AObj.map (mput 2 (.str (keyB is r)) (.int .i64 ks.length) (mpK 0 ks)) :: AObj.arr 1 (hdC 2 (grpsK is (R.take k) ks) ++ [[AVal.nil]]) :: pOb (grpsK is (R.take k) ks)).length = 2 + ks.length := by
          rw [List.length_cons, List.length_cons, pOb_length, hgl]; omega
        rw [e5, pOb, pOb, List.map_append]
        rfl
    · conv => whnf
      refine recO hf ?_
      have hin2 : keyB is r ∈ ks := List.mem_of_getElem? hi1
      rw [if_pos hin2] at hky
      have hil := (List.getElem?_eq_some_iff.1 hi1).1
      have hgi : (grpsK is (R.take k) ks)[i]? = some ((R.take k).filter fun x => keyB is x == keyB is r) := by rw [grpsK, List.getElem?_map, hi1]; rfl
      have hgil : ((R.take k).filter fun x => keyB is x == keyB is r).length ≤ 4096 := by
        have := List.length_filter_le (fun x => keyB is x == keyB is r) (R.take k)
        rw [List.length_take] at this; omega
      have hG := grpsK_old hnd hx hi1
      generalize hg : ((R.take k).filter fun x => keyB is x == keyB is r) = g at *
      rw [Nat.zero_add]
      (conv => whnf); refine recT (by rw [hdC_length, hgl]; exact Nat.beq_refl _) ?_
      (conv => whnf); refine And.intro (by omega) ?_
      (conv => whnf); refine recT (by rw [hdC_length, hgl]; exact Nat.beq_refl _) ?_
      have hidx : (hdC 2 (grpsK is (R.take k) ks))[0 + ((i : Nat) : Int).toNat]? = some [AVal.sl (2 + i) g.length 0 g.length] := by
        rw [Nat.zero_add, Int.toNat_natCast]; exact hdC_at hgi
      (conv => whnf); refine recO (hidx) ?_
      have hob : (AObj.map (mpK 0 ks) :: AObj.arr 1 (hdC 2 (grpsK is (R.take k) ks)) :: pOb (grpsK is (R.take k) ks))[2 + i]? = some (.arr 1 (rwC g)) := by
        rw [Nat.add_comm]; exact pOb_at hgi
      (conv => whnf); refine recO (hob) ?_
      (conv => whnf); refine recT (by rw [rwC_length]; exact Nat.beq_refl _) ?_
      (conv => whnf); refine And.intro (⟨by show _ ≤ 1099511627776; simp; omega, roomB_le (by simp; omega), rfl, by rw [rwC_length]⟩) ?_
      have hset : (AObj.map (mpK 0 ks) :: AObj.arr 1 (hdC 2 (grpsK is (R.take k) ks)) :: pOb (grpsK is (R.take k) ks)).set (2 + i) (.arr 1 (rwC g ++ [[.list false 3 (vC r)]])) = AObj.map (mpK 0 ks) :: AObj.arr 1 (hdC 2 (grpsK is (R.take k) ks)) :: pOb ((grpsK is (R.take k) ks).set i (g ++ [r])) := by
        rw [pOb_set, rwC_append, Nat.add_comm]; rfl
      refine setO_to hset ?_
      (conv => whnf); refine recT (by rw [hdC_length, hgl]; exact Nat.beq_refl _) ?_
      (conv => whnf); refine And.intro (by omega) ?_
      (conv => whnf); refine recT (by rw [hdC_length, hgl]; exact Nat.beq_refl _) ?_
      (conv => whnf); refine recO (hidx) ?_
      conv => whnf
      refine ⟨m - 1, by omega, Gp.keep rfl ?_ fun ρ1 h => ⟨k + 1, by omega, ?_, h⟩⟩
      · exact ⟨rfl, rfl, rfl, by rw [hky]; rfl, rfl, rfl, intEq (wrapI _ (by omega) (by omega)), trivial⟩
      · rw [hky, hG, setEs_eq, hdC_set, Nat.zero_add, Int.toNat_natCast]
        show AObj.map _ :: AObj.arr 1 ((hdC 2 (grpsK is (R.take k) ks)).set i [AVal.sl (2 + i) (rwC g ++ [[AVal.list false 3 (vC r)]]).length 0 (rwC g ++ [[AVal.list false 3 (vC r)]]).length]) :: _ = _
        have e7 : (rwC g ++ [[AVal.list false 3 (vC r)]]).length = (g ++ [r]).length := by rw [List.length_append, rwC_length, List.length_append]; rfl
        rw [e7]
  · simp [rwC_length] at hlt
    obtain ⟨hnd, hin, hex⟩ := kyS_facts is R k
    rw [List.take_of_length_le hlt] at hnd hin hex ⊢
    have hksl := kyS_len is R
    have hgl : (grpsK is R (kyS is R)).length = (kyS is R).length := by rw [grpsK, List.length_map]
    have hgm : ∀ (i : Nat) (g : List (List V)), (grpsK is R (kyS is R))[i]? = some g → g ≠ [] ∧ g.length ≤ 4096 ∧ ∀ r ∈ g, r.length ≤ 1000 := by
      intro i g hg
      rw [grpsK, List.getElem?_map] at hg
      obtain ⟨key, hkey, rfl⟩ := Option.map_eq_some_iff.1 hg
      obtain ⟨x, hx1, hx2⟩ := hex key (List.mem_of_getElem? hkey)
      have := List.length_filter_le (fun x => keyB is x == key) R
      exact ⟨fun h => by have := List.filter_eq_nil_iff.1 h x hx1; simp [hx2] at this, by omega, fun r hr1 => (hr r (List.mem_filter.1 hr1).1).1⟩
    (conv => whnf); refine recT (by rw [hdC_length, hgl]; exact Nat.beq_refl _) ?_
    conv => whnf
    generalize hks : kyS is R = ks at *
    refine ⟨fun m ρ H1 => ∃ j : Nat, j + m = ks.length ∧ H1 = .map (mpK 0 ks) :: .arr 1 (hdC 2 (grpsK is R ks)) :: pOb (((grpsK is R ks).take j).map (srtO ord) ++ (grpsK is R ks).drop j) ∧
      Sv 65 [(5, .cptr [.list e3 1 (iC ord)] 0), (8, .sl 1 ks.length 0 ks.length), (54, .sl 1 ks.length 0 ks.length), (55, .int .i64 ks.length), (56, .int .i64 j)] ρ, ks.length, [], ?_, ?_⟩
    · exact ⟨0, by omega, by rw [List.take_zero, List.drop_zero]; rfl, Sv.intro rfl ⟨rfl, rfl, rfl, rfl, rfl, trivial⟩⟩
    rintro m' ρ H1 ⟨j, hj, rfl, d, rfl⟩
    (conv => whnf); refine recA (fun hlt2 => ?_) (fun hlt2 => ?_)
    · simp at hlt2
      obtain ⟨g, hg, hgd, _⟩ := get_drop (show j < (grpsK is R ks).length by omega)
      obtain ⟨hg0, hg1, hg2⟩ := hgm j g hg
      (conv => whnf); refine recT (by rw [hdC_length, hgl]; exact Nat.beq_refl _) ?_
      (conv => whnf); refine And.intro (by omega) ?_
      (conv => whnf); refine recT (by rw [hdC_length, hgl]; exact Nat.beq_refl _) ?_
      have hidx : (hdC 2 (grpsK is R ks))[0 + ((j : Nat) : Int).toNat]? = some [AVal.sl (2 + j) g.length 0 g.length] := by
        rw [Nat.zero_add, Int.toNat_natCast]; exact hdC_at hg
      (conv => whnf); refine recO (hidx) ?_
      have htl : (((grpsK is R ks).take j).map (srtO ord)).length = j := by rw [List.length_map, List.length_take]; omega
      have hgj : (((grpsK is R ks).take j).map (srtO ord) ++ (grpsK is R ks).drop j)[j]? = some g := by
        rw [List.getElem?_append_right (by omega), htl, Nat.sub_self, List.getElem?_drop, Nat.add_zero]; exact hg
      conv => whnf
      refine ACalls.retH (hS e3 ord g ho hg0 (by omega) hg2 _ (2 + j) ?_) ?_
      · rw [Nat.add_comm]; exact pOb_at hgj
      have hset : (AObj.map (mpK 0 ks) :: AObj.arr 1 (hdC 2 (grpsK is R ks)) :: pOb (((grpsK is R ks).take j).map (srtO ord) ++ (grpsK is R ks).drop j)).set (2 + j) (.arr 1 (rwC (srtO ord g))) =
          AObj.map (mpK 0 ks) :: AObj.arr 1 (hdC 2 (grpsK is R ks)) :: pOb (((grpsK is R ks).take (j + 1)).map (srtO ord) ++ (grpsK is R ks).drop (j + 1)) := by
        have e : ((grpsK is R ks).take (j + 1)).map (srtO ord) ++ (grpsK is R ks).drop (j + 1) = (((grpsK is R ks).take j).map (srtO ord) ++ (grpsK is R ks).drop j).set j (srtO ord g) := by
          rw [List.set_append_right _ _ (by omega), htl, Nat.sub_self, hgd, List.set_cons_zero, List.take_add_one, hg, List.map_append, List.append_assoc]; rfl
        rw [e, pOb_set, Nat.add_comm]; rfl
      rw [hset]
      conv => whnf
      refine ⟨m' - 1, by omega, Gp.keep rfl ?_ fun ρ1 h => ⟨j + 1, by omega, rfl, h⟩⟩
      exact ⟨rfl, rfl, rfl, rfl, intEq (wrapI _ (by omega) (by omega)), trivial⟩
    · simp at hlt2
      rw [List.take_of_length_le (by omega), List.drop_eq_nil_of_le (by omega), List.append_nil]
      have hpar : parL is ord R = (grpsK is R ks).map (srtO ord) := by rw [parL, hks]
      rw [← hpar]
      have hpl : (parL is ord R).length = ks.length := by rw [hpar, List.length_map, hgl]
      have hhd : hdC 2 (grpsK is R ks) = hdC 2 (parL is ord R) := by rw [hpar, hdC_srt]
      rw [hhd]
      conv => whnf
      refine Ghost.some (n := 65) (H1 := [.arr 1 (ppC (parL is ord R))]) (live := [(8, .sl 0 ks.length 0 ks.length)]) [1] (by simp) ⟨⟨_, rfl, obPar _ _⟩, trivial⟩ rfl ⟨.keep 1 _ _ _ 0 rfl, trivial⟩ ?_
      rintro ρ ⟨d, rfl⟩
      conv => whnf
      have hpf := pubF (H1 := [.arr 1 (ppC (parL is ord R))]) (n := 0) (id := 0) (ep := ks.length) (len := ks.length) rfl (by rw [ppC_length, hpl]) (by rw [ppC_length, hpl]) (pureEs_ppC _)
      exact hpf

end Go.AW

namespace Go.AW
variable [Draws]
attribute [local irreducible] ACalls
structure Itm where
  nm : ByteArray
  f : Int
  cl : ByteArray
  n : Int
  ex : Bool
  z : Nat
  es : List (List AVal)

def itmC (x : Itm) : List AVal := [.str x.nm, .int .i64 x.f, .str x.cl, .int .i64 x.n, .list x.ex x.z x.es]

def imC (l : List Itm) : List (List AVal) := l.map itmC

theorem imC_length (l : List Itm) : (imC l).length = l.length := by simp [imC]

theorem imC_at {l : List Itm} {k : Nat} {x : Itm} (h : l[k]? = some x) : (imC l)[k]? = some (itmC x) := by simp [imC, h]

theorem itmC_cell (x : Itm) : ((itmC x).all AVal.isCell) = true := rfl

def bdB (k : Int) (r : List V) : Bool := !((celV r k).kind == 0) && !((celV r k).kind == 2)

def itemE (x : Itm) (k : Int) (R : List (List V)) : Int :=
  if winB x.f = false then 8 else if (x.f = 10 ∨ x.f = 11) ∧ (x.n < 1 ∨ 4096 < x.n) then 1 else if x.f = 3 ∧ R.any (bdB k) = true then 7 else 0

def itemsE (R : List (List V)) : List Itm → List Int → Int
  | x :: xs, k :: ks => if itemE x k R ≠ 0 then itemE x k R else itemsE R xs ks
  | _, _ => 0

def chkE (its : List Itm) (asv : List Int) (R : List (List V)) : Int := if its.length ≠ asv.length then 8 else itemsE R its asv

theorem winB_iff (f : Int) : winB f = true ↔ f = 1 ∨ f = 3 ∨ (8 ≤ f ∧ f ≤ 13) := by simp [winB, or_assoc]

theorem any_take {α : Type} {p : α → Bool} {R : List α} {j : Nat} {r : α} (h : R[j]? = some r) (h1 : (R.take j).any p = false) (h2 : p r = false) : (R.take (j + 1)).any p = false := by
  rw [List.take_add_one, h, List.any_append, h1]; simp [h2]

end Go.AW

namespace Go.AW
variable [Draws]
attribute [local irreducible] ACalls
theorem itemsE_drop {R : List (List V)} {its : List Itm} {asv : List Int} {k : Nat} {x : Itm} {a : Int} (h1 : its.drop k = x :: its.drop (k + 1)) (h2 : asv.drop k = a :: asv.drop (k + 1)) :
    itemsE R (its.drop k) (asv.drop k) = if itemE x a R ≠ 0 then itemE x a R else itemsE R (its.drop (k + 1)) (asv.drop (k + 1)) := by rw [h1, h2, itemsE]

set_option maxRecDepth 20000 in
theorem window_check_spec {P : Program} (F : F_window_check P) (e1 e2 e3 : Bool) (its : List Itm) (asv : List Int) (R : List (List V)) (hI : its.length ≤ 1000000) (hA : asv.length ≤ 1000000) (hR : R.length ≤ 1000000) (hr : ∀ r ∈ R, r.length ≤ 1000000) (H : List AObj) :
    ACalls P F.id [.list e1 5 (imC its), .list e2 1 (iC asv), .list e3 1 (rwC R)] H (fun r H' => r = .int .i64 (chkE its asv R) ∧ H' = H) := by
  refine ACalls.pure (by simp [AVal.closed, AVal.isPure]) (acalls_of_body F.has ?_)
  (conv => whnf); refine recA (fun hn => ?_) (fun hn => ?_)
  · simp [imC_length, iC_length] at hn
    conv => whnf
    exact pubI (by rw [chkE, if_pos (by omega)])
  simp [imC_length, iC_length] at hn
  have hlen : its.length = asv.length := by omega
  conv => whnf
  refine ⟨fun m ρ H1 => ∃ k : Nat, k + m = its.length ∧ chkE its asv R = itemsE R (its.drop k) (asv.drop k) ∧ H1 = [] ∧ Sv 86 [(1, .list e2 1 (iC asv)), (2, .list e3 1 (rwC R)), (17, .list e1 5 (imC its)), (18, .int .i64 its.length), (19, .int .i64 k)] ρ, its.length, [], ?_, ?_⟩
  · exact ⟨0, by omega, by rw [chkE, if_neg (by omega)]; rfl, rfl, Sv.intro rfl ⟨rfl, rfl, rfl, intEq (by rw [imC_length]), rfl, trivial⟩⟩
  rintro m ρ H1 ⟨k, hk, hg, rfl, d, rfl⟩
  (conv => whnf); refine recA (fun hlt => ?_) (fun hlt => ?_)
  · simp at hlt
    obtain ⟨x, hx, hxd, hxm⟩ := get_drop hlt
    obtain ⟨a, ha, had, _⟩ := get_drop (show k < asv.length by omega)
    have hgo := itemsE_drop (R := R) hxd had
    rw [← hg] at hgo
    (conv => whnf); refine And.intro (by omega) ?_
    (conv => whnf); refine recO (imC_at hx) ?_
    by_cases hw : winB x.f = false
    · have hE : chkE its asv R = 8 := by rw [hgo, if_pos (by rw [itemE, if_pos hw]; decide), itemE, if_pos hw]
      have hw2 : ¬ (x.f = 1 ∨ x.f = 3 ∨ (8 ≤ x.f ∧ x.f ≤ 13)) := fun h => by rw [(winB_iff _).2 h] at hw; cases hw
      by_cases h8 : x.f < 8
      · repeat ((conv => whnf); first | refine And.intro (by omega) ?_ | refine recT (by first | rfl | (simp; done) | (simp; omega)) ?_ | refine recF (by first | rfl | (simp; done) | (simp; omega)) ?_)
        conv => whnf
        exact pubI hE.symm
      · repeat ((conv => whnf); first | refine And.intro (by omega) ?_ | refine recT (by first | rfl | (simp; done) | (simp; omega)) ?_ | refine recF (by first | rfl | (simp; done) | (simp; omega)) ?_)
        conv => whnf
        exact pubI hE.symm
    have hw2 := (winB_iff _).1 (by simpa using hw)
    by_cases h2 : (x.f = 10 ∨ x.f = 11) ∧ (x.n < 1 ∨ 4096 < x.n)
    · have hE : chkE its asv R = 1 := by rw [hgo, itemE, if_neg hw, if_pos h2]; rfl
      rcases h2 with ⟨h3 | h3, h4 | h4⟩
      all_goals
        repeat ((conv => whnf); first | refine And.intro (by omega) ?_ | refine recT (by first | rfl | (simp; done) | (simp; omega)) ?_ | refine recF (by first | rfl | (simp; done) | (simp; omega)) ?_)
        (conv => whnf)
        exact pubI hE.symm
    have hz : itemE x a R = if x.f = 3 ∧ R.any (bdB a) = true then 7 else 0 := by rw [itemE, if_neg hw, if_neg h2]
    have hw3 : x.f = 3 ∨ (x.f ≠ 3 ∧ x.f ≠ 10 ∧ x.f ≠ 11) ∨ (x.f = 10 ∧ 1 ≤ x.n ∧ x.n ≤ 4096) ∨ (x.f = 11 ∧ 1 ≤ x.n ∧ x.n ≤ 4096) := by omega
    by_cases hn3 : x.f ≠ 3
    · have hE0 : itemE x a R = 0 := by rw [hz, if_neg (by simp [hn3])]
      replace hgo : itemsE R (its.drop (k + 1)) (asv.drop (k + 1)) = chkE its asv R := by rw [hgo, if_neg (by simp [hE0])]
      rcases hw3 with h3 | h3 | h3 | h3
      · exact absurd h3 hn3
      · by_cases h1 : x.f = 1
        · repeat ((conv => whnf); first | refine And.intro (by omega) ?_ | refine recT (by first | rfl | (simp; done) | (simp; omega)) ?_ | refine recF (by first | rfl | (simp; done) | (simp; omega)) ?_)
          conv => whnf
          refine ⟨m - 1, by omega, Gp.none rfl ?_ fun ρ1 h => ⟨k + 1, by omega, by rw [← hgo], rfl, h⟩⟩
          exact ⟨clL .., clL .., clL .., .closed _ rfl, pub_int (wrapI _ (by omega) (by omega)), trivial⟩
        · repeat ((conv => whnf); first | refine And.intro (by omega) ?_ | refine recT (by first | rfl | (simp; done) | (simp; omega)) ?_ | refine recF (by first | rfl | (simp; done) | (simp; omega)) ?_)
          conv => whnf
          refine ⟨m - 1, by omega, Gp.none rfl ?_ fun ρ1 h => ⟨k + 1, by omega, by rw [← hgo], rfl, h⟩⟩
          exact ⟨clL .., clL .., clL .., .closed _ rfl, pub_int (wrapI _ (by omega) (by omega)), trivial⟩
      all_goals
        repeat ((conv => whnf); first | refine And.intro (by omega) ?_ | refine recT (by first | rfl | (simp; done) | (simp; omega)) ?_ | refine recF (by first | rfl | (simp; done) | (simp; omega)) ?_)
        (conv => whnf)
        refine ⟨m - 1, by omega, Gp.none rfl ?_ fun ρ1 h => ⟨k + 1, by omega, by rw [← hgo], rfl, h⟩⟩
        exact ⟨clL .., clL .., clL .., .closed _ rfl, pub_int (wrapI _ (by omega) (by omega)), trivial⟩
    · have h3 : x.f = 3 := by omega
      clear hw hw2 hw3 hn3 h2
      repeat ((conv => whnf); first | refine And.intro (by omega) ?_ | refine recT (by first | rfl | (simp; done) | (simp; omega)) ?_ | refine recF (by first | rfl | (simp; done) | (simp; omega)) ?_)
      conv => whnf
      refine ⟨fun m ρ H1 => ∃ j : Nat, j + m = R.length ∧ (R.take j).any (bdB a) = false ∧ Sv 86 [(1, .list e2 1 (iC asv)), (2, .list e3 1 (rwC R)), (7, .int .i64 k), (17, .list e1 5 (imC its)), (18, .int .i64 its.length), (19, .int .i64 k), (65, .list e3 1 (rwC R)), (66, .int .i64 R.length), (67, .int .i64 j)] ρ, R.length, [], ?_, ?_⟩
      · exact ⟨0, by omega, rfl, Sv.intro rfl ⟨rfl, rfl, rfl, rfl, rfl, rfl, rfl, intEq (by rw [rwC_length]), rfl, trivial⟩⟩
      rintro m' ρ H1 ⟨j, hj, hany, d, rfl⟩
      (conv => whnf); refine recA (fun hlt2 => ?_) (fun hlt2 => ?_)
      · simp at hlt2
        obtain ⟨r, hr1, _, hrm⟩ := get_drop hlt2
        (conv => whnf); refine And.intro (by omega) ?_
        (conv => whnf); refine recO (rwC_at hr1) ?_
        (conv => whnf); refine And.intro (by omega) ?_
        (conv => whnf); refine recO (iC_at ha) ?_
        (conv => whnf); refine ACalls.use (window_cell_spec F.window_cell false r a (hr r hrm) _) ?_
        (conv => whnf); refine recA (fun h0 => ?_) (fun h0 => ?_)
        · replace h0 : (!((celV r a).kind == 0)) = true := h0
          (conv => whnf); refine recA (fun h1 => ?_) (fun h1 => ?_)
          · replace h1 : (!((celV r a).kind == 2)) = true := h1
            conv => whnf
            have hE : itemE x a R = 7 := by rw [hz, if_pos ⟨h3, List.any_eq_true.2 ⟨r, hrm, by rw [bdB, h0, h1]; rfl⟩⟩]
            exact pubI (by rw [hgo, hE]; rfl)
          · replace h1 : (!((celV r a).kind == 2)) = false := h1
            conv => whnf
            refine ⟨m' - 1, by omega, Gp.keep rfl ?_ fun ρ1 h => ⟨j + 1, by omega, any_take hr1 hany (by rw [bdB, h0, h1]; rfl), h⟩⟩
            exact ⟨rfl, rfl, rfl, rfl, rfl, rfl, rfl, rfl, intEq (wrapI _ (by omega) (by omega)), trivial⟩
        · replace h0 : (!((celV r a).kind == 0)) = false := h0
          conv => whnf
          refine ⟨m' - 1, by omega, Gp.keep rfl ?_ fun ρ1 h => ⟨j + 1, by omega, any_take hr1 hany (by rw [bdB, h0]; rfl), h⟩⟩
          exact ⟨rfl, rfl, rfl, rfl, rfl, rfl, rfl, rfl, intEq (wrapI _ (by omega) (by omega)), trivial⟩
      · simp at hlt2
        rw [List.take_of_length_le hlt2] at hany
        have hE0 : itemE x a R = 0 := by rw [hz, if_neg (by simp [hany])]
        replace hgo : itemsE R (its.drop (k + 1)) (asv.drop (k + 1)) = chkE its asv R := by rw [hgo, if_neg (by simp [hE0])]
        conv => whnf
        refine ⟨m - 1, by omega, Gp.none rfl ?_ fun ρ1 h => ⟨k + 1, by omega, by rw [← hgo], rfl, h⟩⟩
        exact ⟨clL .., clL .., clL .., .closed _ rfl, pub_int (wrapI _ (by omega) (by omega)), trivial⟩
  · simp at hlt
    conv => whnf
    rw [List.drop_eq_nil_of_le hlt] at hg
    exact pubI (by rw [hg]; rfl)

end Go.AW

namespace Go.AW
variable [Draws]
attribute [local irreducible] ACalls
def atW (l : List (List V)) (p a : Int) : V := if 0 ≤ p ∧ p < (l.length : Int) then celV (l.getD p.toNat []) a else zV

def numW (a : Int) (r : List V) : Int := if (celV r a).kind = 0 then 0 else (celV r a).num

def sumA (a : Int) (l : List (List V)) : Int := (l.map (numW a)).sum

def someA (a : Int) (l : List (List V)) : Bool := l.any fun r => !((celV r a).kind == 0)

def rkQ (ord : List Int) (l : List (List V)) : Nat → Int
  | 0 => 1
  | 1 => 1
  | k + 2 => if cmpK ord (l.getD k []) (l.getD (k + 1) []) ≠ 0 then (k : Int) + 2 else rkQ ord l (k + 1)

def winV (x : Itm) (l : List (List V)) (ord : List Int) (a : Int) (p : Nat) : V :=
  if x.f = 1 then numV l.length else if x.f = 8 then numV ((p : Int) + 1) else if x.f = 9 then numV (rkQ ord l (p + 1)) else
  if x.f = 3 then (if someA a (l.take (p + 1)) then numV (sumA a (l.take (p + 1))) else zV) else
  if x.f = 10 then atW l ((p : Int) - x.n) a else if x.f = 11 then atW l ((p : Int) + x.n) a else
  if x.f = 12 then atW l 0 a else if x.f = 13 then atW l ((l.length : Int) - 1) a else zV

def colW (x : Itm) (l : List (List V)) (ord : List Int) (a : Int) : List V := (List.range l.length).map (winV x l ord a)

theorem colW_length (x : Itm) (l : List (List V)) (ord : List Int) (a : Int) : (colW x l ord a).length = l.length := by simp [colW]

theorem colW_get (x : Itm) {l : List (List V)} (ord : List Int) (a : Int) {k : Nat} (h : k < l.length) : (colW x l ord a)[k]? = some (winV x l ord a k) := by
  rw [colW, List.getElem?_map, List.getElem?_range h]; rfl

theorem zV_valid : validB zV = true := by decide

theorem celV_valid {r : List V} (h : r.all validB = true) (a : Int) : validB (celV r a) = true := by
  have := pick_valid h [a]
  rw [pick1] at this
  simpa using this

theorem valid_num {v : V} (h : validB v = true) : -1073741824 ≤ v.num ∧ v.num ≤ 1073741824 := by
  unfold validB at h
  split at h
  · simp at h; omega
  · split at h
    · simp at h; omega
    · split at h
      · simp at h; omega
      · split at h
        · simp at h; omega
        · split at h
          · simp at h; omega
          · cases h

theorem sumA_snoc (a : Int) (l : List (List V)) (r : List V) : sumA a (l ++ [r]) = sumA a l + numW a r := by simp [sumA]

theorem sumA_bnd (a : Int) : ∀ (l : List (List V)), (∀ r ∈ l, r.all validB = true) → -(1073741824 * (l.length : Int)) ≤ sumA a l ∧ sumA a l ≤ 1073741824 * (l.length : Int)
  | [], _ => by simp [sumA]
  | r :: l, h => by
    obtain ⟨h1, h2⟩ := sumA_bnd a l fun x hx => h x (List.mem_cons_of_mem _ hx)
    have h3 := valid_num (celV_valid (h r (List.mem_cons_self ..)) a)
    have e : sumA a (r :: l) = numW a r + sumA a l := by simp [sumA]
    have h4 : -1073741824 ≤ numW a r ∧ numW a r ≤ 1073741824 := by unfold numW; split <;> omega
    rw [e, List.length_cons]; omega

set_option maxRecDepth 20000 in
theorem column_1_spec {P : Program} (F : F_window_column_1 P) (ex : Bool) (l : List (List V)) (p a : Int) (hl : l.length ≤ 1000000) (hr : ∀ r ∈ l, r.length ≤ 1000000) (H : List AObj) :
    ACalls P F.id [.int .i64 p, .cptr [.int .i64 l.length] 0, .cptr [.list ex 1 (rwC l)] 0, .cptr [.int .i64 a] 0] H (fun r H' => r = .agg (valC (atW l p a)) ∧ H' = H) := by
  refine ACalls.pure (by simp [AVal.closed, AVal.isPure]) (acalls_of_body F.has ?_)
  (conv => whnf); refine recA (fun h0 => ?_) (fun h0 => ?_)
  · simp at h0
    conv => whnf
    exact pubEq (by rw [atW, if_neg (by omega)]; rfl) rfl
  simp at h0
  (conv => whnf); refine recA (fun h1 => ?_) (fun h1 => ?_)
  · simp at h1
    conv => whnf
    exact pubEq (by rw [atW, if_neg (by omega)]; rfl) rfl
  simp at h1
  obtain ⟨r, hr1, _, hrm⟩ := get_drop (show p.toNat < l.length by omega)
  (conv => whnf); refine And.intro (by omega) ?_
  (conv => whnf); refine recO (rwC_at hr1) ?_
  (conv => whnf); refine ⟨_, window_cell_spec F.window_cell false r a (hr r hrm) _, ?_⟩
  conv => whnf
  exact pubEq (by rw [atW, if_pos (by omega), List.getD_eq_getElem?_getD, hr1]; rfl) rfl

theorem pubFn {H1 : List AObj} {n : Nat} {ids : List Nat} {f : FuncId} {cs : List AVal} (h : cs.all AVal.isPure = true) : Pub H1 n ids (.fn f cs) (.fn f cs) :=
  .fnc f cs cs rfl fun i v r h1 h2 => by
    rw [h1] at h2; cases h2
    have := List.all_eq_true.1 h v (List.mem_of_getElem? h1)
    refine .closed _ ?_
    cases v <;> first | rfl | exact this | (simp [AVal.isPure] at this)

def rkV (f : Int) (ord : List Int) (l : List (List V)) (k : Nat) : Int := if f = 9 then rkQ ord l k else 1

def smV (f a : Int) (l : List (List V)) (k : Nat) : Int := if f = 3 then sumA a (l.take k) else 0

def soV (f a : Int) (l : List (List V)) (k : Nat) : Bool := if f = 3 then someA a (l.take k) else false

theorem rkQ_bnd (ord : List Int) (l : List (List V)) : ∀ k, 1 ≤ rkQ ord l k ∧ rkQ ord l k ≤ (k : Int) + 1
  | 0 => by simp [rkQ]
  | 1 => by simp [rkQ]
  | k + 2 => by
    have := rkQ_bnd ord l (k + 1)
    rw [rkQ]
    split <;> omega

set_option maxRecDepth 20000 in
theorem column_spec {P : Program} (F : F_window_column P) (e1 e2 : Bool) (x : Itm) (l : List (List V)) (ord : List Int) (a : Int) (hl : l.length ≤ 4096) (hr : ∀ r ∈ l, r.length ≤ 1000 ∧ r.all validB = true) (ho : ord.length ≤ 1000000)
    (hn : (x.f = 10 ∨ x.f = 11) → 1 ≤ x.n ∧ x.n ≤ 4096) (H : List AObj) :
    ACalls P F.id [.agg (itmC x), .list e1 1 (rwC l), .list e2 1 (iC ord), .int .i64 a] H (fun r H' => r = .list false 3 (vC (colW x l ord a)) ∧ H' = H) := by
  refine ACalls.pure rfl (acalls_of_body F.has ?_)
  have hrl : ∀ r ∈ l, r.length ≤ 1000000 := fun r h => by have := (hr r h).1; omega
  conv => whnf
  refine Ghost.none (n := 130) (live := [(2, .list e2 1 (iC ord)), (4, .cptr (itmC x) 0), (5, .cptr [.list e1 1 (rwC l)] 0), (7, .cptr [.int .i64 a] 0), (8, .nil), (9, .cptr [.int .i64 l.length] 0)]) rfl ⟨clL .., .frzP 0 1 0 0 5 [itmC x] _ rfl rfl rfl rfl (by simp), .frzP 1 1 0 0 1 [[.list e1 1 (rwC l)]] _ rfl rfl rfl rfl (by simp), .frzP 2 1 0 0 1 [[.int .i64 a]] _ rfl rfl rfl rfl (by simp), .closed _ rfl, ?_, trivial⟩ ?_
  · have := Pub.frzP (H1 := [.arr 5 [itmC x], .arr 1 [[.list e1 1 (rwC l)]], .arr 1 [[.int .i64 a]], .arr 1 [[.int .i64 l.length]]]) (n := 0) (ids := []) 3 1 0 0 1 [[.int .i64 l.length]] _ rfl rfl rfl rfl (by simp)
    rw [← rwC_length l] at this ⊢
    exact this
  rintro ρ ⟨d, rfl⟩
  (conv => whnf); refine And.intro (⟨by omega, by omega, by show (l.length : Int) * 32 ≤ 1099511627776; omega, by show (l.length : Int) ≤ 1099511627776; omega⟩) ?_
  conv => whnf
  have hWl := colW_length x l ord a
  refine ⟨fun m ρ H1 => ∃ k : Nat, k + m = l.length ∧ H1 = [.arr 3 (vC (fillUp (colW x l ord a) zV k))] ∧ Sv 130 [(2, .list e2 1 (iC ord)), (4, .cptr (itmC x) 0), (5, .cptr [.list e1 1 (rwC l)] 0), (9, .cptr [.int .i64 l.length] 0),
    (10, .fn F.window_column_1.id [.cptr [.int .i64 l.length] 0, .cptr [.list e1 1 (rwC l)] 0, .cptr [.int .i64 a] 0]), (11, .sl 0 l.length 0 l.length), (12, .int .i64 (rkV x.f ord l k)), (13, .int .i64 (smV x.f a l k)), (14, .bool (soV x.f a l k)), (23, .int .i64 l.length), (24, .int .i64 k)] ρ, l.length, [], ?_, ?_⟩
  · refine ⟨0, by omega, ?_, Sv.intro rfl ⟨rfl, rfl, rfl, rfl, rfl, slEq ?_ ?_, ?_, ?_, ?_, intEq (by rw [rwC_length]), rfl, trivial⟩⟩
    · rw [fillUp_zero, colW_length]
      simp [vC]; exact .inr rfl
    · simp
    · simp
    · exact intEq (by unfold rkV; split <;> rfl)
    · exact intEq (by unfold smV; split <;> rfl)
    · show AVal.bool false = AVal.bool _
      congr 1; unfold soV; split <;> rfl
  rintro m ρ H1 ⟨k, hk, rfl, d, rfl⟩
  (conv => whnf); refine recA (fun hlt => ?_) (fun hlt => ?_)
  · simp at hlt
    have hw := colW_get x ord a hlt
    have hidx : (vC (fillUp (colW x l ord a) zV k))[0 + (k : Int).toNat]? = some (valC zV) := by
      rw [Nat.zero_add, Int.toNat_natCast]
      exact vC_at (fillUp_get _ _ _ (by rw [hWl]; omega))
    by_cases f1 : x.f = 1
    · have hv : winV x l ord a k = numV l.length := by rw [winV, if_pos f1]
      repeat ((conv => whnf); first | refine And.intro (by omega) ?_ | refine recT (by first | rfl | (simp; done) | (simp; omega)) ?_ | refine recF (by first | rfl | (simp; done) | (simp; omega)) ?_)
      (conv => whnf); refine ACalls.use (window_integer_spec F.window_integer l.length _) ?_
      (conv => whnf); refine recT (by rw [vC_length, fillUp_length _ _ _ (by rw [hWl]; omega), hWl]; exact Nat.beq_refl _) ?_
      (conv => whnf); refine And.intro (⟨by omega, by omega⟩) ?_
      (conv => whnf); refine recT (by rw [vC_length, fillUp_length _ _ _ (by rw [hWl]; omega), hWl]; exact Nat.beq_refl _) ?_
      (conv => whnf); refine recO (hidx) ?_
      conv => whnf
      refine ⟨m - 1, by omega, Gp.keep rfl ?_ fun ρ1 h => ⟨k + 1, by omega, ?_, h⟩⟩
      · exact ⟨rfl, rfl, rfl, rfl, rfl, rfl, intEq (by simp [rkV, f1]), intEq (by simp [smV, f1]), congrArg AVal.bool (by simp [soV, f1]), rfl, intEq (wrapI _ (by omega) (by omega)), trivial⟩
      · rw [← fillUp_set _ _ _ _ hw, ← setEs_vC, hv, Nat.zero_add, Int.toNat_natCast]; rfl
    by_cases f8 : x.f = 8
    · have hv : winV x l ord a k = numV ((k : Int) + 1) := by simp [winV, f8]
      repeat ((conv => whnf); first | refine And.intro (by omega) ?_ | refine recT (by first | rfl | (simp; done) | (simp; omega)) ?_ | refine recF (by first | rfl | (simp; done) | (simp; omega)) ?_)
      (conv => whnf); refine ACalls.use (window_integer_spec F.window_integer _ _) ?_
      rw [wrapI ((k : Int) + 1) (by omega) (by omega)]
      (conv => whnf); refine recT (by rw [vC_length, fillUp_length _ _ _ (by rw [hWl]; omega), hWl]; exact Nat.beq_refl _) ?_
      (conv => whnf); refine And.intro (⟨by omega, by omega⟩) ?_
      (conv => whnf); refine recT (by rw [vC_length, fillUp_length _ _ _ (by rw [hWl]; omega), hWl]; exact Nat.beq_refl _) ?_
      (conv => whnf); refine recO (hidx) ?_
      conv => whnf
      refine ⟨m - 1, by omega, Gp.keep rfl ?_ fun ρ1 h => ⟨k + 1, by omega, ?_, h⟩⟩
      · exact ⟨rfl, rfl, rfl, rfl, rfl, rfl, intEq (by simp [rkV, f8]), intEq (by simp [smV, f8]), congrArg AVal.bool (by simp [soV, f8]), rfl, intEq (wrapI _ (by omega) (by omega)), trivial⟩
      · rw [← fillUp_set _ _ _ _ hw, ← setEs_vC, hv, Nat.zero_add, Int.toNat_natCast]; rfl
    obtain ⟨r, hr1, _, hrm⟩ := get_drop hlt
    by_cases f9 : x.f = 9
    · have hv : winV x l ord a k = numV (rkQ ord l (k + 1)) := by simp [winV, f9]
      have hb := rkQ_bnd ord l (k + 1)
      have er : rkV x.f ord l k = rkQ ord l k := by simp [rkV, f9]
      rw [er]
      by_cases hk0 : k = 0
      · have eq1 : rkQ ord l k = 1 := by rw [hk0]; rfl
        have eq2 : rkQ ord l (k + 1) = 1 := by rw [hk0]; rfl
        rw [eq1]
        rw [eq2] at hv
        repeat ((conv => whnf); first | refine And.intro (by omega) ?_ | refine recT (by first | rfl | (simp; done) | (simp; omega)) ?_ | refine recF (by first | rfl | (simp; done) | (simp; omega)) ?_)
        (conv => whnf); refine ACalls.use (window_integer_spec F.window_integer _ _) ?_
        (conv => whnf); refine recT (by rw [vC_length, fillUp_length _ _ _ (by rw [hWl]; omega), hWl]; exact Nat.beq_refl _) ?_
        (conv => whnf); refine And.intro (⟨by omega, by omega⟩) ?_
        (conv => whnf); refine recT (by rw [vC_length, fillUp_length _ _ _ (by rw [hWl]; omega), hWl]; exact Nat.beq_refl _) ?_
        (conv => whnf); refine recO (hidx) ?_
        conv => whnf
        refine ⟨m - 1, by omega, Gp.keep rfl ?_ fun ρ1 h => ⟨k + 1, by omega, ?_, h⟩⟩
        · exact ⟨rfl, rfl, rfl, rfl, rfl, rfl, intEq (by rw [rkV, if_pos f9, eq2]), intEq (by simp [smV, f9]), congrArg AVal.bool (by simp [soV, f9]), rfl, intEq (wrapI _ (by omega) (by omega)), trivial⟩
        · rw [← fillUp_set _ _ _ _ hw, ← setEs_vC, hv, Nat.zero_add, Int.toNat_natCast]; rfl
      · obtain ⟨j, hj⟩ : ∃ j, k = j + 1 := ⟨k - 1, by omega⟩
        obtain ⟨r0, hr0, _, hr0m⟩ := get_drop (show j < l.length by omega)
        have ew : IntKind.i64.wrap ((k : Int) - 1) = j := by rw [wrapI _ (by omega) (by omega)]; omega
        have eq2 : rkQ ord l (k + 1) = if cmpK ord r0 r ≠ 0 then (k : Int) + 1 else rkQ ord l k := by
          rw [hj] at hr1 ⊢
          rw [rkQ, List.getD_eq_getElem?_getD, List.getD_eq_getElem?_getD, hr0, hr1]
          show (if cmpK ord r0 r ≠ 0 then _ else _) = _
          split <;> omega
        repeat ((conv => whnf); first | refine And.intro (by omega) ?_ | refine recT (by first | rfl | (simp; done) | (simp; omega)) ?_ | refine recF (by first | rfl | (simp; done) | (simp; omega)) ?_)
        rw [ew]
        (conv => whnf); refine recO (rwC_at hr0) ?_
        (conv => whnf); refine ⟨_, schema_Pick_spec F.schema_Pick false e2 r0 ord (hrl r0 hr0m) (by omega) _, ?_⟩
        (conv => whnf); refine And.intro (by omega) ?_
        (conv => whnf); refine recO (rwC_at hr1) ?_
        (conv => whnf); refine ⟨_, schema_Pick_spec F.schema_Pick false e2 r ord (hrl r hrm) (by omega) _, ?_⟩
        (conv => whnf); refine ⟨_, value_CompareRows_spec F.value_CompareRows false false (pickL zV r0 ord) (pickL zV r ord) (by rw [pickL_length]; omega) _, ?_⟩
        (conv => whnf); refine recA (fun hc => ?_) (fun hc => ?_)
        · replace hc : (!(cmpK ord r0 r == 0)) = true := hc
          simp at hc
          rw [if_pos hc] at eq2
          rw [eq2] at hv
          (conv => whnf); refine ACalls.use (window_integer_spec F.window_integer _ _) ?_
          rw [wrapI ((k : Int) + 1) (by omega) (by omega)]
          (conv => whnf); refine recT (by rw [vC_length, fillUp_length _ _ _ (by rw [hWl]; omega), hWl]; exact Nat.beq_refl _) ?_
          (conv => whnf); refine And.intro (⟨by omega, by omega⟩) ?_
          (conv => whnf); refine recT (by rw [vC_length, fillUp_length _ _ _ (by rw [hWl]; omega), hWl]; exact Nat.beq_refl _) ?_
          (conv => whnf); refine recO (hidx) ?_
          conv => whnf
          refine ⟨m - 1, by omega, Gp.keep rfl ?_ fun ρ1 h => ⟨k + 1, by omega, ?_, h⟩⟩
          · exact ⟨rfl, rfl, rfl, rfl, rfl, rfl, intEq (by rw [rkV, if_pos f9, eq2]), intEq (by simp [smV, f9]), congrArg AVal.bool (by simp [soV, f9]), rfl, intEq (wrapI _ (by omega) (by omega)), trivial⟩
          · rw [← fillUp_set _ _ _ _ hw, ← setEs_vC, hv, Nat.zero_add, Int.toNat_natCast]; rfl
        · replace hc : (!(cmpK ord r0 r == 0)) = false := hc
          simp at hc
          rw [if_neg (by simp [hc])] at eq2
          rw [eq2] at hv
          (conv => whnf); refine ACalls.use (window_integer_spec F.window_integer _ _) ?_
          (conv => whnf); refine recT (by rw [vC_length, fillUp_length _ _ _ (by rw [hWl]; omega), hWl]; exact Nat.beq_refl _) ?_
          (conv => whnf); refine And.intro (⟨by omega, by omega⟩) ?_
          (conv => whnf); refine recT (by rw [vC_length, fillUp_length _ _ _ (by rw [hWl]; omega), hWl]; exact Nat.beq_refl _) ?_
          (conv => whnf); refine recO (hidx) ?_
          conv => whnf
          refine ⟨m - 1, by omega, Gp.keep rfl ?_ fun ρ1 h => ⟨k + 1, by omega, ?_, h⟩⟩
          · exact ⟨rfl, rfl, rfl, rfl, rfl, rfl, intEq (by rw [rkV, if_pos f9, eq2]), intEq (by simp [smV, f9]), congrArg AVal.bool (by simp [soV, f9]), rfl, intEq (wrapI _ (by omega) (by omega)), trivial⟩
          · rw [← fillUp_set _ _ _ _ hw, ← setEs_vC, hv, Nat.zero_add, Int.toNat_natCast]; rfl
    have sp := fun p H => column_1_spec F.window_column_1 e1 l p a (by omega) hrl H
    by_cases f3 : x.f = 3
    · have hT : l.take (k + 1) = l.take k ++ [r] := by rw [List.take_add_one, hr1]; rfl
      have hat : atW l k a = celV r a := by rw [atW, if_pos (by omega), Int.toNat_natCast, List.getD_eq_getElem?_getD, hr1]; rfl
      have hv : winV x l ord a k = if someA a (l.take (k + 1)) then numV (sumA a (l.take (k + 1))) else zV := by simp [winV, f3]
      have e1 : smV x.f a l k = sumA a (l.take k) := by rw [smV, if_pos f3]
      have e2 : soV x.f a l k = someA a (l.take k) := by rw [soV, if_pos f3]
      have hb := sumA_bnd a (l.take k) fun r h => (hr r (List.mem_of_mem_take h)).2
      have hnb := valid_num (celV_valid (hr r hrm).2 a)
      rw [List.length_take] at hb
      rw [e1, e2]
      repeat ((conv => whnf); first | refine And.intro (by omega) ?_ | refine recT (by first | rfl | (simp; done) | (simp; omega)) ?_ | refine recF (by first | rfl | (simp; done) | (simp; omega)) ?_)
      (conv => whnf); refine ACalls.use (sp _ _) ?_
      rw [hat]
      have hsome : someA a (l.take (k + 1)) = (someA a (l.take k) || !((celV r a).kind == 0)) := by rw [hT, someA, List.any_append]; simp [someA]
      have hsum : sumA a (l.take (k + 1)) = sumA a (l.take k) + numW a r := by rw [hT, sumA_snoc]
      (conv => whnf); refine recA (fun h0 => ?_) (fun h0 => ?_)
      · replace h0 : (!((celV r a).kind == 0)) = true := h0
        rw [h0, Bool.or_true] at hsome
        have hk0 : (celV r a).kind ≠ 0 := by simpa using h0
        rw [numW, if_neg hk0] at hsum
        have ew : IntKind.i64.wrap (sumA a (l.take k) + (celV r a).num) = sumA a (l.take (k + 1)) := by rw [wrapI _ (by omega) (by omega), hsum]
        rw [hsome, if_pos rfl] at hv
        (conv => whnf); refine ACalls.use (window_integer_spec F.window_integer _ _) ?_
        rw [ew]
        (conv => whnf); refine recT (by rw [vC_length, fillUp_length _ _ _ (by rw [hWl]; omega), hWl]; exact Nat.beq_refl _) ?_
        (conv => whnf); refine And.intro (⟨by omega, by omega⟩) ?_
        (conv => whnf); refine recT (by rw [vC_length, fillUp_length _ _ _ (by rw [hWl]; omega), hWl]; exact Nat.beq_refl _) ?_
        (conv => whnf); refine recO (hidx) ?_
        conv => whnf
        refine ⟨m - 1, by omega, Gp.one 0 3 (vC (fillUp (colW x l ord a) zV (k + 1))) ?_ (pureEs_vC _) rfl ?_ fun ρ1 h => ⟨k + 1, by omega, rfl, h⟩⟩
        · rw [← fillUp_set _ _ _ _ hw, ← setEs_vC, hv, Nat.zero_add, Int.toNat_natCast]; rfl
        · exact ⟨clL .., .closed _ rfl, .closed _ rfl, .closed _ rfl, pubFn rfl, pubSl (k := 0) rfl rfl rfl rfl, pubEq (intEq (by simp [rkV, f3])) rfl, pubEq (intEq (by simp [smV, f3])) rfl, pubEq (congrArg AVal.bool (by simp [soV, f3, hsome])) rfl, .closed _ rfl, pub_int (wrapI _ (by omega) (by omega)), trivial⟩
      · replace h0 : (!((celV r a).kind == 0)) = false := h0
        rw [h0, Bool.or_false] at hsome
        have hk0 : (celV r a).kind = 0 := by simpa using h0
        rw [numW, if_pos hk0, Int.add_zero] at hsum
        rw [hsome, hsum] at hv
        (conv => whnf); refine recA (fun hs => ?_) (fun hs => ?_)
        · rw [hs, if_pos rfl] at hv
          rw [hs]
          (conv => whnf); refine ACalls.use (window_integer_spec F.window_integer _ _) ?_
          (conv => whnf); refine recT (by rw [vC_length, fillUp_length _ _ _ (by rw [hWl]; omega), hWl]; exact Nat.beq_refl _) ?_
          (conv => whnf); refine And.intro (⟨by omega, by omega⟩) ?_
          (conv => whnf); refine recT (by rw [vC_length, fillUp_length _ _ _ (by rw [hWl]; omega), hWl]; exact Nat.beq_refl _) ?_
          (conv => whnf); refine recO (hidx) ?_
          conv => whnf
          refine ⟨m - 1, by omega, Gp.one 0 3 (vC (fillUp (colW x l ord a) zV (k + 1))) ?_ (pureEs_vC _) rfl ?_ fun ρ1 h => ⟨k + 1, by omega, rfl, h⟩⟩
          · rw [← fillUp_set _ _ _ _ hw, ← setEs_vC, hv, Nat.zero_add, Int.toNat_natCast]; rfl
          · exact ⟨clL .., .closed _ rfl, .closed _ rfl, .closed _ rfl, pubFn rfl, pubSl (k := 0) rfl rfl rfl rfl, pubEq (intEq (by simp [rkV, f3])) rfl, pubEq (intEq (by simp [smV, f3, hsum])) rfl, pubEq (congrArg AVal.bool (by simp [soV, f3, hsome, hs])) rfl, .closed _ rfl, pub_int (wrapI _ (by omega) (by omega)), trivial⟩
        · rw [hs, if_neg (by simp)] at hv
          rw [hs]
          conv => whnf
          refine ⟨m - 1, by omega, Gp.one 0 3 (vC (fillUp (colW x l ord a) zV (k + 1))) (by rw [← fillUp_skip _ _ _ (hw.trans (by rw [hv]))]; rfl) (pureEs_vC _) rfl ?_ fun ρ1 h => ⟨k + 1, by omega, rfl, h⟩⟩
          exact ⟨clL .., .closed _ rfl, .closed _ rfl, .closed _ rfl, pubFn rfl, pubSl (k := 0) rfl rfl rfl rfl, pub_int (by simp [rkV, f3]), pub_int (by simp [smV, f3, hsum]), pubB (by simp [soV, f3, hsome, hs]), .closed _ rfl, pub_int (wrapI _ (by omega) (by omega)), trivial⟩
    by_cases f10 : x.f = 10
    · have hnn := hn (by omega)
      have hv : winV x l ord a k = atW l (IntKind.i64.wrap ((k : Int) - x.n)) a := by rw [wrapI _ (by omega) (by omega)]; simp [winV, f10]
      repeat ((conv => whnf); first | refine And.intro (by omega) ?_ | refine recT (by first | rfl | (simp; done) | (simp; omega)) ?_ | refine recF (by first | rfl | (simp; done) | (simp; omega)) ?_)
      (conv => whnf); refine ACalls.use (sp _ _) ?_
      (conv => whnf); refine recT (by rw [vC_length, fillUp_length _ _ _ (by rw [hWl]; omega), hWl]; exact Nat.beq_refl _) ?_
      (conv => whnf); refine And.intro (⟨by omega, by omega⟩) ?_
      (conv => whnf); refine recT (by rw [vC_length, fillUp_length _ _ _ (by rw [hWl]; omega), hWl]; exact Nat.beq_refl _) ?_
      (conv => whnf); refine recO (hidx) ?_
      conv => whnf
      refine ⟨m - 1, by omega, Gp.keep rfl ?_ fun ρ1 h => ⟨k + 1, by omega, ?_, h⟩⟩
      · exact ⟨rfl, rfl, rfl, rfl, rfl, rfl, intEq (by simp [rkV, f10]), intEq (by simp [smV, f10]), congrArg AVal.bool (by simp [soV, f10]), rfl, intEq (wrapI _ (by omega) (by omega)), trivial⟩
      · rw [← fillUp_set _ _ _ _ hw, ← setEs_vC, hv, Nat.zero_add, Int.toNat_natCast]; rfl
    by_cases f11 : x.f = 11
    · have hnn := hn (by omega)
      have hv : winV x l ord a k = atW l (IntKind.i64.wrap ((k : Int) + x.n)) a := by rw [wrapI _ (by omega) (by omega)]; simp [winV, f11]
      repeat ((conv => whnf); first | refine And.intro (by omega) ?_ | refine recT (by first | rfl | (simp; done) | (simp; omega)) ?_ | refine recF (by first | rfl | (simp; done) | (simp; omega)) ?_)
      (conv => whnf); refine ACalls.use (sp _ _) ?_
      (conv => whnf); refine recT (by rw [vC_length, fillUp_length _ _ _ (by rw [hWl]; omega), hWl]; exact Nat.beq_refl _) ?_
      (conv => whnf); refine And.intro (⟨by omega, by omega⟩) ?_
      (conv => whnf); refine recT (by rw [vC_length, fillUp_length _ _ _ (by rw [hWl]; omega), hWl]; exact Nat.beq_refl _) ?_
      (conv => whnf); refine recO (hidx) ?_
      conv => whnf
      refine ⟨m - 1, by omega, Gp.keep rfl ?_ fun ρ1 h => ⟨k + 1, by omega, ?_, h⟩⟩
      · exact ⟨rfl, rfl, rfl, rfl, rfl, rfl, intEq (by simp [rkV, f11]), intEq (by simp [smV, f11]), congrArg AVal.bool (by simp [soV, f11]), rfl, intEq (wrapI _ (by omega) (by omega)), trivial⟩
      · rw [← fillUp_set _ _ _ _ hw, ← setEs_vC, hv, Nat.zero_add, Int.toNat_natCast]; rfl
    by_cases f12 : x.f = 12
    · have hv : winV x l ord a k = atW l 0 a := by simp [winV, f12]
      repeat ((conv => whnf); first | refine And.intro (by omega) ?_ | refine recT (by first | rfl | (simp; done) | (simp; omega)) ?_ | refine recF (by first | rfl | (simp; done) | (simp; omega)) ?_)
      (conv => whnf); refine ACalls.use (sp _ _) ?_
      (conv => whnf); refine recT (by rw [vC_length, fillUp_length _ _ _ (by rw [hWl]; omega), hWl]; exact Nat.beq_refl _) ?_
      (conv => whnf); refine And.intro (⟨by omega, by omega⟩) ?_
      (conv => whnf); refine recT (by rw [vC_length, fillUp_length _ _ _ (by rw [hWl]; omega), hWl]; exact Nat.beq_refl _) ?_
      (conv => whnf); refine recO (hidx) ?_
      conv => whnf
      refine ⟨m - 1, by omega, Gp.keep rfl ?_ fun ρ1 h => ⟨k + 1, by omega, ?_, h⟩⟩
      · exact ⟨rfl, rfl, rfl, rfl, rfl, rfl, intEq (by simp [rkV, f12]), intEq (by simp [smV, f12]), congrArg AVal.bool (by simp [soV, f12]), rfl, intEq (wrapI _ (by omega) (by omega)), trivial⟩
      · rw [← fillUp_set _ _ _ _ hw, ← setEs_vC, hv, Nat.zero_add, Int.toNat_natCast]; rfl
    by_cases f13 : x.f = 13
    · have hv : winV x l ord a k = atW l (IntKind.i64.wrap ((l.length : Int) - 1)) a := by rw [wrapI _ (by omega) (by omega)]; simp [winV, f13]
      repeat ((conv => whnf); first | refine And.intro (by omega) ?_ | refine recT (by first | rfl | (simp; done) | (simp; omega)) ?_ | refine recF (by first | rfl | (simp; done) | (simp; omega)) ?_)
      (conv => whnf); refine ACalls.use (sp _ _) ?_
      (conv => whnf); refine recT (by rw [vC_length, fillUp_length _ _ _ (by rw [hWl]; omega), hWl]; exact Nat.beq_refl _) ?_
      (conv => whnf); refine And.intro (⟨by omega, by omega⟩) ?_
      (conv => whnf); refine recT (by rw [vC_length, fillUp_length _ _ _ (by rw [hWl]; omega), hWl]; exact Nat.beq_refl _) ?_
      (conv => whnf); refine recO (hidx) ?_
      conv => whnf
      refine ⟨m - 1, by omega, Gp.keep rfl ?_ fun ρ1 h => ⟨k + 1, by omega, ?_, h⟩⟩
      · exact ⟨rfl, rfl, rfl, rfl, rfl, rfl, intEq (by simp [rkV, f13]), intEq (by simp [smV, f13]), congrArg AVal.bool (by simp [soV, f13]), rfl, intEq (wrapI _ (by omega) (by omega)), trivial⟩
      · rw [← fillUp_set _ _ _ _ hw, ← setEs_vC, hv, Nat.zero_add, Int.toNat_natCast]; rfl
    have hv : winV x l ord a k = zV := by simp [winV, f1, f3, f8, f9, f10, f11, f12, f13]
    repeat ((conv => whnf); first | refine And.intro (by omega) ?_ | refine recT (by first | rfl | (simp; done) | (simp; omega)) ?_ | refine recF (by first | rfl | (simp; done) | (simp; omega)) ?_)
    conv => whnf
    refine ⟨m - 1, by omega, Gp.keep rfl ?_ fun ρ1 h => ⟨k + 1, by omega, ?_, h⟩⟩
    · exact ⟨rfl, rfl, rfl, rfl, rfl, rfl, intEq (by simp [rkV, f9]), intEq (by simp [smV, f3]), congrArg AVal.bool (by simp [soV, f3]), rfl, intEq (wrapI _ (by omega) (by omega)), trivial⟩
    · rw [← fillUp_skip _ _ _ (hw.trans (by rw [hv]))]
  · simp at hlt
    have : k = l.length := by omega
    subst this
    conv => whnf
    have hpf := pubF (H1 := [.arr 3 (vC (colW x l ord a))]) (n := 0) (id := 0) (ep := l.length) (len := l.length) rfl (by rw [vC_length, hWl]) (by rw [vC_length, hWl]) (pureEs_vC _)
    have e : fillUp (colW x l ord a) zV l.length = colW x l ord a := by conv => lhs; rw [← hWl]; rw [fillUp_all]
    rw [e]
    exact hpf

end Go.AW

namespace Go.AW
variable [Draws]
attribute [local irreducible] ACalls
theorem CloneV_own {P : Program} (F : F_slices_Clone_LValue_Value P) (ex : Bool) (cs : List V) (hl : cs.length ≤ 1000000) (H : List AObj) :
    ACalls P F.id [.list ex 3 (vC cs)] H (fun r H' => (r = .nil ∧ cs = [] ∧ H' = H) ∨ (r = .sl H.length cs.length 0 cs.length ∧ H' = H ++ [.arr 3 (vC cs)])) := by
  have h0 : ACalls P F.id [.list ex 3 (vC cs)] [] (fun r H1 => (r = .nil ∧ cs = [] ∧ H1 = []) ∨ (r = .sl 0 cs.length 0 cs.length ∧ H1 = [.arr 3 (vC cs)])) := by
    refine acalls_of_body F.has ?_
    conv => whnf
    refine And.intro (fun h => ?_) ?_
    · conv => whnf
      exact .inl ⟨rfl, by simpa [vC] using h, rfl⟩
    · conv => whnf
      refine And.intro ⟨roomMul (by simp [vC_length]; omega) (by omega), roomB_le (by simp [vC_length]; omega), .inr rfl⟩ ?_
      conv => whnf
      have key : List.replicate 0 [AVal.int .i64 0, .int .i64 0, .str (bs [])] ++ vC cs = vC cs := by simp
      have kl : (List.replicate 0 [AVal.int .i64 0, .int .i64 0, .str (bs [])] ++ vC cs).length = cs.length := by rw [key, vC_length]
      refine .inr ⟨slEq kl kl, ?_⟩
      show [AObj.arr 3 (List.replicate 0 [AVal.int .i64 0, .int .i64 0, .str (bs [])] ++ vC cs)] = _
      rw [key]
  refine ACalls.lift (by simp [AVal.closed, AVal.isPure]) h0 ?_
  rintro r H1 (⟨rfl, h1, rfl⟩ | ⟨rfl, rfl⟩)
  · exact ⟨[], .nil, [], .closed _ rfl, List.nodup_nil, rfl, fun k id h => by simp at h, .inl ⟨rfl, h1, by simp⟩⟩
  · exact ⟨[0], _, [.arr 3 (vC cs)], pubSl (k := 0) rfl (Nat.add_zero _).symm rfl rfl, by simp, rfl, fun k id hk => by
      cases k with
      | zero => simp at hk; subst hk; exact ⟨rfl, 3, _, rfl, pureEs_vC _⟩
      | succ k => simp at hk, .inr ⟨rfl, rfl⟩⟩

theorem obPushI (O : List Ent) (row : List V) (c : Int) (n id : Nat) (ids : List Nat) (H : List AObj) (hid : id ∉ ids) (h1 : H[id]? = some (.arr 3 (vC row))) (hn : n = row.length) :
    ObP H ids (.arr 2 (eC O ++ [[.sl id n 0 n, .int .i64 c]])) (.arr 2 (eC (O ++ [⟨row, c⟩]))) := by
  have hp : Pub H 0 ids (.sl id n 0 n) (.list false 3 (vC row)) := by
    have h := Pub.frz (n := 0) (ids := ids) id (vC row).length 0 (vC row).length 3 (vC row) h1 rfl (pureEs_vC _) hid
    rw [List.drop_zero, List.take_length, vC_length, ← hn] at h
    exact h
  rw [eC_append]
  refine .map 2 _ _ (by simp [eC]) (fun i e e1 h1 h2 => ?_) (fun i j e e1 d d1 h1 h2 h3 h4 => ?_)
  · by_cases hi : i < (eC O).length
    · rw [List.getElem?_append_left hi] at h1 h2
      rw [h1] at h2; cases h2; rfl
    · rw [List.getElem?_append_right (by omega)] at h1 h2
      rcases hk : i - (eC O).length with _ | q
      · rw [hk] at h1 h2
        cases h1; cases h2; rfl
      · rw [hk] at h1; simp at h1
  · by_cases hi : i < (eC O).length
    · rw [List.getElem?_append_left hi] at h1 h2
      rw [h1] at h2; cases h2
      rw [h3] at h4; cases h4
      have := pureEs_get (pureEs_eC O) h1 h3
      exact ⟨.closed _ (by cases d <;> first | rfl | exact this | (simp [AVal.isPure] at this)), AVal.isCell_of_isPure this⟩
    · rw [List.getElem?_append_right (by omega)] at h1 h2
      rcases hk : i - (eC O).length with _ | q
      · rw [hk] at h1 h2
        cases h1; cases h2
        rcases j with _ | _ | j
        · cases h3; cases h4; exact ⟨hp, rfl⟩
        · cases h3; cases h4; exact ⟨.closed _ rfl, rfl⟩
        · simp at h3
      · rw [hk] at h1; simp at h1

def colsW (ord : List Int) (l : List (List V)) : List Itm → List Int → List (List V)
  | x :: xs, a :: asv => colW x l ord a :: colsW ord l xs asv
  | _, _ => []

def rowW (C : List (List V)) (l : List (List V)) (p : Nat) : Ent := ⟨l.getD p [] ++ C.map (fun c => c.getD p zV), 1⟩

def outP (its : List Itm) (asv ord : List Int) (l : List (List V)) : List Ent := (List.range l.length).map (rowW (colsW ord l its asv) l)

def outW (its : List Itm) (asv ord : List Int) (G : List (List (List V))) : List Ent := G.flatMap (outP its asv ord)

def appR (its : List Itm) (is ord asv : List Int) (b : List Ent) : AVal :=
  if (expP b).2 ≠ 0 then .tuple [.nil, .int .i64 (expP b).2] else if chkE its asv (expP b).1 ≠ 0 then .tuple [.nil, .int .i64 (chkE its asv (expP b).1)] else
  norR (outW its asv ord (parL is ord (expP b).1))

theorem colsW_length : ∀ (ord : List Int) (l : List (List V)) (its : List Itm) (asv : List Int), its.length = asv.length → (colsW ord l its asv).length = its.length
  | _, _, [], _, _ => by simp [colsW]
  | _, _, _ :: _, [], h => by simp at h
  | ord, l, x :: xs, a :: asv, h => by rw [colsW, List.length_cons, List.length_cons, colsW_length ord l xs asv (by simpa using h)]

theorem colsW_get : ∀ (ord : List Int) (l : List (List V)) (its : List Itm) (asv : List Int) (j : Nat) (x : Itm) (a : Int), its[j]? = some x → asv[j]? = some a → (colsW ord l its asv)[j]? = some (colW x l ord a)
  | _, _, [], _, _, _, _, h, _ => by simp at h
  | _, _, _ :: _, [], _, _, _, _, h => by simp at h
  | ord, l, y :: ys, b :: bs, 0, x, a, h1, h2 => by simp at h1 h2; subst h1 h2; rfl
  | ord, l, y :: ys, b :: bs, j + 1, x, a, h1, h2 => by
    rw [colsW, List.getElem?_cons_succ]
    exact colsW_get ord l ys bs j x a (by simpa using h1) (by simpa using h2)

theorem colsW_len : ∀ (ord : List Int) (l : List (List V)) (its : List Itm) (asv : List Int), ∀ c ∈ colsW ord l its asv, c.length = l.length
  | _, _, [], _, c, h => by simp [colsW] at h
  | _, _, _ :: _, [], c, h => by simp [colsW] at h
  | ord, l, x :: xs, a :: asv, c, h => by
    rw [colsW] at h
    rcases List.mem_cons.1 h with rfl | h
    · exact colW_length x l ord a
    · exact colsW_len ord l xs asv c h

theorem parL_facts {is ord : List Int} {R : List (List V)} {l : List (List V)} (h : l ∈ parL is ord R) : l.length ≤ R.length ∧ ∀ r ∈ l, r ∈ R := by
  obtain ⟨g, hg, rfl⟩ := List.mem_map.1 h
  obtain ⟨k, _, rfl⟩ := List.mem_map.1 hg
  refine ⟨?_, fun r hr => ?_⟩
  · rw [srtO, srtC_length]; exact List.length_filter_le _ _
  · rw [srtO, srtC_mem] at hr; exact (List.mem_filter.1 hr).1

end Go.AW

namespace Go.AW
variable [Draws]
theorem groups_perm {α : Type} (key : α → ByteArray) : ∀ (ks : List ByteArray) (R : List α), ks.Nodup → (∀ r ∈ R, key r ∈ ks) → (ks.map fun k => R.filter fun r => key r == k).flatten.Perm R
  | [], R, _, h => by
    cases R with
    | nil => exact .refl _
    | cons r R => have := h r (List.mem_cons_self ..); simp at this
  | k :: ks, R, hn, h => by
    obtain ⟨h1, h2⟩ := List.nodup_cons.1 hn
    have e : (ks.map fun k' => R.filter fun r => key r == k') = ks.map fun k' => (R.filter fun r => !(key r == k)).filter fun r => key r == k' := by
      refine List.map_congr_left fun k' hk' => ?_
      rw [List.filter_filter]
      refine List.filter_congr fun r _ => ?_
      by_cases hr : key r = k'
      · have : key r ≠ k := fun e => h1 (by rw [← e, hr]; exact hk')
        simp [hr]
        exact fun e => this (hr.trans e)
      · simp [hr]
    rw [List.map_cons, List.flatten_cons, e]
    have ih := groups_perm key ks (R.filter fun r => !(key r == k)) h2 fun r hr => by
      obtain ⟨h3, h4⟩ := List.mem_filter.1 hr
      rcases List.mem_cons.1 (h r h3) with h5 | h5
      · simp [h5] at h4
      · exact h5
    exact (ih.append_left _).trans (List.filter_append_perm _ R)

theorem flatten_srt {α : Type} {c : α → α → Int} : ∀ (G : List (List α)), (G.map (srtC c)).flatten.Perm G.flatten
  | [] => .refl _
  | g :: G => by
    rw [List.map_cons, List.flatten_cons, List.flatten_cons]
    exact (srtC_perm g).append (flatten_srt G)

theorem parL_perm (is ord : List Int) (R : List (List V)) : (parL is ord R).flatten.Perm R := by
  obtain ⟨h1, h2, _⟩ := kyS_facts is R R.length
  rw [List.take_length] at h1 h2
  exact (flatten_srt _).trans (groups_perm (keyB is) _ R h1 h2)

theorem outW_length (its : List Itm) (asv ord : List Int) : ∀ (G : List (List (List V))), (outW its asv ord G).length = G.flatten.length
  | [] => rfl
  | g :: G => by
    have := outW_length its asv ord G
    rw [outW] at this ⊢
    rw [List.flatMap_cons, List.flatten_cons, List.length_append, List.length_append, this, outP, List.length_map, List.length_range]

theorem expP_valid (b : List Ent) : ∀ r ∈ (expP b).1, r.all validB = true := by
  intro r hr
  unfold expP at hr
  split at hr
  · cases hr
  · rename_i h1
    split at hr
    · split at hr
      · cases hr
      · obtain ⟨e, he, rfl⟩ := expL_row hr
        exact (bag_rowOk (nz0 h1) e he).2
    · cases hr

theorem itemsE_zero {R : List (List V)} : ∀ (its : List Itm) (asv : List Int), its.length = asv.length → itemsE R its asv = 0 → ∀ (j : Nat) (x : Itm) (a : Int), its[j]? = some x → asv[j]? = some a → itemE x a R = 0
  | [], _, _, _, j, x, a, h, _ => by simp at h
  | _ :: _, [], h, _, _, _, _, _, _ => by simp at h
  | y :: ys, c :: cs, hl, h, j, x, a, h1, h2 => by
    rw [itemsE] at h
    by_cases h0 : itemE y c R = 0
    · rw [if_neg (by simp [h0])] at h
      cases j with
      | zero => simp at h1 h2; subst h1 h2; exact h0
      | succ j => exact itemsE_zero ys cs (by simpa using hl) h j x a (by simpa using h1) (by simpa using h2)
    · rw [if_pos h0] at h; exact absurd h h0

theorem chkE_zero {its : List Itm} {asv : List Int} {R : List (List V)} (h : chkE its asv R = 0) : its.length = asv.length ∧ ∀ (j : Nat) (x : Itm) (a : Int), its[j]? = some x → asv[j]? = some a → itemE x a R = 0 := by
  unfold chkE at h
  split at h
  · cases h
  · rename_i hl
    have hl : its.length = asv.length := by omega
    exact ⟨hl, itemsE_zero its asv hl h⟩

theorem itemE_lag {x : Itm} {a : Int} {R : List (List V)} (h : itemE x a R = 0) (hf : x.f = 10 ∨ x.f = 11) : 1 ≤ x.n ∧ x.n ≤ 4096 := by
  unfold itemE at h
  split at h
  · cases h
  · split at h
    · cases h
    · rename_i h1; omega

end Go.AW

namespace Go.AW
variable [Draws]
attribute [local irreducible] ACalls
def fstI (row : List V) : List (List V) → Nat
  | [] => 0
  | r :: l => if rowsCmp r row = 0 then 0 else fstI row l + 1

def rkR (ord : List Int) (l : List (List V)) (p : Nat) : Int := 1 + ((l.filter fun r => decide (cmpK ord r (l.getD p []) < 0)).length : Int)

def valR (x : Itm) (l : List (List V)) (ord : List Int) (a : Int) (p : Nat) : V := if x.f = 9 then numV (rkR ord l p) else winV x l ord a p

end Go.AW

namespace Go.AW
variable [Draws]
attribute [local irreducible] ACalls
def posR (ord : List Int) (O : List (List V)) (x : List V) : Nat → Nat
  | 0 => 0
  | k + 1 => if cmpK ord (O.getD k []) x > 0 then posR ord O x k else k + 1

theorem posR_le (ord : List Int) (O : List (List V)) (x : List V) : ∀ k, posR ord O x k ≤ k
  | 0 => Nat.le_refl _
  | k + 1 => by
    have := posR_le ord O x k
    rw [posR]; split <;> omega

def insR (ord : List Int) (x : List V) (O : List (List V)) : List (List V) := O.take (posR ord O x O.length) ++ x :: O.drop (posR ord O x O.length)

def memG (is ord : List Int) (row : List V) : List (List V) → List (List V) → List (List V)
  | O, [] => O
  | O, r :: R => memG is ord row (if cmpK is r row = 0 then insR ord r O else O) R

def memR (is ord : List Int) (row : List V) (R : List (List V)) : List (List V) := memG is ord row [] R

theorem memG_mem (is ord : List Int) (row : List V) : ∀ (R O : List (List V)) (r : List V), r ∈ memG is ord row O R → r ∈ O ∨ r ∈ R
  | [], O, r, h => .inl h
  | x :: R, O, r, h => by
    rw [memG] at h
    rcases memG_mem is ord row R _ r h with h1 | h1
    · split at h1
      · rw [insR] at h1
        rcases List.mem_append.1 h1 with h2 | h2
        · exact .inl (List.mem_of_mem_take h2)
        · rcases List.mem_cons.1 h2 with rfl | h2
          · exact .inr (List.mem_cons_self ..)
          · exact .inl (List.mem_of_mem_drop h2)
      · exact .inl h1
    · exact .inr (List.mem_cons_of_mem _ h1)

end Go.AW

namespace Go.AW
variable [Draws]
structure PreC {α : Type} (c : α → α → Int) : Prop where
  anti : ∀ x y, c y x = - c x y
  le : ∀ x y z, c x y ≤ 0 → c y z ≤ 0 → c x z ≤ 0

theorem IsCmp.pre {α : Type} {c : α → α → Int} (h : IsCmp c) : PreC c := ⟨h.anti, fun _ _ _ => h.le_trans⟩

theorem PreC.pull {α β : Type} {c : α → α → Int} (h : PreC c) (f : β → α) : PreC (fun x y => c (f x) (f y)) := ⟨fun x y => h.anti _ _, fun x y z => h.le _ _ _⟩

theorem PreC.refl {α : Type} {c : α → α → Int} (h : PreC c) (x : α) : c x x = 0 := by have := h.anti x x; omega

theorem insC_srtP {α : Type} {c : α → α → Int} (h : PreC c) (x : α) : ∀ l : List α, SrtC c l → SrtC c (insC c x l)
  | [], _ => by simp [insC, SrtC]
  | y :: l, hs => by
    have h1 := List.pairwise_cons.1 hs
    rw [insC]
    split
    · rename_i hx
      refine List.pairwise_cons.2 ⟨fun z hz => ?_, hs⟩
      rcases List.mem_cons.1 hz with rfl | hz
      · exact hx
      · exact h.le _ _ _ hx (h1.1 z hz)
    · rename_i hx
      refine List.pairwise_cons.2 ⟨fun z hz => ?_, insC_srtP h x l h1.2⟩
      rcases List.mem_cons.1 ((insC_perm x l).mem_iff.1 hz) with rfl | hz
      · have := h.anti z y; omega
      · exact h1.1 z hz

theorem srtC_srtP {α : Type} {c : α → α → Int} (h : PreC c) : ∀ l : List α, SrtC c (srtC c l)
  | [] => List.Pairwise.nil
  | x :: l => insC_srtP h x _ (srtC_srtP h l)

theorem pre_K (is : List Int) : PreC (cmpK is) := (isCmp_rows.pre).pull fun r => pickL zV r is

theorem cmpK_of_O {is : List Int} {a b : List V} (h : cmpO is a b ≤ 0) : cmpK is a b ≤ 0 := by
  unfold cmpO at h
  split at h
  · exact h
  · omega

theorem cmpK_zero {is : List Int} {a b : List V} : cmpK is a b = 0 ↔ pickL zV a is = pickL zV b is := rowsCmp_zero _ _

theorem expL_srt (ord : List Int) : ∀ (b : List Ent), b.Pairwise (fun x y => cmpO ord x.row y.row ≤ 0) → SrtC (cmpO ord) (expL b)
  | [], _ => List.Pairwise.nil
  | e :: b, h => by
    obtain ⟨h1, h2⟩ := List.pairwise_cons.1 h
    rw [expL_cons]
    refine List.pairwise_append.2 ⟨List.pairwise_replicate.2 (.inr ?_), expL_srt ord b h2, fun x hx y hy => ?_⟩
    · have := (isCmp_O ord).pre.refl e.row; omega
    · rw [(List.mem_replicate.1 hx).2]
      obtain ⟨e2, he2, rfl⟩ := expL_row hy
      exact h1 e2 he2

theorem expL_perm {a b : List Ent} (h : a.Perm b) : (expL a).Perm (expL b) := h.flatMap_right _

theorem expL_filter (p : List V → Bool) : ∀ b : List Ent, (expL b).filter p = expL (b.filter fun e => p e.row)
  | [] => rfl
  | e :: b => by
    rw [expL_cons, List.filter_append, expL_filter p b, List.filter_cons]
    by_cases h : p e.row
    · rw [if_pos h, expL_cons]
      congr 1
      exact List.filter_eq_self.2 fun x hx => by rw [(List.mem_replicate.1 hx).2]; exact h
    · rw [if_neg h]
      have : (List.replicate e.cnt.toNat e.row).filter p = [] := List.filter_eq_nil_iff.2 fun x hx => by rw [(List.mem_replicate.1 hx).2]; exact h
      rw [this, List.nil_append]

def srtEn (ord : List Int) (b : List Ent) : List Ent := srtC (fun x y => cmpO ord x.row y.row) b

theorem srtO_expL (ord : List Int) (b : List Ent) : srtO ord (expL b) = expL (srtEn ord b) :=
  ((srtC_eq (isCmp_O ord) (expL_srt ord _ (srtC_srtP ((isCmp_O ord).pre.pull Ent.row) b)) (expL_perm (srtC_perm b)))).symm

def Dist (b : List Ent) : Prop := b.Pairwise fun x y => x.row ≠ y.row

theorem Srt.dist {b : List Ent} (h : Srt b) : Dist b := List.Pairwise.imp (fun {x y} h1 e => by rw [(rowsCmp_zero _ _).2 e] at h1; omega) h

theorem Dist.perm {a b : List Ent} (h : Dist a) (hp : a.Perm b) : Dist b := hp.pairwise h fun h1 => Ne.symm h1

theorem fst_rep (row r : List V) (L : List (List V)) (h : r ≠ row) : ∀ c, fstI row (List.replicate c r ++ L) = c + fstI row L
  | 0 => by simp
  | c + 1 => by
    rw [List.replicate_succ, List.cons_append, fstI, if_neg (fun e => h ((rowsCmp_zero _ _).1 e)), fst_rep row r L h c]; omega

theorem fst_self (row : List V) (L : List (List V)) (c : Nat) (hc : 0 < c) : fstI row (List.replicate c row ++ L) = 0 := by
  obtain ⟨k, rfl⟩ : ∃ k, c = k + 1 := ⟨c - 1, by omega⟩
  rw [List.replicate_succ, List.cons_append, fstI, if_pos ((rowsCmp_zero _ _).2 rfl)]

theorem run_at : ∀ (b : List Ent), Dist b → ∀ e ∈ b, ∀ n, n < e.cnt.toNat → (expL b)[fstI e.row (expL b) + n]? = some e.row
  | [], _, e, he, _, _ => by cases he
  | x :: b, hd, e, he, n, hn => by
    obtain ⟨h1, h2⟩ := List.pairwise_cons.1 hd
    rw [expL_cons]
    rcases List.mem_cons.1 he with rfl | he
    · rw [fst_self _ _ _ (by omega), Nat.zero_add, List.getElem?_append_left (by simpa using hn)]
      simp [List.getElem?_replicate, hn]
    · rw [fst_rep _ _ _ (h1 e he), List.getElem?_append_right (by simp; omega), List.length_replicate]
      rw [show x.cnt.toNat + fstI e.row (expL b) + n - x.cnt.toNat = fstI e.row (expL b) + n from by omega]
      exact run_at b h2 e he n hn

theorem run_map {γ : Type} : ∀ (b : List Ent) (G : Nat → γ), Dist b → (List.range (expL b).length).map G = b.flatMap fun e => (List.range e.cnt.toNat).map fun n => G (fstI e.row (expL b) + n)
  | [], _, _ => rfl
  | x :: b, G, hd => by
    obtain ⟨h1, h2⟩ := List.pairwise_cons.1 hd
    rw [expL_cons, List.length_append, List.length_replicate, List.range_add, List.map_append, List.map_map, List.flatMap_cons]
    congr 1
    · refine List.map_congr_left fun n hn => ?_
      have hn := List.mem_range.1 hn
      rw [fst_self _ _ _ (by omega), Nat.zero_add]
    · have ih := run_map b (fun i => G (x.cnt.toNat + i)) h2
      rw [show (G ∘ fun x_1 => x.cnt.toNat + x_1) = fun i => G (x.cnt.toNat + i) from rfl, ih, List.flatMap_def, List.flatMap_def]
      congr 1
      refine List.map_congr_left fun e he => ?_
      refine List.map_congr_left fun n _ => ?_
      rw [fst_rep _ _ _ (h1 e he)]
      congr 1; omega

theorem posR_facts (ord : List Int) (O : List (List V)) (x : List V) : ∀ k, k ≤ O.length → (∀ i y, posR ord O x k ≤ i → i < k → O[i]? = some y → cmpK ord y x > 0) ∧ (0 < posR ord O x k → ∃ y, O[posR ord O x k - 1]? = some y ∧ cmpK ord y x ≤ 0)
  | 0, _ => ⟨fun i y _ h => by omega, fun h => by rw [posR] at h; omega⟩
  | k + 1, hk => by
    obtain ⟨h1, h2⟩ := posR_facts ord O x k (by omega)
    have hg : O[k]? = some O[k] := List.getElem?_eq_getElem (by omega)
    have hgd : O.getD k [] = O[k] := by rw [List.getD_eq_getElem?_getD, hg]; rfl
    rw [posR, hgd]
    split
    · rename_i hc
      refine ⟨fun i y hi hik hy => ?_, h2⟩
      by_cases e : i = k
      · subst e; rw [hg] at hy; cases hy; exact hc
      · exact h1 i y hi (by omega) hy
    · rename_i hc
      exact ⟨fun i y hi hik => by omega, fun _ => ⟨O[k], by simpa using hg, by omega⟩⟩

theorem insR_srt (ord : List Int) (x : List V) (O : List (List V)) (hs : SrtC (cmpO ord) O) (ha : ∀ y ∈ O, rowsCmp y x ≤ 0) : SrtC (cmpO ord) (insR ord x O) := by
  obtain ⟨h1, h2⟩ := posR_facts ord O x O.length (Nat.le_refl _)
  have hle := posR_le ord O x O.length
  have hp := List.pairwise_iff_getElem.1 hs
  unfold insR
  generalize posR ord O x O.length = p at *
  have hlow : ∀ y ∈ O.take p, cmpO ord y x ≤ 0 := by
    intro y hy
    obtain ⟨i, hi⟩ := List.getElem?_of_mem hy
    have hil := (List.getElem?_eq_some_iff.1 hi).1
    rw [List.length_take] at hil
    rw [List.getElem?_take_of_lt (by omega)] at hi
    obtain ⟨z, hz, hzx⟩ := h2 (by omega)
    have hyz : cmpK ord y z ≤ 0 := by
      by_cases e : i = p - 1
      · subst e; rw [hi] at hz; cases hz; have := (pre_K ord).refl y; omega
      · have := hp i (p - 1) (by omega) (by omega) (by omega)
        rw [(List.getElem?_eq_some_iff.1 hi).2, (List.getElem?_eq_some_iff.1 hz).2] at this
        exact cmpK_of_O this
    have hyx := (pre_K ord).le y z x hyz hzx
    unfold cmpO
    split
    · exact hyx
    · exact ha y (List.mem_of_getElem? hi)
  have hhigh : ∀ y ∈ O.drop p, cmpO ord x y ≤ 0 := by
    intro y hy
    obtain ⟨i, hi⟩ := List.getElem?_of_mem hy
    rw [List.getElem?_drop] at hi
    have hc := h1 (p + i) y (by omega) (List.getElem?_eq_some_iff.1 hi).1 hi
    have := (pre_K ord).anti y x
    unfold cmpO
    rw [if_pos (by omega)]; omega
  refine List.pairwise_append.2 ⟨hs.sublist (List.take_sublist _ _), List.pairwise_cons.2 ⟨hhigh, hs.sublist (List.drop_sublist _ _)⟩, fun y hy z hz => ?_⟩
  rcases List.mem_cons.1 hz with rfl | hz
  · exact hlow y hy
  · exact (isCmp_O ord).pre.le _ _ _ (hlow y hy) (hhigh z hz)

theorem insR_perm (ord : List Int) (x : List V) (O : List (List V)) : (insR ord x O).Perm (x :: O) := by
  unfold insR
  refine List.perm_middle.trans ?_
  rw [List.take_append_drop]

theorem memG_facts (is ord : List Int) (row : List V) : ∀ (R O : List (List V)), SrtC (cmpO ord) O → R.Pairwise (fun x y => rowsCmp x y ≤ 0) → (∀ y ∈ O, ∀ x ∈ R, rowsCmp y x ≤ 0) →
    SrtC (cmpO ord) (memG is ord row O R) ∧ (memG is ord row O R).Perm (O ++ R.filter fun r => cmpK is r row == 0)
  | [], O, h, _, _ => ⟨h, by rw [memG]; simp⟩
  | x :: R, O, h, ha, hO => by
    obtain ⟨a1, a2⟩ := List.pairwise_cons.1 ha
    rw [memG]
    by_cases hc : cmpK is x row = 0
    · rw [if_pos hc]
      obtain ⟨g1, g2⟩ := memG_facts is ord row R (insR ord x O) (insR_srt ord x O h fun y hy => hO y hy x (List.mem_cons_self ..)) a2 (fun y hy z hz => by
        rcases List.mem_cons.1 ((insR_perm ord x O).mem_iff.1 hy) with rfl | hy
        · exact a1 z hz
        · exact hO y hy z (List.mem_cons_of_mem _ hz))
      refine ⟨g1, g2.trans ?_⟩
      rw [List.filter_cons, if_pos (by simpa using hc)]
      exact ((insR_perm ord x O).append_right _).trans List.perm_middle.symm
    · rw [if_neg hc]
      obtain ⟨g1, g2⟩ := memG_facts is ord row R O h a2 (fun y hy z hz => hO y hy z (List.mem_cons_of_mem _ hz))
      refine ⟨g1, ?_⟩
      rw [List.filter_cons, if_neg (by simpa using hc)]
      exact g2

theorem memR_eq (is ord : List Int) (row : List V) {R : List (List V)} (h : R.Pairwise fun x y => rowsCmp x y ≤ 0) : memR is ord row R = srtO ord (R.filter fun r => cmpK is r row == 0) := by
  obtain ⟨g1, g2⟩ := memG_facts is ord row R [] List.Pairwise.nil h (fun y hy => by cases hy)
  exact srtC_eq (isCmp_O ord) g1 (by rw [List.nil_append] at g2; exact g2)

theorem rank_eq (ord : List Int) (l : List (List V)) (hs : SrtC (cmpO ord) l) : ∀ p, p < l.length → rkQ ord l (p + 1) = rkR ord l p := by
  have hp := List.pairwise_iff_getElem.1 hs
  have le : ∀ i j (hi : i < l.length) (hj : j < l.length), i ≤ j → cmpK ord l[i] l[j] ≤ 0 := fun i j hi hj h => by
    by_cases e : i = j
    · subst e; have := (pre_K ord).refl l[i]; omega
    · exact cmpK_of_O (hp i j hi hj (by omega))
  have gd : ∀ i (hi : i < l.length), l.getD i [] = l[i] := fun i hi => by rw [List.getD_eq_getElem?_getD, List.getElem?_eq_getElem hi]; rfl
  intro p
  induction p with
  | zero =>
    intro h
    have : (l.filter fun r => decide (cmpK ord r (l.getD 0 []) < 0)) = [] := List.filter_eq_nil_iff.2 fun r hr hc => by
      obtain ⟨i, hi⟩ := List.getElem?_of_mem hr
      obtain ⟨hil, rfl⟩ := List.getElem?_eq_some_iff.1 hi
      rw [gd 0 h] at hc
      have h1 := le 0 i h hil (Nat.zero_le _)
      have h2 := (pre_K ord).anti l[0] l[i]
      simp at hc; omega
    rw [rkR, this]; rfl
  | succ p ih =>
    intro h
    have ih := ih (by omega)
    have h1 := le p (p + 1) (by omega) h (by omega)
    rw [rkQ, gd p (by omega), gd (p + 1) h]
    by_cases hc : cmpK ord l[p] l[p + 1] = 0
    · rw [if_neg (by simp [hc]), ih, rkR, rkR, gd p (by omega), gd (p + 1) h]
      have e := cmpK_zero.1 hc
      have : ∀ r, cmpK ord r l[p] = cmpK ord r l[p + 1] := fun r => by rw [cmpK, cmpK, e]
      simp only [this]
    · rw [if_pos hc, rkR, gd (p + 1) h]
      have hlt : cmpK ord l[p] l[p + 1] < 0 := by omega
      have key : (l.filter fun r => decide (cmpK ord r l[p + 1] < 0)) = l.take (p + 1) := by
        have e0 : (l.filter fun r => decide (cmpK ord r l[p + 1] < 0)) = ((l.take (p + 1) ++ l.drop (p + 1)).filter fun r => decide (cmpK ord r (l[p + 1]) < 0)) := by rw [List.take_append_drop]
        rw [e0, List.filter_append]
        have e1 : (l.take (p + 1)).filter (fun r => decide (cmpK ord r (l[p + 1]) < 0)) = l.take (p + 1) := List.filter_eq_self.2 fun r hr => by
          obtain ⟨i, hi⟩ := List.getElem?_of_mem hr
          have hil := (List.getElem?_eq_some_iff.1 hi).1
          rw [List.length_take] at hil
          rw [List.getElem?_take_of_lt (by omega)] at hi
          obtain ⟨_, rfl⟩ := List.getElem?_eq_some_iff.1 hi
          have h3 := le i p (by omega) (by omega) (by omega)
          have h4 := (pre_K ord).le _ _ _ h3 (Int.le_of_lt hlt)
          have h5 : cmpK ord l[i] l[p + 1] ≠ 0 := fun e => by
            have a1 := (pre_K ord).anti l[i] l[p + 1]
            have := (pre_K ord).le l[p + 1] l[i] l[p] (by omega) h3
            have a2 := (pre_K ord).anti l[p] l[p + 1]
            omega
          simp; omega
        have e2 : (l.drop (p + 1)).filter (fun r => decide (cmpK ord r (l[p + 1]) < 0)) = [] := List.filter_eq_nil_iff.2 fun r hr hd => by
          obtain ⟨i, hi⟩ := List.getElem?_of_mem hr
          rw [List.getElem?_drop] at hi
          obtain ⟨hil, rfl⟩ := List.getElem?_eq_some_iff.1 hi
          have h3 := le (p + 1) (p + 1 + i) h hil (by omega)
          have h4 := (pre_K ord).anti l[p + 1] l[p + 1 + i]
          simp at hd; omega
        rw [e1, e2, List.append_nil]
      rw [key, List.length_take]
      omega

theorem byt_fpL (r : List V) : Byt (fpL r) := by
  intro x hx
  obtain ⟨v, _, hv⟩ := List.mem_flatMap.1 hx
  exact byt_encB [v] x hv

theorem fpL_inj : ∀ (p q : List V), p.length = q.length → p.all validB = true → q.all validB = true → fpL p = fpL q → p = q
  | [], [], _, _, _, _ => rfl
  | [], _ :: _, h, _, _, _ => by simp at h
  | _ :: _, [], h, _, _, _ => by simp at h
  | v :: p, w :: q, hl, hp, hq, h => by
    simp only [List.all_cons, Bool.and_eq_true] at hp hq
    have e1 : fpL (v :: p) = encB [v] ++ fpL p := by simp [fpL]
    have e2 : fpL (w :: q) = encB [w] ++ fpL q := by simp [fpL]
    rw [e1, e2] at h
    have hvw : v = w := by
      rcases List.append_eq_append_iff.1 h with ⟨t, h1, _⟩ | ⟨t, h1, _⟩
      · have := encB_prefix (rs := [v]) (ss := [w]) (by simp) (by simp) (by simpa using hp.1) (by simpa using hq.1) h1
        simpa using this
      · have := encB_prefix (rs := [w]) (ss := [v]) (by simp) (by simp) (by simpa using hq.1) (by simpa using hp.1) h1
        simpa using this.symm
    subst hvw
    rw [fpL_inj p q (by simpa using hl) hp.2 hq.2 (List.append_cancel_left h)]

theorem keyB_iff (is : List Int) {r s : List V} (hr : r.all validB = true) (hs : s.all validB = true) : keyB is r = keyB is s ↔ cmpK is r s = 0 := by
  rw [cmpK_zero]
  refine ⟨fun h => ?_, fun h => by rw [keyB, keyB, h]⟩
  refine fpL_inj _ _ (by rw [pickL_length, pickL_length]) (pick_valid hr is) (pick_valid hs is) (u8L_inj (byt_fpL _) (byt_fpL _) ?_)
  have h1 : (strB (fpL (pickL zV r is))).data.toList = (strB (fpL (pickL zV s is))).data.toList := by rw [show strB (fpL (pickL zV r is)) = strB (fpL (pickL zV s is)) from h]
  simpa [strB, u8L] using h1

end Go.AW

namespace Go.AW
variable [Draws]
def valsR (ord : List Int) (l : List (List V)) (p : Nat) : List Itm → List Int → List V
  | x :: xs, a :: asv => valR x l ord a p :: valsR ord l p xs asv
  | _, _ => []

def rowX (its : List Itm) (asv ord : List Int) (row : List V) (l : List (List V)) (p : Nat) : Ent := ⟨row ++ valsR ord l p its asv, 1⟩

def outE (its : List Itm) (is ord asv : List Int) (R : List (List V)) (e : Ent) : List Ent :=
  (List.range e.cnt.toNat).map fun n => rowX its asv ord e.row (memR is ord e.row R) (fstI e.row (memR is ord e.row R) + n)

def outR (its : List Itm) (is ord asv : List Int) (R : List (List V)) (b : List Ent) : List Ent := b.flatMap (outE its is ord asv R)

theorem valR_eq (x : Itm) {l : List (List V)} {ord : List Int} (a : Int) {p : Nat} (hs : SrtC (cmpO ord) l) (hp : p < l.length) : valR x l ord a p = winV x l ord a p := by
  unfold valR
  split
  · rename_i h; simp [winV, h, rank_eq ord l hs p hp]
  · rfl

theorem cols_vals {l : List (List V)} {ord : List Int} {p : Nat} (hs : SrtC (cmpO ord) l) (hp : p < l.length) : ∀ (its : List Itm) (asv : List Int), (colsW ord l its asv).map (fun c => c.getD p zV) = valsR ord l p its asv
  | [], _ => by simp [colsW, valsR]
  | _ :: _, [] => by simp [colsW, valsR]
  | x :: xs, a :: asv => by
    rw [colsW, valsR, List.map_cons, cols_vals hs hp xs asv, List.getD_eq_getElem?_getD, colW_get x ord a hp, valR_eq x a hs hp]; rfl

theorem expL_ascR : ∀ (b : List Ent), Srt b → (expL b).Pairwise fun x y => rowsCmp x y ≤ 0
  | [], _ => List.Pairwise.nil
  | e :: b, h => by
    obtain ⟨h1, h2⟩ := List.pairwise_cons.1 h
    rw [expL_cons]
    refine List.pairwise_append.2 ⟨List.pairwise_replicate.2 (.inr (by rw [(rowsCmp_zero _ _).2 rfl]; exact Int.le_refl _)), expL_ascR b h2, fun x hx y hy => ?_⟩
    rw [(List.mem_replicate.1 hx).2]
    obtain ⟨e2, he2, rfl⟩ := expL_row hy
    exact Int.le_of_lt (h1 e2 he2)

theorem dist_part {b : List Ent} (hs : Srt b) (ord : List Int) (p : Ent → Bool) : Dist (srtEn ord (b.filter p)) :=
  Dist.perm (List.Pairwise.sublist List.filter_sublist hs.dist) (srtC_perm _).symm

theorem mem_runs {b : List Ent} (is ord : List Int) (hs : Srt b) (row : List V) : memR is ord row (expL b) = expL (srtEn ord (b.filter fun e => cmpK is e.row row == 0)) := by
  rw [memR_eq is ord row (expL_ascR b hs), expL_filter, srtO_expL]

theorem mem_at {b : List Ent} (is ord : List Int) (hs : Srt b) {e : Ent} (he : e ∈ b) {n : Nat} (hn : n < e.cnt.toNat) :
    (memR is ord e.row (expL b))[fstI e.row (memR is ord e.row (expL b)) + n]? = some e.row := by
  rw [mem_runs is ord hs]
  refine run_at _ ?_ e ?_ n hn
  · exact dist_part hs _ _
  · exact srtC_mem.2 (List.mem_filter.2 ⟨he, by simpa using (pre_K is).refl e.row⟩)

theorem mem_srt {b : List Ent} (is ord : List Int) (hs : Srt b) (row : List V) : SrtC (cmpO ord) (memR is ord row (expL b)) := by
  rw [memR_eq is ord row (expL_ascR b hs)]
  exact srtC_srt (isCmp_O ord) _

theorem flatMap_perm {α β : Type} {f g : α → List β} : ∀ (l : List α), (∀ x ∈ l, (f x).Perm (g x)) → (l.flatMap f).Perm (l.flatMap g)
  | [], _ => .refl _
  | x :: l, h => by
    rw [List.flatMap_cons, List.flatMap_cons]
    exact (h x (List.mem_cons_self ..)).append (flatMap_perm l fun y hy => h y (List.mem_cons_of_mem _ hy))

theorem out_perm {b : List Ent} (its : List Itm) (is ord asv : List Int) (hs : Srt b) (hv : ∀ e ∈ b, e.row.all validB = true) (hz : ∀ e ∈ b, 0 < e.cnt) :
    (outW its asv ord (parL is ord (expL b))).Perm (outR its is ord asv (expL b) b) := by
  have hvR : ∀ r ∈ expL b, r.all validB = true := fun r hr => by obtain ⟨e, he, rfl⟩ := expL_row hr; exact hv e he
  obtain ⟨h1, h2, h3⟩ := kyS_facts is (expL b) (expL b).length
  rw [List.take_length] at h1 h2 h3
  
  have part : ∀ k ∈ kyS is (expL b), (outP its asv ord (srtO ord ((expL b).filter fun r => keyB is r == k))).Perm ((b.filter fun e => keyB is e.row == k).flatMap (outE its is ord asv (expL b))) := by
    intro k hk
    rw [expL_filter, srtO_expL]
    have hd : Dist (srtEn ord (b.filter fun e => keyB is e.row == k)) := dist_part hs _ _
    rw [outP, run_map _ _ hd]
    refine ((srtC_perm _).flatMap_right _).trans ?_
    refine flatMap_perm _ fun e he => ?_
    obtain ⟨heb, hek⟩ := List.mem_filter.1 he
    have hek : keyB is e.row = k := by simpa using hek
    have hm : memR is ord e.row (expL b) = expL (srtEn ord (b.filter fun e => keyB is e.row == k)) := by
      rw [mem_runs is ord hs]
      congr 2
      refine List.filter_congr fun x hx => ?_
      rw [Bool.eq_iff_iff]
      simp only [beq_iff_eq, ← hek]
      exact (keyB_iff is (hv x hx) (hv e heb)).symm
    have hE : outE its is ord asv (expL b) e = (List.range e.cnt.toNat).map fun n => rowX its asv ord e.row (expL (srtEn ord (b.filter fun e => keyB is e.row == k))) (fstI e.row (expL (srtEn ord (b.filter fun e => keyB is e.row == k))) + n) := by
      rw [outE, hm]
    rw [hE]
    refine List.Perm.of_eq (List.map_congr_left fun n hn => ?_)
    have hn := List.mem_range.1 hn
    have hat := mem_at is ord hs heb hn
    have hst := mem_srt is ord hs e.row
    rw [hm] at hat hst
    have hlt := (List.getElem?_eq_some_iff.1 hat).1
    rw [rowW, rowX, cols_vals hst hlt, List.getD_eq_getElem?_getD, hat]; rfl
  have e1 : outW its asv ord (parL is ord (expL b)) = (kyS is (expL b)).flatMap fun k => outP its asv ord (srtO ord ((expL b).filter fun r => keyB is r == k)) := by
    rw [outW, parL, grpsK, List.map_map, List.flatMap_map]; rfl
  rw [e1]
  refine (flatMap_perm _ part).trans ?_
  have e2 : ((kyS is (expL b)).flatMap fun k => (b.filter fun e => keyB is e.row == k).flatMap (outE its is ord asv (expL b))) = (((kyS is (expL b)).map fun k => b.filter fun e => keyB is e.row == k).flatten).flatMap (outE its is ord asv (expL b)) := by
    rw [← List.flatMap_def, List.flatMap_assoc]
  rw [e2]
  refine (groups_perm (fun e : Ent => keyB is e.row) _ b h1 fun e he => h2 e.row ?_).flatMap_right _
  exact List.mem_flatMap.2 ⟨e, he, List.mem_replicate.2 ⟨by have := hz e he; omega, rfl⟩⟩

end Go.AW

namespace Go.AW
variable [Draws]
attribute [local irreducible] ACalls
theorem expP_ok {b : List Ent} (h : (expP b).2 = 0) : bagB b = 0 ∧ (∀ e ∈ b, 0 < e.cnt) ∧ (expP b).1 = expL b := by
  unfold expP at h ⊢
  split at h
  · exact absurd h (by assumption)
  · rename_i h1
    have h1 := nz0 h1
    split at h
    · rename_i h2
      split at h
      · cases h
      · rename_i h3
        refine ⟨h1, fun e he => ?_, by rw [if_neg (by simp [h1]), if_pos h2, if_neg h3]⟩
        have := List.all_eq_true.1 h2 e he
        simpa [posE] using this
    · cases h

theorem valsR_length (ord : List Int) (l : List (List V)) (p : Nat) : ∀ (its : List Itm) (asv : List Int), its.length = asv.length → (valsR ord l p its asv).length = its.length
  | [], _, _ => by simp [valsR]
  | _ :: _, [], h => by simp at h
  | x :: xs, a :: asv, h => by rw [valsR, List.length_cons, List.length_cons, valsR_length ord l p xs asv (by simpa using h)]

def longB (e : Ent) : Bool := decide (12 < e.row.length)

def refP (its : List Itm) (is ord asv : List Int) (b : List Ent) : List Ent × Int :=
  if (expP b).2 ≠ 0 then ([], (expP b).2) else if chkE its asv (expP b).1 ≠ 0 then ([], chkE its asv (expP b).1) else
  if (outR its is ord asv (expP b).1 b).any longB = true then ([], 2) else sumP (outR its is ord asv (expP b).1 b)

theorem outE_length (its : List Itm) (is ord asv : List Int) (R : List (List V)) (e : Ent) : (outE its is ord asv R e).length = e.cnt.toNat := by rw [outE, List.length_map, List.length_range]

theorem outR_length (its : List Itm) (is ord asv : List Int) (R : List (List V)) : ∀ b, (outR its is ord asv R b).length = (expL b).length
  | [] => rfl
  | e :: b => by
    have := outR_length its is ord asv R b
    rw [outR] at this ⊢
    rw [List.flatMap_cons, List.length_append, this, outE_length, expL_cons, List.length_append, List.length_replicate]

theorem mem_rows (is ord : List Int) (row : List V) (R : List (List V)) {r : List V} (h : r ∈ memR is ord row R) : r ∈ R := by
  rcases memG_mem is ord row R [] r h with h1 | h1
  · cases h1
  · exact h1

theorem outR_cnt {its : List Itm} {is ord asv : List Int} {R : List (List V)} {b : List Ent} {y : Ent} (h : y ∈ outR its is ord asv R b) : y.cnt = 1 := by
  obtain ⟨e, _, h1⟩ := List.mem_flatMap.1 h
  obtain ⟨n, _, rfl⟩ := List.mem_map.1 h1
  rfl

theorem outR_ok {its : List Itm} {is ord asv : List Int} {R : List (List V)} {b : List Ent} (ha : (outR its is ord asv R b).any longB = false) {y : Ent} (h : y ∈ outR its is ord asv R b) : EntOk y := by
  have h1 := outR_cnt h
  have h2 := List.any_eq_false.1 ha y h
  simp [longB] at h2
  exact ⟨h2, by omega, by omega⟩

end Go.AW

namespace Go.AW
variable [Draws]
attribute [local irreducible] ACalls
theorem norR_tuple (l : List Ent) : ∃ u v, norR l = .tuple [u, v] ∧ u.closed = true ∧ v.closed = true := by
  unfold norR resR
  split
  · exact ⟨_, _, rfl, rfl, rfl⟩
  · split
    · exact ⟨_, _, rfl, rfl, rfl⟩
    · exact ⟨_, _, rfl, rfl, rfl⟩

theorem rowW_at {C l : List (List V)} {q j : Nat} {r : List V} (hr : l[q]? = some r) (hj : C.length ≤ j) : rowW C l q = ⟨r ++ (C.take j).map (fun c => c.getD q zV), 1⟩ := by
  rw [rowW, List.getD_eq_getElem?_getD, hr, List.take_of_length_le hj]; rfl

set_option maxHeartbeats 2000000 in
set_option maxRecDepth 20000 in
theorem window_Apply_spec {P : Program} (F : F_window_Apply P) (hR : SortR P F.window_partitions.slices_SortFunc_LLValue_LValue.id F.window_partitions.window_partitions_1.id) (hS : SortL P F.bag_Normalize)
    (e1 e2 e3 e4 e5 : Bool) (its : List Itm) (is ord asv : List Int) (b : List Ent) (hI : its.length ≤ 1000) (hi : is.length ≤ 10000) (ho : ord.length ≤ 10000) (hA : asv.length ≤ 1000000) (H : List AObj) :
    ACalls P F.id [.list e1 5 (imC its), .list e2 1 (iC is), .list e3 1 (iC ord), .list e4 1 (iC asv), .list e5 2 (eC b)] H (fun r H' => r = appR its is ord asv b ∧ H' = H) := by
  refine ACalls.pure rfl (acalls_of_body F.has ?_)
  have hEx := bag_Expand_w F.bag_Expand e5 b
  have hRl := expP_len b
  have hRr := expP_row b
  have hRv := expP_valid b
  rw [appR]
  generalize hp : expP b = p at *
  obtain ⟨R, E0⟩ := p
  simp only [] at hRl hRr hRv ⊢
  (conv => whnf); refine ACalls.use (hEx _) ?_
  (conv => whnf); refine recA (fun h0 => ?_) (fun h0 => ?_)
  · replace h0 : (!(E0 == 0)) = true := h0
    simp at h0
    conv => whnf
    rw [if_pos h0]
    exact pub2 (.closed _ rfl) (.closed _ rfl)
  replace h0 : (!(E0 == 0)) = false := h0
  simp at h0
  rw [if_neg (by simp [h0])]
  (conv => whnf); refine ACalls.use (window_check_spec F.window_check e1 e4 false its asv R (by omega) hA (by omega) (fun r hr => by have := hRr r hr; omega) _) ?_
  (conv => whnf); refine recA (fun hc => ?_) (fun hc => ?_)
  · replace hc : (!(chkE its asv R == 0)) = true := hc
    simp at hc
    conv => whnf
    rw [if_pos hc]
    exact pub2 (.closed _ rfl) (.closed _ rfl)
  replace hc : (!(chkE its asv R == 0)) = false := hc
  simp at hc
  rw [if_neg (by simp [hc])]
  obtain ⟨hla, hitem⟩ := chkE_zero hc
  have hrv : ∀ r ∈ R, r.length ≤ 1000 ∧ r.all validB = true := fun r hr => ⟨by have := hRr r hr; omega, hRv r hr⟩
  (conv => whnf); refine ACalls.use (partitions_spec F.window_partitions hR false e2 e3 R is ord hRl hrv hi (by omega) _) ?_
  have hpf := fun l hl => parL_facts (is := is) (ord := ord) (R := R) (l := l) hl
  have hperm := parL_perm is ord R
  have hGl : (parL is ord R).length ≤ 4096 := by
    rw [parL, List.length_map, grpsK, List.length_map]
    have := kyS_len is R
    omega
  generalize hG : parL is ord R = G at *
  have hflat : ∀ k, (G.take k).flatten.length ≤ 4096 := fun k => by
    have h1 := hperm.length_eq
    conv at h1 => lhs; rw [← List.take_append_drop k G, List.flatten_append, List.length_append]
    omega
  have hout : ∀ k, (outW its asv ord (G.take k)).length ≤ 4096 := fun k => by rw [outW_length]; exact hflat k
  conv => whnf
  refine ⟨fun m ρ H1 => ∃ k : Nat, k + m = G.length ∧ H1 = [.arr 2 (eC (outW its asv ord (G.take k)))] ∧ Sv 102 [(0, .list e1 5 (imC its)), (2, .list e3 1 (iC ord)), (3, .list e4 1 (iC asv)), (15, .sl 0 (outW its asv ord (G.take k)).length 0 (outW its asv ord (G.take k)).length), (43, .list false 1 (ppC G)), (44, .int .i64 G.length), (45, .int .i64 k)] ρ, G.length, [(15, 2)], ?_, ?_⟩
  · exact ⟨0, by omega, rfl, Sv.intro rfl ⟨rfl, rfl, rfl, rfl, rfl, intEq (by rw [ppC_length]), rfl, trivial⟩⟩
  rintro m ρ H1 ⟨k, hk, rfl, d, rfl⟩
  (conv => whnf); refine recA (fun hlt => ?_) (fun hlt => ?_)
  · simp at hlt
    obtain ⟨l, hl, hld, hlm⟩ := get_drop hlt
    obtain ⟨hl1, hl2⟩ := hpf l hlm
    have hlv : ∀ r ∈ l, r.length ≤ 1000 ∧ r.all validB = true := fun r hr => hrv r (hl2 r hr)
    have hCl := colsW_length ord l its asv hla
    (conv => whnf); refine And.intro (by omega) ?_
    (conv => whnf); refine recO (ppC_at hl) ?_
    conv => whnf
    refine ⟨fun m' ρ H1 => ∃ j : Nat, j + m' = its.length ∧ H1 = [.arr 2 (eC (outW its asv ord (G.take k))), .arr 1 (rwC ((colsW ord l its asv).take j))] ∧ Sv 102 [(0, .list e1 5 (imC its)), (2, .list e3 1 (iC ord)), (3, .list e4 1 (iC asv)), (15, .sl 0 (outW its asv ord (G.take k)).length 0 (outW its asv ord (G.take k)).length), (17, .list false 1 (rwC l)), (18, .sl 1 j 0 j), (43, .list false 1 (ppC G)), (44, .int .i64 G.length), (45, .int .i64 k), (49, .list e1 5 (imC its)), (50, .int .i64 its.length), (51, .int .i64 j)] ρ, its.length, [(18, 1)], ?_, ?_⟩
    · exact ⟨0, by omega, rfl, Sv.intro rfl ⟨rfl, rfl, rfl, rfl, rfl, rfl, rfl, rfl, rfl, rfl, intEq (by rw [imC_length]), rfl, trivial⟩⟩
    rintro m' ρ H1 ⟨j, hj, rfl, d, rfl⟩
    (conv => whnf); refine recA (fun hlt2 => ?_) (fun hlt2 => ?_)
    · simp at hlt2
      obtain ⟨x, hx, _, hxm⟩ := get_drop hlt2
      obtain ⟨a, ha, _, _⟩ := get_drop (show j < asv.length by omega)
      have hcj := colsW_get ord l its asv j x a hx ha
      have hTl : ((colsW ord l its asv).take j).length = j := by rw [List.length_take]; omega
      (conv => whnf); refine And.intro (by omega) ?_
      (conv => whnf); refine recO (imC_at hx) ?_
      (conv => whnf); refine And.intro (by omega) ?_
      (conv => whnf); refine recO (iC_at ha) ?_
      (conv => whnf); refine ⟨_, column_spec F.window_column false e3 x l ord a (by omega) hlv (by omega) (itemE_lag (hitem j x a hx ha)) _, ?_⟩
      (conv => whnf); refine recT (by rw [rwC_length, hTl]; exact Nat.beq_refl _) ?_
      (conv => whnf); refine And.intro (⟨roomMul (by simp; omega) (by omega), roomB_le (by simp; omega), rfl, by rw [rwC_length, hTl]⟩) ?_
      conv => whnf
      have hT : (colsW ord l its asv).take (j + 1) = (colsW ord l its asv).take j ++ [colW x l ord a] := by rw [List.take_add_one, hcj]; rfl
      have hL : (rwC ((colsW ord l its asv).take j) ++ [[AVal.list false 3 (vC (colW x l ord a))]]).length = j + 1 := by rw [List.length_append, rwC_length, hTl]; rfl
      refine ⟨m' - 1, by omega, Gp.first 2 [.arr 2 (eC (outW its asv ord (G.take k))), .arr 1 (rwC ((colsW ord l its asv).take (j + 1)))] (by rw [hT, rwC_append]; rfl) rfl (by simp [pureO, pureEs_eC, pureEs_rwC]) rfl ?_ fun ρ1 h => ⟨j + 1, by omega, rfl, h⟩⟩
      exact ⟨clL .., clL .., clL .., pubSl (k := 0) rfl rfl rfl rfl, clL .., pubSl (k := 1) rfl rfl hL hL, clL .., .closed _ rfl, .closed _ rfl, clL .., .closed _ rfl, pub_int (wrapI _ (by omega) (by omega)), trivial⟩
    · simp at hlt2
      rw [List.take_of_length_le (show (colsW ord l its asv).length ≤ j by omega)]
      have hCn : ∀ c ∈ colsW ord l its asv, c.length = l.length := colsW_len ord l its asv
      have hO : outW its asv ord (G.take (k + 1)) = outW its asv ord (G.take k) ++ outP its asv ord l := by rw [List.take_add_one, hl, outW, outW, List.flatMap_append]; simp
      have hOl := hout (k + 1)
      rw [hO, List.length_append] at hOl
      have hPl : (outP its asv ord l).length = l.length := by rw [outP, List.length_map, List.length_range]
      have hPt : ∀ q, ((outP its asv ord l).take q).length ≤ l.length := fun q => by rw [List.length_take]; omega
      have hPg : ∀ q, q < l.length → (outP its asv ord l)[q]? = some (rowW (colsW ord l its asv) l q) := fun q hq => by rw [outP, List.getElem?_map, List.getElem?_range hq]; rfl
      have hj2 : j = (colsW ord l its asv).length := by omega
      rw [hj2]
      conv => whnf
      refine ⟨fun m'' ρ H1 => ∃ q : Nat, q + m'' = l.length ∧ H1 = [.arr 2 (eC (outW its asv ord (G.take k) ++ (outP its asv ord l).take q)), .arr 1 (rwC (colsW ord l its asv))] ∧ Sv 102 [(0, .list e1 5 (imC its)), (2, .list e3 1 (iC ord)), (3, .list e4 1 (iC asv)), (15, .sl 0 (outW its asv ord (G.take k) ++ (outP its asv ord l).take q).length 0 (outW its asv ord (G.take k) ++ (outP its asv ord l).take q).length), (18, .sl 1 (colsW ord l its asv).length 0 (colsW ord l its asv).length), (43, .list false 1 (ppC G)), (44, .int .i64 G.length), (45, .int .i64 k), (68, .list false 1 (rwC l)), (69, .int .i64 l.length), (70, .int .i64 q)] ρ, l.length, [], ?_, ?_⟩
      · exact ⟨0, by omega, by simp, Sv.intro rfl ⟨rfl, rfl, rfl, slEq (by simp) (by simp), rfl, rfl, rfl, rfl, rfl, intEq (by rw [rwC_length]), rfl, trivial⟩⟩
      rintro m'' ρ H1 ⟨q, hq, rfl, d, rfl⟩
      (conv => whnf); refine recA (fun hlt3 => ?_) (fun hlt3 => ?_)
      · simp at hlt3
        obtain ⟨r, hr1, _, hrm⟩ := get_drop hlt3
        have hrl := (hlv r hrm).1
        (conv => whnf); refine And.intro (by omega) ?_
        (conv => whnf); refine recO (rwC_at hr1) ?_
        conv => whnf
        refine ACalls.mono (CloneV_own F.slices_Clone_LValue_Value false r (by omega) _) ?_
        rintro rr H2 (⟨rfl, hr0, rfl⟩ | ⟨rfl, rfl⟩)
        · (conv => whnf); refine recT (by rw [rwC_length]; exact Nat.beq_refl _) ?_
          conv => whnf
          refine ⟨fun m3 ρ H1 => ∃ j : Nat, j + m3 = (colsW ord l its asv).length ∧ H1 = [.arr 2 (eC (outW its asv ord (G.take k) ++ (outP its asv ord l).take q)), .arr 1 (rwC (colsW ord l its asv)), .arr 3 (vC (r ++ ((colsW ord l its asv).take j).map fun c => c.getD q zV))] ∧ Sv 102 [(0, .list e1 5 (imC its)), (2, .list e3 1 (iC ord)), (3, .list e4 1 (iC asv)), (15, .sl 0 (outW its asv ord (G.take k) ++ (outP its asv ord l).take q).length 0 (outW its asv ord (G.take k) ++ (outP its asv ord l).take q).length), (18, .sl 1 (colsW ord l its asv).length 0 (colsW ord l its asv).length), (21, .int .i64 q), (22, .sl 2 (r.length + j) 0 (r.length + j)), (43, .list false 1 (ppC G)), (44, .int .i64 G.length), (45, .int .i64 k), (68, .list false 1 (rwC l)), (69, .int .i64 l.length), (70, .int .i64 q), (77, .sl 1 (colsW ord l its asv).length 0 (colsW ord l its asv).length), (78, .int .i64 (colsW ord l its asv).length), (79, .int .i64 j)] ρ, (colsW ord l its asv).length, [(22, 3)], ?_, ?_⟩
          · exact ⟨0, by omega, by simp [vC, hr0], Sv.intro rfl ⟨rfl, rfl, rfl, rfl, rfl, rfl, slEq (by simp [hr0]) (by simp [hr0]), rfl, rfl, rfl, rfl, rfl, rfl, rfl, rfl, rfl, trivial⟩⟩
          rintro m3 ρ H1 ⟨j, hj3, rfl, d, rfl⟩
          (conv => whnf); refine recA (fun hlt4 => ?_) (fun hlt4 => ?_)
          · simp at hlt4
            (conv => whnf); refine recT (by rw [rwC_length]; exact Nat.beq_refl _) ?_
            (conv => whnf); refine And.intro (by omega) ?_
            (conv => whnf); refine recT (by rw [rwC_length]; exact Nat.beq_refl _) ?_
            conv => whnf
            have hz := get_drop hlt4
            obtain ⟨c, hz2⟩ := hz
            have hcg := hz2.1
            have hcm := hz2.2.2
            have hcl := hCn c hcm
            have hz3 := get_drop (show q < c.length by omega)
            obtain ⟨v, hz4⟩ := hz3
            have hv := hz4.1
            have hTj : ((colsW ord l its asv).take (j + 1)).map (fun c => c.getD q zV) = ((colsW ord l its asv).take j).map (fun c => c.getD q zV) ++ [v] := by
              rw [List.take_add_one, hcg, List.map_append]
              simp [List.getD_eq_getElem?_getD, hv]
            have hrl2 : (r ++ ((colsW ord l its asv).take j).map fun c => c.getD q zV).length = r.length + j := by rw [List.length_append, List.length_map, List.length_take]; omega
            (conv => whnf); refine recO (by rw [Nat.zero_add]; exact rwC_at hcg) ?_
            (conv => whnf); refine And.intro (by omega) ?_
            (conv => whnf); refine recO (vC_at hv) ?_
            (conv => whnf); refine recT (by rw [vC_length, hrl2]; exact Nat.beq_refl _) ?_
            (conv => whnf); refine And.intro (⟨roomMul (by simp; omega) (by omega), roomB_le (by simp; omega), rfl, by rw [vC_length, hrl2]⟩) ?_
            conv => whnf
            have hL : (vC (r ++ ((colsW ord l its asv).take j).map fun c => c.getD q zV) ++ [valC v]).length = r.length + (j + 1) := by rw [List.length_append, vC_length, hrl2]; rfl
            refine ⟨m3 - 1, by omega, Gp.keep rfl ?_ fun ρ1 h => ⟨j + 1, by omega, ?_, h⟩⟩
            · exact ⟨rfl, rfl, rfl, rfl, rfl, rfl, slEq hL hL, rfl, rfl, rfl, rfl, rfl, rfl, rfl, rfl, intEq (wrapI _ (by omega) (by omega)), trivial⟩
            · have hfin : vC (r ++ ((colsW ord l its asv).take (j + 1)).map fun c => c.getD q zV) = vC (r ++ ((colsW ord l its asv).take j).map fun c => c.getD q zV) ++ [valC v] := by rw [hTj, ← List.append_assoc]; exact vC_append _ _
              rw [hfin]; rfl
          · simp at hlt4
            have hrow := rowW_at (C := colsW ord l its asv) hr1 hlt4
            have hPq : outW its asv ord (G.take k) ++ (outP its asv ord l).take (q + 1) = (outW its asv ord (G.take k) ++ (outP its asv ord l).take q) ++ [⟨r ++ ((colsW ord l its asv).take j).map (fun c => c.getD q zV), 1⟩] := by
              rw [List.take_add_one, hPg q hlt3, hrow, List.append_assoc]; rfl
            have hrl3 : (r ++ ((colsW ord l its asv).take j).map fun c => c.getD q zV).length = r.length + j := by rw [List.length_append, List.length_map, List.length_take]; omega
            (conv => whnf); refine recT (by rw [eC_length]; exact Nat.beq_refl _) ?_
            (conv => whnf); refine And.intro (⟨roomMul (by simp; omega) (by omega), roomB_le (by simp; omega), rfl, by rw [eC_length]⟩) ?_
            conv => whnf
            have hOl2 : (eC (outW its asv ord (G.take k) ++ (outP its asv ord l).take q) ++ [[AVal.sl 2 (r.length + j) 0 (r.length + j), .int .i64 1]]).length = (outW its asv ord (G.take k) ++ (outP its asv ord l).take (q + 1)).length := by rw [hPq, List.length_append, List.length_append, eC_length]; rfl
            refine ⟨m'' - 1, by omega, Gp.some (H1 := [.arr 2 (eC (outW its asv ord (G.take k) ++ (outP its asv ord l).take (q + 1))), .arr 1 (rwC (colsW ord l its asv))]) [0, 1] (by simp) ⟨⟨_, rfl, ?_⟩, ⟨⟨_, rfl, .same _ _ (pureEs_rwC _)⟩, trivial⟩⟩ rfl ?_ fun ρ1 h => ⟨q + 1, by omega, rfl, h⟩⟩
            · rw [hPq]
              exact obPushI (outW its asv ord (G.take k) ++ (outP its asv ord l).take q) (r ++ ((colsW ord l its asv).take j).map fun c => c.getD q zV) 1 (r.length + j) 2 [0, 1] _ (by simp) rfl hrl3.symm
            · exact ⟨clL .., clL .., clL .., pubSl (k := 0) rfl rfl hOl2 hOl2, .keep 1 _ _ _ 1 rfl, clL .., .closed _ rfl, .closed _ rfl, clL .., .closed _ rfl, pub_int (wrapI _ (by omega) (by omega)), trivial⟩
        · (conv => whnf); refine recT (by rw [rwC_length]; exact Nat.beq_refl _) ?_
          conv => whnf
          refine ⟨fun m3 ρ H1 => ∃ j : Nat, j + m3 = (colsW ord l its asv).length ∧ H1 = [.arr 2 (eC (outW its asv ord (G.take k) ++ (outP its asv ord l).take q)), .arr 1 (rwC (colsW ord l its asv)), .arr 3 (vC (r ++ ((colsW ord l its asv).take j).map fun c => c.getD q zV))] ∧ Sv 102 [(0, .list e1 5 (imC its)), (2, .list e3 1 (iC ord)), (3, .list e4 1 (iC asv)), (15, .sl 0 (outW its asv ord (G.take k) ++ (outP its asv ord l).take q).length 0 (outW its asv ord (G.take k) ++ (outP its asv ord l).take q).length), (18, .sl 1 (colsW ord l its asv).length 0 (colsW ord l its asv).length), (21, .int .i64 q), (22, .sl 2 (r.length + j) 0 (r.length + j)), (43, .list false 1 (ppC G)), (44, .int .i64 G.length), (45, .int .i64 k), (68, .list false 1 (rwC l)), (69, .int .i64 l.length), (70, .int .i64 q), (77, .sl 1 (colsW ord l its asv).length 0 (colsW ord l its asv).length), (78, .int .i64 (colsW ord l its asv).length), (79, .int .i64 j)] ρ, (colsW ord l its asv).length, [], ?_, ?_⟩
          · exact ⟨0, by omega, by simp, Sv.intro rfl ⟨rfl, rfl, rfl, rfl, rfl, rfl, rfl, rfl, rfl, rfl, rfl, rfl, rfl, rfl, rfl, rfl, trivial⟩⟩
          rintro m3 ρ H1 ⟨j, hj3, rfl, d, rfl⟩
          (conv => whnf); refine recA (fun hlt4 => ?_) (fun hlt4 => ?_)
          · simp at hlt4
            (conv => whnf); refine recT (by rw [rwC_length]; exact Nat.beq_refl _) ?_
            (conv => whnf); refine And.intro (by omega) ?_
            (conv => whnf); refine recT (by rw [rwC_length]; exact Nat.beq_refl _) ?_
            conv => whnf
            have hz := get_drop hlt4
            obtain ⟨c, hz2⟩ := hz
            have hcg := hz2.1
            have hcm := hz2.2.2
            have hcl := hCn c hcm
            have hz3 := get_drop (show q < c.length by omega)
            obtain ⟨v, hz4⟩ := hz3
            have hv := hz4.1
            have hTj : ((colsW ord l its asv).take (j + 1)).map (fun c => c.getD q zV) = ((colsW ord l its asv).take j).map (fun c => c.getD q zV) ++ [v] := by
              rw [List.take_add_one, hcg, List.map_append]
              simp [List.getD_eq_getElem?_getD, hv]
            have hrl2 : (r ++ ((colsW ord l its asv).take j).map fun c => c.getD q zV).length = r.length + j := by rw [List.length_append, List.length_map, List.length_take]; omega
            (conv => whnf); refine recO (by rw [Nat.zero_add]; exact rwC_at hcg) ?_
            (conv => whnf); refine And.intro (by omega) ?_
            (conv => whnf); refine recO (vC_at hv) ?_
            (conv => whnf); refine recT (by rw [vC_length, hrl2]; exact Nat.beq_refl _) ?_
            (conv => whnf); refine And.intro (⟨roomMul (by simp; omega) (by omega), roomB_le (by simp; omega), rfl, by rw [vC_length, hrl2]⟩) ?_
            conv => whnf
            have hL : (vC (r ++ ((colsW ord l its asv).take j).map fun c => c.getD q zV) ++ [valC v]).length = r.length + (j + 1) := by rw [List.length_append, vC_length, hrl2]; rfl
            refine ⟨m3 - 1, by omega, Gp.keep rfl ?_ fun ρ1 h => ⟨j + 1, by omega, ?_, h⟩⟩
            · exact ⟨rfl, rfl, rfl, rfl, rfl, rfl, slEq hL hL, rfl, rfl, rfl, rfl, rfl, rfl, rfl, rfl, intEq (wrapI _ (by omega) (by omega)), trivial⟩
            · have hfin : vC (r ++ ((colsW ord l its asv).take (j + 1)).map fun c => c.getD q zV) = vC (r ++ ((colsW ord l its asv).take j).map fun c => c.getD q zV) ++ [valC v] := by rw [hTj, ← List.append_assoc]; exact vC_append _ _
              rw [hfin]; rfl
          · simp at hlt4
            have hrow := rowW_at (C := colsW ord l its asv) hr1 hlt4
            have hPq : outW its asv ord (G.take k) ++ (outP its asv ord l).take (q + 1) = (outW its asv ord (G.take k) ++ (outP its asv ord l).take q) ++ [⟨r ++ ((colsW ord l its asv).take j).map (fun c => c.getD q zV), 1⟩] := by
              rw [List.take_add_one, hPg q hlt3, hrow, List.append_assoc]; rfl
            have hrl3 : (r ++ ((colsW ord l its asv).take j).map fun c => c.getD q zV).length = r.length + j := by rw [List.length_append, List.length_map, List.length_take]; omega
            (conv => whnf); refine recT (by rw [eC_length]; exact Nat.beq_refl _) ?_
            (conv => whnf); refine And.intro (⟨roomMul (by simp; omega) (by omega), roomB_le (by simp; omega), rfl, by rw [eC_length]⟩) ?_
            conv => whnf
            have hOl2 : (eC (outW its asv ord (G.take k) ++ (outP its asv ord l).take q) ++ [[AVal.sl 2 (r.length + j) 0 (r.length + j), .int .i64 1]]).length = (outW its asv ord (G.take k) ++ (outP its asv ord l).take (q + 1)).length := by rw [hPq, List.length_append, List.length_append, eC_length]; rfl
            refine ⟨m'' - 1, by omega, Gp.some (H1 := [.arr 2 (eC (outW its asv ord (G.take k) ++ (outP its asv ord l).take (q + 1))), .arr 1 (rwC (colsW ord l its asv))]) [0, 1] (by simp) ⟨⟨_, rfl, ?_⟩, ⟨⟨_, rfl, .same _ _ (pureEs_rwC _)⟩, trivial⟩⟩ rfl ?_ fun ρ1 h => ⟨q + 1, by omega, rfl, h⟩⟩
            · rw [hPq]
              exact obPushI (outW its asv ord (G.take k) ++ (outP its asv ord l).take q) (r ++ ((colsW ord l its asv).take j).map fun c => c.getD q zV) 1 (r.length + j) 2 [0, 1] _ (by simp) rfl hrl3.symm
            · exact ⟨clL .., clL .., clL .., pubSl (k := 0) rfl rfl hOl2 hOl2, .keep 1 _ _ _ 1 rfl, clL .., .closed _ rfl, .closed _ rfl, clL .., .closed _ rfl, pub_int (wrapI _ (by omega) (by omega)), trivial⟩
      · simp at hlt3
        rw [List.take_of_length_le (show (outP its asv ord l).length ≤ q by omega)] 
        conv => whnf
        refine ⟨m - 1, by omega, Gp.one 0 2 (eC (outW its asv ord (G.take k) ++ outP its asv ord l)) rfl (pureEs_eC _) rfl ?_ fun ρ1 h => ⟨k + 1, by omega, by rw [hO], by rw [hO]; exact h⟩⟩
        exact ⟨clL .., clL .., clL .., pubSl (k := 0) rfl rfl rfl rfl, clL .., .closed _ rfl, pub_int (wrapI _ (by omega) (by omega)), trivial⟩
  · simp at hlt
    have hkG : k = G.length := by omega
    have hTk : G.take k = G := List.take_of_length_le hlt
    have hO := hout k
    conv => whnf
    refine Ghost.none (n := 102) (live := [(15, .list false 2 (eC (outW its asv ord G)))]) rfl ⟨?_, trivial⟩ ?_
    · rw [hTk]
      exact pubF rfl (eC_length _).symm (eC_length _).symm (pureEs_eC _)
    rintro ρ ⟨d, rfl⟩
    rw [hTk] at hO
    (conv => whnf); refine ACalls.use (bag_Normalize_spec F.bag_Normalize hS false (outW its asv ord G) (by omega) _) ?_
    obtain ⟨u, v, huv⟩ := norR_tuple (outW its asv ord G)
    rw [huv.1]
    conv => whnf
    exact pub2 (.closed _ huv.2.1) (.closed _ huv.2.2)

end Go.AW

namespace Go.AW
variable [Draws]
theorem numV_valid (n : Int) : validB (numV n) = true := by
  unfold numV
  split
  · exact zV_valid
  · rename_i h
    simp [validB, bs]; omega

theorem atW_valid {l : List (List V)} (h : ∀ r ∈ l, r.all validB = true) (p a : Int) : validB (atW l p a) = true := by
  unfold atW
  split
  · rename_i hp
    refine celV_valid ?_ a
    have hlt : p.toNat < l.length := by omega
    rw [List.getD_eq_getElem?_getD, List.getElem?_eq_getElem hlt]
    exact h _ (List.getElem_mem _)
  · exact zV_valid

theorem valR_valid (x : Itm) {l : List (List V)} (h : ∀ r ∈ l, r.all validB = true) (ord : List Int) (a : Int) (p : Nat) : validB (valR x l ord a p) = true := by
  unfold valR winV
  repeat' split
  all_goals first | exact numV_valid _ | exact zV_valid | exact atW_valid h _ _

theorem valsR_valid (ord : List Int) {l : List (List V)} (h : ∀ r ∈ l, r.all validB = true) (p : Nat) : ∀ (its : List Itm) (asv : List Int), (valsR ord l p its asv).all validB = true
  | [], _ => by simp [valsR]
  | _ :: _, [] => by simp [valsR]
  | x :: xs, a :: asv => by rw [valsR, List.all_cons, valR_valid x h, valsR_valid ord h p xs asv]; rfl

theorem outR_valid {its : List Itm} {is ord asv : List Int} {R : List (List V)} {b : List Ent} (hR : ∀ r ∈ R, r.all validB = true) (hb : ∀ e ∈ b, e.row.all validB = true) {y : Ent} (h : y ∈ outR its is ord asv R b) : y.row.all validB = true := by
  obtain ⟨e, he, h1⟩ := List.mem_flatMap.1 h
  obtain ⟨n, _, rfl⟩ := List.mem_map.1 h1
  rw [rowX, List.all_append, hb e he, valsR_valid ord (fun r hr => hR r (mem_rows is ord e.row R hr))]; rfl

theorem fit_one {y : Ent} (hc : y.cnt = 1) (hv : y.row.all validB = true) : fitB y = if longB y = true then 2 else 0 := by
  unfold fitB longB
  rw [hc, hv]
  by_cases h : 12 < y.row.length
  · rw [if_pos (.inl h), if_pos (by simpa using h)]
  · rw [if_neg (by omega), if_pos rfl, if_neg (by simpa using h)]

theorem frmE_long : ∀ (l : List Ent), (∀ y ∈ l, fitB y = if longB y = true then 2 else 0) → frmE l = if l.any longB = true then 2 else 0
  | [], _ => rfl
  | x :: l, h => by
    rw [frmE, h x (List.mem_cons_self ..), frmE_long l fun y hy => h y (List.mem_cons_of_mem _ hy), List.any_cons]
    by_cases hx : longB x = true
    · rw [if_pos hx, hx]; simp
    · have hx : longB x = false := by simpa using hx
      rw [if_neg (by simp [hx]), hx]; simp

theorem any_perm {α : Type} {p : α → Bool} {a b : List α} (h : a.Perm b) : a.any p = b.any p := by
  rw [Bool.eq_iff_iff, List.any_eq_true, List.any_eq_true]
  exact ⟨fun ⟨x, hx, hp⟩ => ⟨x, h.mem_iff.1 hx, hp⟩, fun ⟨x, hx, hp⟩ => ⟨x, h.mem_iff.2 hx, hp⟩⟩

theorem app_ref (its : List Itm) (is ord asv : List Int) (b : List Ent) : appR its is ord asv b = tR (refP its is ord asv b) := by
  unfold appR refP
  by_cases h0 : (expP b).2 ≠ 0
  · rw [if_pos h0, if_pos h0, tR, if_pos h0]
  rw [if_neg h0, if_neg h0]
  by_cases hc : chkE its asv (expP b).1 ≠ 0
  · rw [if_pos hc, if_pos hc, tR, if_pos hc]
  rw [if_neg hc, if_neg hc]
  obtain ⟨hb0, hpos, hR⟩ := expP_ok (nz0 h0)
  have hvb : ∀ e ∈ b, e.row.all validB = true := fun e he => (bag_rowOk hb0 e he).2
  have hvR := expP_valid b
  have hp := out_perm its is ord asv (bag_srt hb0) hvb hpos
  rw [← hR] at hp
  have hfit : ∀ y ∈ outW its asv ord (parL is ord (expP b).1), fitB y = if longB y = true then 2 else 0 := fun y hy => by
    have hy := hp.mem_iff.1 hy
    exact fit_one (outR_cnt hy) (outR_valid hvR hvb hy)
  rw [norR_P, norP, frmE_long _ hfit, any_perm hp]
  by_cases hl : (outR its is ord asv (expP b).1 b).any longB = true
  · simp [hl]
  · have hl : (outR its is ord asv (expP b).1 b).any longB = false := by simpa using hl
    simp only [hl]
    have := sumP_ext (cntL_perm hp)
    simp [this]

theorem refP_good (its : List Itm) (is ord asv : List Int) (b : List Ent) : Good (refP its is ord asv b) := by
  unfold refP
  split
  · exact good_err _
  · rename_i h0
    split
    · exact good_err _
    · split
      · exact good_err _
      · rename_i hl
        obtain ⟨hb0, _, _⟩ := expP_ok (nz0 h0)
        refine sumP_good fun y hy => ⟨?_, outR_valid (expP_valid b) (fun e he => (bag_rowOk hb0 e he).2) hy⟩
        exact (outR_ok (by simpa using hl) hy).1

section
variable {P : Program}
theorem window_Apply_w (F : F_window_Apply P) (hR : SortR P F.window_partitions.slices_SortFunc_LLValue_LValue.id F.window_partitions.window_partitions_1.id) (hS : SortL P F.bag_Normalize)
    (e1 e2 e3 e4 e5 : Bool) (its : List Itm) (is ord asv : List Int) (b : List Ent) (hI : its.length ≤ 1000) (hi : is.length ≤ 10000) (ho : ord.length ≤ 10000) (hA : asv.length ≤ 1000000) (H : List AObj) :
    ACalls P F.id [.list e1 5 (imC its), .list e2 1 (iC is), .list e3 1 (iC ord), .list e4 1 (iC asv), .list e5 2 (eC b)] H (fun r H' => r = rV (refP its is ord asv b) ∧ H' = H) :=
  (window_Apply_spec F hR hS e1 e2 e3 e4 e5 its is ord asv b hI hi ho hA H).goodW (app_ref its is ord asv b) (refP_good its is ord asv b)

end
end Go.AW

namespace Go.AW
variable [Draws]
attribute [local irreducible] ACalls
def itmN (x : Itm) : List AVal := [.str x.nm, .int .i64 x.f, .str x.cl, .int .i64 x.n, .nil]

def imN (l : List Itm) : List (List AVal) := l.map itmN

theorem wk_items (b : Bool) (l : List Itm) (h : ∀ x ∈ l, x.es = []) : WkD (.list b 5 (imN l)) (.list b 5 (imC l)) := by
  refine .list b b 5 _ _ (fun h => h) (by simp [imN, imC]) (fun i e f h1 h2 => ?_) (fun i j f c h1 h2 => ?_) (fun i j e f d c h1 h2 h3 h4 => ?_)
  · rw [imN, List.getElem?_map] at h1
    rw [imC, List.getElem?_map] at h2
    cases hx : l[i]? with
    | none => rw [hx] at h1; cases h1
    | some x => rw [hx] at h1 h2; cases h1; cases h2; rfl
  · rw [imC, List.getElem?_map] at h1
    cases hx : l[i]? with
    | none => rw [hx] at h1; cases h1
    | some x =>
      rw [hx] at h1; cases h1
      exact List.all_eq_true.1 (itmC_cell x) c (List.mem_of_getElem? h2)
  · rw [imN, List.getElem?_map] at h1
    rw [imC, List.getElem?_map] at h2
    cases hx : l[i]? with
    | none => rw [hx] at h1; cases h1
    | some x =>
      rw [hx] at h1 h2; cases h1; cases h2
      match j, h3, h4 with
      | 0, h3, h4 => cases h3; cases h4; exact .refl _
      | 1, h3, h4 => cases h3; cases h4; exact .refl _
      | 2, h3, h4 => cases h3; cases h4; exact .refl _
      | 3, h3, h4 => cases h3; cases h4; exact .refl _
      | 4, h3, h4 =>
        cases h3; cases h4
        rw [h x (List.mem_of_getElem? hx)]
        exact .nil _ _
      | j + 5, h3, h4 => simp [itmN] at h3

def itm0 (f n : Int) : Itm := ⟨bs [], f, bs [], n, false, 0, []⟩

def oneV (n : Int) : V := ⟨2, n, bs []⟩

def kn18 : List Ent := [⟨[oneV 1], 2⟩, ⟨[oneV 2], 1⟩]

theorem kn18_ref : refP [itm0 9 0, itm0 8 0] [] [0] [-1, -1] kn18 = ([⟨[oneV 1, oneV 1, oneV 1], 1⟩, ⟨[oneV 1, oneV 1, oneV 2], 1⟩, ⟨[oneV 2, oneV 3, oneV 3], 1⟩], 0) := by kernel_rfl

abbrev SortW (P : Program) (F : F_window_Apply P) : Prop := SortR P F.window_partitions.slices_SortFunc_LLValue_LValue.id F.window_partitions.window_partitions_1.id

set_option maxRecDepth 20000 in
theorem known18_spec {P : Program} (F : F_warehouselaw18_known P) (hS : SortL P F.window_Apply.bag_Normalize) (hQ : SortW P F.window_Apply) (H : List AObj) :
    ACalls P F.id [] H (fun r H' => r = .bool true ∧ H' = H) := by
  refine ACalls.pure rfl (acalls_of_body F.has ?_)
  have ha := fun H => window_Apply_w F.window_Apply hQ hS true false true true false [itm0 9 0, itm0 8 0] [] [0] [-1, -1] kn18 (by decide) (by decide) (by decide) (by decide) H
  rw [kn18_ref] at ha
  have hb := fun H => ACalls.weakD (args := [.list true 5 (imN [itm0 9 0, itm0 8 0]), .nil, .list true 1 (iC [0]), .list true 1 (iC [-1, -1]), .list true 2 [[.list true 3 (vC [oneV 1]), .int .i64 2], [.list true 3 (vC [oneV 2]), .int .i64 1]]]) (ha H) (.cons (wk_items _ _ (by intro x hx; simp at hx; rcases hx with rfl | rfl <;> rfl)) (.cons (.nil _ _) (.cons (.refl _) (.cons (.refl _) (.cons (eT_wk true kn18) .nil)))))
  (conv => whnf); refine ACalls.use (hb _) ?_
  repeat ((conv => whnf); refine And.intro (by decide) ?_)
  conv => whnf
  exact .closed _ rfl

end Go.AW

