/-
  An abstract machine over the model, the code of functions on it, and their contracts: what the claim needs.
  No condition: definitions, plain laws, contracts over any program that has this code.
-/
import Derived.Test.YtdffiibjghcobaaGreatZ7
set_option linter.all false
namespace Go.AW
variable [Draws]
attribute [local irreducible] ACalls
theorem cou_step {s : Sou} {x : Del} {i j : Nat} {r : Rec} {rs : List Rec} : (if eqS x.f.src s.name then couR s i x.jd j (r :: rs) else []) = (if countB s x j r then [(⟨r, i, j⟩ : Ver)] else []) ++ (if eqS x.f.src s.name then couR s i x.jd (j + 1) rs else []) := by
 unfold countB
 by_cases h : eqS x.f.src s.name = true
 ·rw [if_pos h, if_pos h, couR, h]
  by_cases h2 : j < x.jd.length ∧ x.jd.getD j 1 = 0 ∧ fitsV s r = 0
  ·rw [if_pos h2, if_pos (by obtain ⟨a, b, c⟩ := h2; simp only [Bool.true_and, Bool.and_eq_true, decide_eq_true_eq, beq_iff_eq]; exact ⟨a, b, c⟩)]; rfl
  ·rw [if_neg h2, if_neg (by simp only [Bool.true_and, Bool.and_eq_true, decide_eq_true_eq, beq_iff_eq]; exact h2)]; rfl
 ·rw [if_neg h, if_neg h, if_neg (by simp [h])]; rfl
theorem keepB_three {a b c : Nat} {ids : List Nat} {H : List AObj} {o1 o2 o3 : AObj} (h1 : ids[0]? = some 0) (h2 : H[0]? = some o1) (h3 : o1.olen = a) (g1 : ids[1]? = some 1) (g2 : H[1]? = some o2) (g3 : o2.olen = b) (k1 : ids[2]? = some 2) (k2 : H[2]? = some o3) (k3 : o3.olen = c) : keepB [a, b, c] ids H := fun k n hk => by
 rcases k with _ | _ | _ | k
 ·simp at hk; subst hk; exact ⟨h1, _, h2, h3⟩
 ·simp at hk; subst hk; exact ⟨g1, _, g2, g3⟩
 ·simp at hk; subst hk; exact ⟨k1, _, k2, k3⟩
 ·simp at hk
abbrev bL (l : List Del) : AObj := .arr 1 [ledC l]
abbrev bS (s : Sou) : AObj := .arr 7 [souC s]
abbrev bX (x : Del) : AObj := .arr 4 [delC x]
abbrev cN (k n : Nat) : AObj := .arr 1 [[.sl k n 0 n]]
theorem pureL (l : List Del) : pureO (bL l) = true := rfl
theorem pureX (x : Del) : pureO (bX x) = true := rfl
theorem count_ne {s : Sou} {x : Del} {j : Nat} {r : Rec} (hc : s.cols ≠ []) (h : countB s x j r = true) : r.row ≠ [] := by
 unfold countB at h
 simp only [Bool.and_eq_true, beq_iff_eq] at h
 have := fits_len h.2.2.2
 intro e
 rw [e] at this
 exact hc (List.eq_nil_of_length_eq_zero this.symm)
set_option maxHeartbeats 2000000 in
set_option maxRecDepth 20000 in
theorem each_spec {P : Program} (F : F_z10 P) (G : F_z0w P) (s : Sou) (hs : s.ok) (hc : s.cols ≠ []) (l : List Del) (hl : l.length ≤ 100) (hok : ∀ x ∈ l, x.ok) :
  ACalls P F.id [.agg (ledC l), .agg (souC s), .fn G.id [.ptr 2 1 0 0]] [bL l, bS s, .arr 1 [[.nil]]]
   (fun r H' => r = .tuple [] ∧ ((couL s 0 l = [] ∧ H' = [bL l, bS s, .arr 1 [[.nil]], bL l, bS s]) ∨ (couL s 0 l ≠ [] ∧ H' = [bL l, bS s, cN 5 (couL s 0 l).length, bL l, bS s, vO (couL s 0 l)]))) := by
 refine acalls_of_body F.has ?_
 conv => whnf
 refine ⟨fun m ρ H1 => ∃ (k : Nat) (U : List Ver), k + m = l.length ∧ U.length ≤ 1000 * k ∧ U ++ couL s k (l.drop k) = couL s 0 l ∧ ((U = [] ∧ H1 = [bL l, bS s, .arr 1 [[.nil]], bL l, bS s]) ∨ (U ≠ [] ∧ H1 = [bL l, bS s, cN 5 U.length, bL l, bS s, vO U])) ∧
  Sv 38 [(2, .fn G.id [.ptr 2 1 0 0]), (3, .ptr 3 1 0 0), (4, .ptr 4 1 0 0), (11, .list false 4 (dsC l)), (12, .int .i64 l.length), (13, .int .i64 k)] ρ, l.length, [], ?_, ?_⟩
 ·exact ⟨0, [], by omega, by simp, rfl, .inl ⟨rfl, rfl⟩, Sv.intro rfl ⟨rfl, rfl, rfl, rfl, intEq (by rw [dsC_length]), rfl, trivial⟩⟩
 rintro m ρ H1 ⟨k, U, hk, hU, hr, hH, d, rfl⟩
 have fin : ∀ H : List AObj, ((U = [] ∧ H = [bL l, bS s, .arr 1 [[.nil]], bL l, bS s]) ∨ (U ≠ [] ∧ H = [bL l, bS s, cN 5 U.length, bL l, bS s, vO U])) → l.length ≤ k → ((couL s 0 l = [] ∧ H = [bL l, bS s, .arr 1 [[.nil]], bL l, bS s]) ∨ (couL s 0 l ≠ [] ∧ H = [bL l, bS s, cN 5 (couL s 0 l).length, bL l, bS s, vO (couL s 0 l)])) := fun H h hkl => by
  rw [List.drop_of_length_le hkl, couL, List.append_nil] at hr
  rw [← hr]; exact h
 rcases hH with ⟨rfl, rfl⟩ | ⟨hne, rfl⟩
 ·(conv => whnf); refine recA (fun hlt => ?_) (fun hlt => ?_)
  ·simp at hlt
   have hx : l[k]? = some l[k] := List.getElem?_eq_getElem hlt
   obtain ⟨x1, x2, x3⟩ := hok _ (List.getElem_mem hlt)
   generalize l[k] = x at hx x1 x2 x3
   rw [drop_cons hx, couL] at hr
   (conv => whnf); refine And.intro (by omega) ?_
   (conv => whnf); refine recO (dsC_at hx) ?_
   conv => whnf
   refine ⟨fun m2 ρ H1 => ∃ (j : Nat) (U : List Ver) (p : Nat), j + m2 = x.f.recs.length ∧ U.length ≤ 1000 * k + j ∧ U ++ ((if eqS x.f.src s.name then couR s k x.jd j (x.f.recs.drop j) else []) ++ couL s (k + 1) (l.drop (k + 1))) = couL s 0 l ∧ ((U = [] ∧ p = 5 ∧ H1 = [bL l, bS s, .arr 1 [[.nil]], bL l, bS s, bX x]) ∨ (U ≠ [] ∧ p = 6 ∧ H1 = [bL l, bS s, cN 5 U.length, bL l, bS s, vO U, bX x])) ∧ Sv 38 [(2, .fn G.id [.ptr 2 1 0 0]), (3, .ptr 3 1 0 0), (4, .ptr 4 1 0 0), (6, .int .i64 k), (7, .ptr p 1 0 0), (11, .list false 4 (dsC l)), (12, .int .i64 l.length), (13, .int .i64 k), (20, .list false 3 (rC x.f.recs)), (21, .int .i64 x.f.recs.length), (22, .int .i64 j)] ρ, x.f.recs.length, [], ?_, ?_⟩
   ·exact ⟨0, [], 5, by omega, by omega, hr, .inl ⟨rfl, rfl, rfl⟩, Sv.intro rfl ⟨rfl, rfl, rfl, rfl, rfl, rfl, rfl, rfl, rfl, intEq (by rw [rC_length]), rfl, trivial⟩⟩
   clear hr hU fin
   rintro m2 ρ H1 ⟨j, U, p, hj, hU, hr, hH, d, rfl⟩
   have ek : IntKind.i64.wrap ((k : Int) + 1) = ((k + 1 : Nat) : Int) := by rw [wrapI _ (by omega) (by omega)]; omega
   rcases hH with ⟨rfl, rfl, rfl⟩ | ⟨hne, rfl, rfl⟩
   ·(conv => whnf); refine recA (fun hlt2 => ?_) (fun hlt2 => ?_)
    ·simp [rC_length] at hlt2
     have hrx : x.f.recs[j]? = some x.f.recs[j] := List.getElem?_eq_getElem hlt2
     have hrl := x2 _ (List.getElem_mem hlt2)
     generalize x.f.recs[j] = r at hrx hrl
     rw [drop_cons hrx, cou_step] at hr
     have ej : IntKind.i64.wrap ((j : Int) + 1) = ((j + 1 : Nat) : Int) := by rw [wrapI _ (by omega) (by omega)]; omega
     (conv => whnf); refine And.intro (by omega) ?_
     (conv => whnf); refine recO (rC_at hrx) ?_
     (conv => whnf); refine ACalls.use (counts_spec F.z0z s hs x j r hrx (by omega) hrl _) ?_
     (conv => whnf); refine recA (fun hcb => ?_) (fun hcb => ?_)
     ·rw [if_pos hcb] at hr
      have hn : r.row ≠ [] := count_ne hc hcb
      (conv => whnf); refine ACalls.retH (closure_nilF G k j r hn hrl _ _ _ _ _ _) ?_
      conv => whnf
      refine ⟨m2 - 1, by omega, Gp.keepL (H1 := [bL l, bS s, cN 5 1, bL l, bS s, vO [⟨r, k, j⟩], bX x]) [0, 1, 2, 3, 4, 7, 5] (by simp) (keepB_three rfl rfl rfl rfl rfl rfl rfl rfl rfl)
       ⟨⟨_, rfl, .same _ _ (pureL l)⟩, ⟨_, rfl, .same _ _ (pureS s)⟩, ⟨_, rfl, ob11 (.keep 7 _ _ _ 5 rfl) rfl⟩, ⟨_, rfl, .same _ _ (pureL l)⟩, ⟨_, rfl, .same _ _ (pureS s)⟩, ⟨_, rfl, .same _ _ (pureEs_vsC [⟨r, k, j⟩])⟩, ⟨_, rfl, .same _ _ (pureX x)⟩, trivial⟩ rfl ?_ fun ρ1 h => ⟨j + 1, [⟨r, k, j⟩], 6, by omega, by simp; omega, by rw [← hr]; simp, .inr ⟨by simp, rfl, rfl⟩, h⟩⟩
      exact ⟨.fnc _ _ _ rfl (fun i v q h1 h2 => by obtain ⟨rfl, rfl⟩ := one_get h1; cases h2; exact .keepP 2 1 0 0 2 rfl), .keepP 3 1 0 0 3 rfl, .keepP 4 1 0 0 4 rfl, .closed _ rfl, .keepP 5 1 0 0 6 rfl, .closed (.list false 4 (dsC l)) rfl, .closed _ rfl, .closed _ rfl, .closed (.list false 3 (rC x.f.recs)) rfl, .closed _ rfl, pub_int ej, trivial⟩
     ·rw [if_neg (by rw [hcb]; simp), List.nil_append] at hr
      conv => whnf
      refine ⟨m2 - 1, by omega, Gp.keepL (H1 := [bL l, bS s, .arr 1 [[.nil]], bL l, bS s, bX x]) [0, 1, 2, 3, 4, 5] (by simp) (keepB_three rfl rfl rfl rfl rfl rfl rfl rfl rfl)
       ⟨⟨_, rfl, .same _ _ (pureL l)⟩, ⟨_, rfl, .same _ _ (pureS s)⟩, ⟨_, rfl, .same _ _ rfl⟩, ⟨_, rfl, .same _ _ (pureL l)⟩, ⟨_, rfl, .same _ _ (pureS s)⟩, ⟨_, rfl, .same _ _ (pureX x)⟩, trivial⟩ rfl ?_ fun ρ1 h => ⟨j + 1, [], 5, by omega, by simp, hr, .inl ⟨rfl, rfl, rfl⟩, h⟩⟩
      exact ⟨.fnc _ _ _ rfl (fun i v q h1 h2 => by obtain ⟨rfl, rfl⟩ := one_get h1; cases h2; exact .keepP 2 1 0 0 2 rfl), .keepP 3 1 0 0 3 rfl, .keepP 4 1 0 0 4 rfl, .closed _ rfl, .keepP 5 1 0 0 5 rfl, .closed (.list false 4 (dsC l)) rfl, .closed _ rfl, .closed _ rfl, .closed (.list false 3 (rC x.f.recs)) rfl, .closed _ rfl, pub_int ej, trivial⟩
    ·simp [rC_length] at hlt2
     rw [List.drop_of_length_le hlt2] at hr
     have hr2 : [] ++ couL s (k + 1) (l.drop (k + 1)) = couL s 0 l := by rw [← hr]; simp [couR]
     conv => whnf
     refine ⟨m - 1, by omega, Gp.keepL (H1 := [bL l, bS s, .arr 1 [[.nil]], bL l, bS s]) [0, 1, 2, 3, 4] (by simp) (keepB_three rfl rfl rfl rfl rfl rfl rfl rfl rfl)
      ⟨⟨_, rfl, .same _ _ (pureL l)⟩, ⟨_, rfl, .same _ _ (pureS s)⟩, ⟨_, rfl, .same _ _ rfl⟩, ⟨_, rfl, .same _ _ (pureL l)⟩, ⟨_, rfl, .same _ _ (pureS s)⟩, trivial⟩ rfl ?_ fun ρ1 h => ⟨k + 1, [], by omega, by simp, hr2, .inl ⟨rfl, rfl⟩, h⟩⟩
     exact ⟨.fnc _ _ _ rfl (fun i v q h1 h2 => by obtain ⟨rfl, rfl⟩ := one_get h1; cases h2; exact .keepP 2 1 0 0 2 rfl), .keepP 3 1 0 0 3 rfl, .keepP 4 1 0 0 4 rfl, .closed (.list false 4 (dsC l)) rfl, .closed _ rfl, pub_int ek, trivial⟩
   ·(conv => whnf); refine recA (fun hlt2 => ?_) (fun hlt2 => ?_)
    ·simp [rC_length] at hlt2
     have hrx : x.f.recs[j]? = some x.f.recs[j] := List.getElem?_eq_getElem hlt2
     have hrl := x2 _ (List.getElem_mem hlt2)
     generalize x.f.recs[j] = r at hrx hrl
     rw [drop_cons hrx, cou_step] at hr
     have ej : IntKind.i64.wrap ((j : Int) + 1) = ((j + 1 : Nat) : Int) := by rw [wrapI _ (by omega) (by omega)]; omega
     (conv => whnf); refine And.intro (by omega) ?_
     (conv => whnf); refine recO (rC_at hrx) ?_
     (conv => whnf); refine ACalls.use (counts_spec F.z0z s hs x j r hrx (by omega) hrl _) ?_
     (conv => whnf); refine recA (fun hcb => ?_) (fun hcb => ?_)
     ·rw [if_pos hcb] at hr
      have hn : r.row ≠ [] := count_ne hc hcb
      (conv => whnf); refine ACalls.retH (closure_appF G k j r hn hrl U (by omega) _ _ _ _ _ _) ?_
      conv => whnf
      refine ⟨m2 - 1, by omega, Gp.keepL (H1 := [bL l, bS s, cN 5 (U.length + 1), bL l, bS s, vO (U ++ [⟨r, k, j⟩]), bX x]) [0, 1, 2, 3, 4, 5, 6] (by simp) (keepB_three rfl rfl rfl rfl rfl rfl rfl rfl rfl)
       ⟨⟨_, rfl, .same _ _ (pureL l)⟩, ⟨_, rfl, .same _ _ (pureS s)⟩, ⟨_, rfl, ob11 (.keep 5 _ _ _ 5 rfl) rfl⟩, ⟨_, rfl, .same _ _ (pureL l)⟩, ⟨_, rfl, .same _ _ (pureS s)⟩, ⟨_, rfl, .same _ _ (pureEs_vsC _)⟩, ⟨_, rfl, .same _ _ (pureX x)⟩, trivial⟩ rfl ?_ fun ρ1 h => ⟨j + 1, U ++ [⟨r, k, j⟩], 6, by omega, by simp; omega, by rw [← hr]; simp, .inr ⟨by simp, rfl, by simp⟩, h⟩⟩
      exact ⟨.fnc _ _ _ rfl (fun i v q h1 h2 => by obtain ⟨rfl, rfl⟩ := one_get h1; cases h2; exact .keepP 2 1 0 0 2 rfl), .keepP 3 1 0 0 3 rfl, .keepP 4 1 0 0 4 rfl, .closed _ rfl, .keepP 6 1 0 0 6 rfl, .closed (.list false 4 (dsC l)) rfl, .closed _ rfl, .closed _ rfl, .closed (.list false 3 (rC x.f.recs)) rfl, .closed _ rfl, pub_int ej, trivial⟩
     ·rw [if_neg (by rw [hcb]; simp), List.nil_append] at hr
      conv => whnf
      refine ⟨m2 - 1, by omega, Gp.keepL (H1 := [bL l, bS s, cN 5 U.length, bL l, bS s, vO U, bX x]) [0, 1, 2, 3, 4, 5, 6] (by simp) (keepB_three rfl rfl rfl rfl rfl rfl rfl rfl rfl)
       ⟨⟨_, rfl, .same _ _ (pureL l)⟩, ⟨_, rfl, .same _ _ (pureS s)⟩, ⟨_, rfl, ob11 (.keep 5 _ _ _ 5 rfl) rfl⟩, ⟨_, rfl, .same _ _ (pureL l)⟩, ⟨_, rfl, .same _ _ (pureS s)⟩, ⟨_, rfl, .same _ _ (pureEs_vsC _)⟩, ⟨_, rfl, .same _ _ (pureX x)⟩, trivial⟩ rfl ?_ fun ρ1 h => ⟨j + 1, U, 6, by omega, by omega, hr, .inr ⟨hne, rfl, rfl⟩, h⟩⟩
      exact ⟨.fnc _ _ _ rfl (fun i v q h1 h2 => by obtain ⟨rfl, rfl⟩ := one_get h1; cases h2; exact .keepP 2 1 0 0 2 rfl), .keepP 3 1 0 0 3 rfl, .keepP 4 1 0 0 4 rfl, .closed _ rfl, .keepP 6 1 0 0 6 rfl, .closed (.list false 4 (dsC l)) rfl, .closed _ rfl, .closed _ rfl, .closed (.list false 3 (rC x.f.recs)) rfl, .closed _ rfl, pub_int ej, trivial⟩
    ·simp [rC_length] at hlt2
     rw [List.drop_of_length_le hlt2] at hr
     have hr2 : U ++ couL s (k + 1) (l.drop (k + 1)) = couL s 0 l := by rw [← hr]; simp [couR]
     conv => whnf
     refine ⟨m - 1, by omega, Gp.keepL (H1 := [bL l, bS s, cN 5 U.length, bL l, bS s, vO U]) [0, 1, 2, 3, 4, 5] (by simp) (keepB_three rfl rfl rfl rfl rfl rfl rfl rfl rfl)
      ⟨⟨_, rfl, .same _ _ (pureL l)⟩, ⟨_, rfl, .same _ _ (pureS s)⟩, ⟨_, rfl, ob11 (.keep 5 _ _ _ 5 rfl) rfl⟩, ⟨_, rfl, .same _ _ (pureL l)⟩, ⟨_, rfl, .same _ _ (pureS s)⟩, ⟨_, rfl, .same _ _ (pureEs_vsC _)⟩, trivial⟩ rfl ?_ fun ρ1 h => ⟨k + 1, U, by omega, by omega, hr2, .inr ⟨hne, rfl⟩, h⟩⟩
     exact ⟨.fnc _ _ _ rfl (fun i v q h1 h2 => by obtain ⟨rfl, rfl⟩ := one_get h1; cases h2; exact .keepP 2 1 0 0 2 rfl), .keepP 3 1 0 0 3 rfl, .keepP 4 1 0 0 4 rfl, .closed (.list false 4 (dsC l)) rfl, .closed _ rfl, pub_int ek, trivial⟩
  ·simp at hlt
   conv => whnf
   exact ⟨rfl, fin _ (.inl ⟨rfl, rfl⟩) hlt⟩
 ·(conv => whnf); refine recA (fun hlt => ?_) (fun hlt => ?_)
  ·simp at hlt
   have hx : l[k]? = some l[k] := List.getElem?_eq_getElem hlt
   obtain ⟨x1, x2, x3⟩ := hok _ (List.getElem_mem hlt)
   generalize l[k] = x at hx x1 x2 x3
   rw [drop_cons hx, couL] at hr
   (conv => whnf); refine And.intro (by omega) ?_
   (conv => whnf); refine recO (dsC_at hx) ?_
   conv => whnf
   refine ⟨fun m2 ρ H1 => ∃ (j : Nat) (U : List Ver) (p : Nat), j + m2 = x.f.recs.length ∧ U.length ≤ 1000 * k + j ∧ U ++ ((if eqS x.f.src s.name then couR s k x.jd j (x.f.recs.drop j) else []) ++ couL s (k + 1) (l.drop (k + 1))) = couL s 0 l ∧ ((U = [] ∧ p = 5 ∧ H1 = [bL l, bS s, .arr 1 [[.nil]], bL l, bS s, bX x]) ∨ (U ≠ [] ∧ p = 6 ∧ H1 = [bL l, bS s, cN 5 U.length, bL l, bS s, vO U, bX x])) ∧ Sv 38 [(2, .fn G.id [.ptr 2 1 0 0]), (3, .ptr 3 1 0 0), (4, .ptr 4 1 0 0), (6, .int .i64 k), (7, .ptr p 1 0 0), (11, .list false 4 (dsC l)), (12, .int .i64 l.length), (13, .int .i64 k), (20, .list false 3 (rC x.f.recs)), (21, .int .i64 x.f.recs.length), (22, .int .i64 j)] ρ, x.f.recs.length, [], ?_, ?_⟩
   ·exact ⟨0, U, 6, by omega, by omega, hr, .inr ⟨hne, rfl, rfl⟩, Sv.intro rfl ⟨rfl, rfl, rfl, rfl, rfl, rfl, rfl, rfl, rfl, intEq (by rw [rC_length]), rfl, trivial⟩⟩
   clear hr hU fin
   rintro m2 ρ H1 ⟨j, U, p, hj, hU, hr, hH, d, rfl⟩
   have ek : IntKind.i64.wrap ((k : Int) + 1) = ((k + 1 : Nat) : Int) := by rw [wrapI _ (by omega) (by omega)]; omega
   rcases hH with ⟨rfl, rfl, rfl⟩ | ⟨hne, rfl, rfl⟩
   ·(conv => whnf); refine recA (fun hlt2 => ?_) (fun hlt2 => ?_)
    ·simp [rC_length] at hlt2
     have hrx : x.f.recs[j]? = some x.f.recs[j] := List.getElem?_eq_getElem hlt2
     have hrl := x2 _ (List.getElem_mem hlt2)
     generalize x.f.recs[j] = r at hrx hrl
     rw [drop_cons hrx, cou_step] at hr
     have ej : IntKind.i64.wrap ((j : Int) + 1) = ((j + 1 : Nat) : Int) := by rw [wrapI _ (by omega) (by omega)]; omega
     (conv => whnf); refine And.intro (by omega) ?_
     (conv => whnf); refine recO (rC_at hrx) ?_
     (conv => whnf); refine ACalls.use (counts_spec F.z0z s hs x j r hrx (by omega) hrl _) ?_
     (conv => whnf); refine recA (fun hcb => ?_) (fun hcb => ?_)
     ·rw [if_pos hcb] at hr
      have hn : r.row ≠ [] := count_ne hc hcb
      (conv => whnf); refine ACalls.retH (closure_nilF G k j r hn hrl _ _ _ _ _ _) ?_
      conv => whnf
      refine ⟨m2 - 1, by omega, Gp.keepL (H1 := [bL l, bS s, cN 5 1, bL l, bS s, vO [⟨r, k, j⟩], bX x]) [0, 1, 2, 3, 4, 7, 5] (by simp) (keepB_three rfl rfl rfl rfl rfl rfl rfl rfl rfl)
       ⟨⟨_, rfl, .same _ _ (pureL l)⟩, ⟨_, rfl, .same _ _ (pureS s)⟩, ⟨_, rfl, ob11 (.keep 7 _ _ _ 5 rfl) rfl⟩, ⟨_, rfl, .same _ _ (pureL l)⟩, ⟨_, rfl, .same _ _ (pureS s)⟩, ⟨_, rfl, .same _ _ (pureEs_vsC [⟨r, k, j⟩])⟩, ⟨_, rfl, .same _ _ (pureX x)⟩, trivial⟩ rfl ?_ fun ρ1 h => ⟨j + 1, [⟨r, k, j⟩], 6, by omega, by simp; omega, by rw [← hr]; simp, .inr ⟨by simp, rfl, rfl⟩, h⟩⟩
      exact ⟨.fnc _ _ _ rfl (fun i v q h1 h2 => by obtain ⟨rfl, rfl⟩ := one_get h1; cases h2; exact .keepP 2 1 0 0 2 rfl), .keepP 3 1 0 0 3 rfl, .keepP 4 1 0 0 4 rfl, .closed _ rfl, .keepP 5 1 0 0 6 rfl, .closed (.list false 4 (dsC l)) rfl, .closed _ rfl, .closed _ rfl, .closed (.list false 3 (rC x.f.recs)) rfl, .closed _ rfl, pub_int ej, trivial⟩
     ·rw [if_neg (by rw [hcb]; simp), List.nil_append] at hr
      conv => whnf
      refine ⟨m2 - 1, by omega, Gp.keepL (H1 := [bL l, bS s, .arr 1 [[.nil]], bL l, bS s, bX x]) [0, 1, 2, 3, 4, 5] (by simp) (keepB_three rfl rfl rfl rfl rfl rfl rfl rfl rfl)
       ⟨⟨_, rfl, .same _ _ (pureL l)⟩, ⟨_, rfl, .same _ _ (pureS s)⟩, ⟨_, rfl, .same _ _ rfl⟩, ⟨_, rfl, .same _ _ (pureL l)⟩, ⟨_, rfl, .same _ _ (pureS s)⟩, ⟨_, rfl, .same _ _ (pureX x)⟩, trivial⟩ rfl ?_ fun ρ1 h => ⟨j + 1, [], 5, by omega, by simp, hr, .inl ⟨rfl, rfl, rfl⟩, h⟩⟩
      exact ⟨.fnc _ _ _ rfl (fun i v q h1 h2 => by obtain ⟨rfl, rfl⟩ := one_get h1; cases h2; exact .keepP 2 1 0 0 2 rfl), .keepP 3 1 0 0 3 rfl, .keepP 4 1 0 0 4 rfl, .closed _ rfl, .keepP 5 1 0 0 5 rfl, .closed (.list false 4 (dsC l)) rfl, .closed _ rfl, .closed _ rfl, .closed (.list false 3 (rC x.f.recs)) rfl, .closed _ rfl, pub_int ej, trivial⟩
    ·simp [rC_length] at hlt2
     rw [List.drop_of_length_le hlt2] at hr
     have hr2 : [] ++ couL s (k + 1) (l.drop (k + 1)) = couL s 0 l := by rw [← hr]; simp [couR]
     conv => whnf
     refine ⟨m - 1, by omega, Gp.keepL (H1 := [bL l, bS s, .arr 1 [[.nil]], bL l, bS s]) [0, 1, 2, 3, 4] (by simp) (keepB_three rfl rfl rfl rfl rfl rfl rfl rfl rfl)
      ⟨⟨_, rfl, .same _ _ (pureL l)⟩, ⟨_, rfl, .same _ _ (pureS s)⟩, ⟨_, rfl, .same _ _ rfl⟩, ⟨_, rfl, .same _ _ (pureL l)⟩, ⟨_, rfl, .same _ _ (pureS s)⟩, trivial⟩ rfl ?_ fun ρ1 h => ⟨k + 1, [], by omega, by simp, hr2, .inl ⟨rfl, rfl⟩, h⟩⟩
     exact ⟨.fnc _ _ _ rfl (fun i v q h1 h2 => by obtain ⟨rfl, rfl⟩ := one_get h1; cases h2; exact .keepP 2 1 0 0 2 rfl), .keepP 3 1 0 0 3 rfl, .keepP 4 1 0 0 4 rfl, .closed (.list false 4 (dsC l)) rfl, .closed _ rfl, pub_int ek, trivial⟩
   ·(conv => whnf); refine recA (fun hlt2 => ?_) (fun hlt2 => ?_)
    ·simp [rC_length] at hlt2
     have hrx : x.f.recs[j]? = some x.f.recs[j] := List.getElem?_eq_getElem hlt2
     have hrl := x2 _ (List.getElem_mem hlt2)
     generalize x.f.recs[j] = r at hrx hrl
     rw [drop_cons hrx, cou_step] at hr
     have ej : IntKind.i64.wrap ((j : Int) + 1) = ((j + 1 : Nat) : Int) := by rw [wrapI _ (by omega) (by omega)]; omega
     (conv => whnf); refine And.intro (by omega) ?_
     (conv => whnf); refine recO (rC_at hrx) ?_
     (conv => whnf); refine ACalls.use (counts_spec F.z0z s hs x j r hrx (by omega) hrl _) ?_
     (conv => whnf); refine recA (fun hcb => ?_) (fun hcb => ?_)
     ·rw [if_pos hcb] at hr
      have hn : r.row ≠ [] := count_ne hc hcb
      (conv => whnf); refine ACalls.retH (closure_appF G k j r hn hrl U (by omega) _ _ _ _ _ _) ?_
      conv => whnf
      refine ⟨m2 - 1, by omega, Gp.keepL (H1 := [bL l, bS s, cN 5 (U.length + 1), bL l, bS s, vO (U ++ [⟨r, k, j⟩]), bX x]) [0, 1, 2, 3, 4, 5, 6] (by simp) (keepB_three rfl rfl rfl rfl rfl rfl rfl rfl rfl)
       ⟨⟨_, rfl, .same _ _ (pureL l)⟩, ⟨_, rfl, .same _ _ (pureS s)⟩, ⟨_, rfl, ob11 (.keep 5 _ _ _ 5 rfl) rfl⟩, ⟨_, rfl, .same _ _ (pureL l)⟩, ⟨_, rfl, .same _ _ (pureS s)⟩, ⟨_, rfl, .same _ _ (pureEs_vsC _)⟩, ⟨_, rfl, .same _ _ (pureX x)⟩, trivial⟩ rfl ?_ fun ρ1 h => ⟨j + 1, U ++ [⟨r, k, j⟩], 6, by omega, by simp; omega, by rw [← hr]; simp, .inr ⟨by simp, rfl, by simp⟩, h⟩⟩
      exact ⟨.fnc _ _ _ rfl (fun i v q h1 h2 => by obtain ⟨rfl, rfl⟩ := one_get h1; cases h2; exact .keepP 2 1 0 0 2 rfl), .keepP 3 1 0 0 3 rfl, .keepP 4 1 0 0 4 rfl, .closed _ rfl, .keepP 6 1 0 0 6 rfl, .closed (.list false 4 (dsC l)) rfl, .closed _ rfl, .closed _ rfl, .closed (.list false 3 (rC x.f.recs)) rfl, .closed _ rfl, pub_int ej, trivial⟩
     ·rw [if_neg (by rw [hcb]; simp), List.nil_append] at hr
      conv => whnf
      refine ⟨m2 - 1, by omega, Gp.keepL (H1 := [bL l, bS s, cN 5 U.length, bL l, bS s, vO U, bX x]) [0, 1, 2, 3, 4, 5, 6] (by simp) (keepB_three rfl rfl rfl rfl rfl rfl rfl rfl rfl)
       ⟨⟨_, rfl, .same _ _ (pureL l)⟩, ⟨_, rfl, .same _ _ (pureS s)⟩, ⟨_, rfl, ob11 (.keep 5 _ _ _ 5 rfl) rfl⟩, ⟨_, rfl, .same _ _ (pureL l)⟩, ⟨_, rfl, .same _ _ (pureS s)⟩, ⟨_, rfl, .same _ _ (pureEs_vsC _)⟩, ⟨_, rfl, .same _ _ (pureX x)⟩, trivial⟩ rfl ?_ fun ρ1 h => ⟨j + 1, U, 6, by omega, by omega, hr, .inr ⟨hne, rfl, rfl⟩, h⟩⟩
      exact ⟨.fnc _ _ _ rfl (fun i v q h1 h2 => by obtain ⟨rfl, rfl⟩ := one_get h1; cases h2; exact .keepP 2 1 0 0 2 rfl), .keepP 3 1 0 0 3 rfl, .keepP 4 1 0 0 4 rfl, .closed _ rfl, .keepP 6 1 0 0 6 rfl, .closed (.list false 4 (dsC l)) rfl, .closed _ rfl, .closed _ rfl, .closed (.list false 3 (rC x.f.recs)) rfl, .closed _ rfl, pub_int ej, trivial⟩
    ·simp [rC_length] at hlt2
     rw [List.drop_of_length_le hlt2] at hr
     have hr2 : U ++ couL s (k + 1) (l.drop (k + 1)) = couL s 0 l := by rw [← hr]; simp [couR]
     conv => whnf
     refine ⟨m - 1, by omega, Gp.keepL (H1 := [bL l, bS s, cN 5 U.length, bL l, bS s, vO U]) [0, 1, 2, 3, 4, 5] (by simp) (keepB_three rfl rfl rfl rfl rfl rfl rfl rfl rfl)
      ⟨⟨_, rfl, .same _ _ (pureL l)⟩, ⟨_, rfl, .same _ _ (pureS s)⟩, ⟨_, rfl, ob11 (.keep 5 _ _ _ 5 rfl) rfl⟩, ⟨_, rfl, .same _ _ (pureL l)⟩, ⟨_, rfl, .same _ _ (pureS s)⟩, ⟨_, rfl, .same _ _ (pureEs_vsC _)⟩, trivial⟩ rfl ?_ fun ρ1 h => ⟨k + 1, U, by omega, by omega, hr2, .inr ⟨hne, rfl⟩, h⟩⟩
     exact ⟨.fnc _ _ _ rfl (fun i v q h1 h2 => by obtain ⟨rfl, rfl⟩ := one_get h1; cases h2; exact .keepP 2 1 0 0 2 rfl), .keepP 3 1 0 0 3 rfl, .keepP 4 1 0 0 4 rfl, .closed (.list false 4 (dsC l)) rfl, .closed _ rfl, pub_int ek, trivial⟩
  ·simp at hlt
   conv => whnf
   exact ⟨rfl, fin _ (.inr ⟨hne, rfl⟩) hlt⟩
def SortVr (P : Program) (f g : FuncId) : Prop :=
 ∀ (s : Sou), s.good → ∀ (l : List Ver), l ≠ [] → l.length ≤ 1000000 → (∀ v ∈ l, okV s v) → ∀ (H : List AObj) (i0 : Nat), H[i0]? = some (vO l) →
  ACalls P f [.sl i0 l.length 0 l.length, .fn g [.cptr [.list false 1 (iC (keyI s))] 0, .cptr (souC s) 0]] H (fun r H' => r = .tuple [] ∧ ∃ l' : List Ver, l'.Perm l ∧ AscO (cmpVr s) l' ∧ H' = H.set i0 (vO l'))
set_option maxRecDepth 20000 in
theorem insV0 {P : Program} (F : F_z1q P) (X f : AVal) (H : List AObj) :
  ACalls P F.id [X, .int .i64 0, .int .i64 0, f] H (fun r H' => r = .tuple [] ∧ H' = H) := by
 refine acalls_of_body F.has ?_
 conv => whnf
 refine ⟨fun m ρ H1 => H1 = H ∧ Sv 53 [(1, .int .i64 0), (2, .int .i64 0), (8, .int .i64 1)] ρ, 0, [], ?_, ?_⟩
 ·exact ⟨rfl, Sv.intro rfl ⟨rfl, rfl, rfl, trivial⟩⟩
 rintro m ρ H1 ⟨rfl, d, rfl⟩
 conv => whnf
 exact ⟨rfl, rfl⟩
set_option maxRecDepth 20000 in
theorem pdqV0 {P : Program} (F : F_z1s P) (X f : AVal) (H : List AObj) :
  ACalls P F.id [X, .int .i64 0, .int .i64 0, .int .i64 0, f] H (fun r H' => r = .tuple [] ∧ H' = H) := by
 refine acalls_of_body F.has ?_
 conv => whnf
 refine ⟨fun m ρ H1 => H1 = H ∧ Sv 148 [(0, X), (1, .int .i64 0), (2, .int .i64 0), (3, .int .i64 0), (4, f), (10, .bool true), (11, .bool true)] ρ, 0, [], ?_, ?_⟩
 ·exact ⟨rfl, Sv.intro rfl ⟨rfl, rfl, rfl, rfl, rfl, rfl, rfl, trivial⟩⟩
 rintro m ρ H1 ⟨rfl, d, rfl⟩
 (conv => whnf); refine ACalls.use (insV0 F.z1q X f _) ?_
 conv => whnf
 exact ⟨rfl, rfl⟩
theorem sortV0 {P : Program} (F : F_z1n P) (f : AVal) (H : List AObj) :
  ACalls P F.id [.nil, f] H (fun r H' => r = .tuple [] ∧ H' = H) := by
 refine acalls_of_body F.has ?_
 (conv => whnf); refine ACalls.use (Len_0 F.z12 _) ?_
 (conv => whnf); refine ACalls.use (pdqV0 F.z1s .nil f _) ?_
 conv => whnf
 exact ⟨rfl, rfl⟩
set_option maxRecDepth 20000 in
theorem Versions_raw {P : Program} (F : F_z0v P) (hV : SortVr P F.z1n.id F.z0x.id) (s : Sou) (hs : s.good) (l : List Del) (hl : l.length ≤ 100) (hok : ∀ x ∈ l, x.ok) (H : List AObj) :
  ACalls P F.id [.agg (ledC l), .agg (souC s)] H (fun r H' => (r = .nil ∧ couL s 0 l = [] ∨ r = .list false 5 (vsC (srtV s (couL s 0 l)))) ∧ H' = H) := by
 have hlen := couL_len s l 0 1000 fun x hx => (hok x hx).1
 have hfit : ∀ v ∈ couL s 0 l, okV s v := fun v hv => couL_fits hv
 have hU := couL_uq s l
 have he := each_spec F.z10 F.z0w s hs.ok hs.ne l hl hok
 refine ACalls.lift0 (by simp [souC, ledC, AVal.closed, AVal.isPure]) (acalls_of_body F.has ?_)
 generalize couL s 0 l = V at hlen hfit hU he
 (conv => whnf); refine ACalls.mono (he) ?_
 rintro r H' ⟨rfl, ⟨rfl, rfl⟩ | ⟨hne, rfl⟩⟩
 ·(conv => whnf); refine ACalls.use (lkeys_spec F.z11 s hs.ok _) ?_
  conv => whnf
  refine Ghost.some (n := 17) (live := [(3, .cptr (souC s) 0), (5, .ptr 0 1 0 0), (6, .cptr [.list false 1 (iC (keyI s))] 0)]) (H1 := [.arr 1 [[.nil]]]) [2] (by simp) ⟨⟨_, rfl, .same _ _ rfl⟩, trivial⟩ rfl
   ⟨.frzP 1 1 0 0 7 [souC s] _ rfl rfl rfl rfl (by simp), .keepP 2 1 0 0 0 rfl, .frzP 5 1 0 0 1 [[.list false 1 (iC (keyI s))]] _ rfl rfl rfl rfl (by simp), trivial⟩ ?_
  rintro ρ ⟨d, rfl⟩
  (conv => whnf); refine ACalls.use (sortV0 F.z1n _ _) ?_
  conv => whnf
  exact ⟨_, .closed _ rfl, .inl ⟨rfl, rfl⟩⟩
 ·(conv => whnf); refine ACalls.use (lkeys_spec F.z11 s hs.ok _) ?_
  conv => whnf
  refine Ghost.some (n := 17) (live := [(3, .cptr (souC s) 0), (5, .ptr 0 1 0 0), (6, .cptr [.list false 1 (iC (keyI s))] 0)]) (H1 := [cN 1 V.length, vO V]) [2, 5] (by simp) ⟨⟨_, rfl, ob11 (.keep 5 _ _ _ 1 rfl) rfl⟩, ⟨_, rfl, .same _ _ (pureEs_vsC V)⟩, trivial⟩ rfl
   ⟨.frzP 1 1 0 0 7 [souC s] _ rfl rfl rfl rfl (by simp), .keepP 2 1 0 0 0 rfl, .frzP 6 1 0 0 1 [[.list false 1 (iC (keyI s))]] _ rfl rfl rfl rfl (by simp), trivial⟩ ?_
  rintro ρ ⟨d, rfl⟩
  (conv => whnf); refine ACalls.mono (hV s hs V hne (by omega) hfit _ 1 rfl) ?_
  rintro r H' ⟨rfl, Z, hp, ha, rfl⟩
  have hZ : Z = srtV s V := isort_eq (orders_V s) hp ha hU.zz
  have hzl := hp.length_eq
  conv => whnf
  exact ⟨_, pubFxH (id := 1) (es := vsC (srtV s V)) (es' := vsC Z) rfl (by rw [hZ]) (by rw [vsC_length, ← hZ, hzl]) (by rw [vsC_length, ← hZ, hzl]) (pureEs_vsC _), .inr rfl⟩
theorem Versions_spec {P : Program} (F : F_z0v P) (hV : SortVr P F.z1n.id F.z0x.id) (s : Sou) (hs : s.good) (l : List Del) (hl : l.length ≤ 100) (hok : ∀ x ∈ l, x.ok) (H : List AObj) :
  ACalls P F.id [.agg (ledC l), .agg (souC s)] H (fun r H' => r = .list false 5 (vsC (srtV s (couL s 0 l))) ∧ H' = H) :=
 (Versions_raw F hV s hs l hl hok H).weakR (by
  rintro r H' ⟨⟨rfl, h⟩ | rfl, rfl⟩
  ·exact ⟨_, .nil false 5, by rw [h]; rfl, rfl⟩
  ·exact ⟨_, .refl _, rfl, rfl⟩)
theorem getD_last {α : Type} {l : List α} {k : Nat} {x : α} (hx : l[k]? = some x) : (l.drop (k + 1)).head? = l[k + 1]? := by
 rw [List.head?_drop]
set_option maxHeartbeats 1000000 in
set_option maxRecDepth 20000 in
theorem Contents_spec {P : Program} (F : F_z0t P) (hV : SortVr P F.z0v.z1n.id F.z0v.z0x.id) (hC : SortE P F.z1m.id F.z0u.id)
  (s : Sou) (hs : s.good) (l : List Del) (hl : l.length ≤ 100) (hok : ∀ x ∈ l, x.ok) (hcl : (couL s 0 l).length ≤ 4096) (H : List AObj) :
  ACalls P F.id [.agg (ledC l), .agg (souC s)] H (fun r H' => r = .tuple [.list false 2 (eC (conV s (couL s 0 l))), .int .i64 0] ∧ H' = H) := by
 have hten := hs.ten
 have hkl := hs.klen
 have hfit : ∀ v ∈ srtV s (couL s 0 l), okV s v := fun v hv => couL_fits ((srtV_mem s _ v).1 hv)
 have hU := srtV_uq (couL_uq s l)
 have hA := srtV_asc s (couL s 0 l)
 have hVL : (srtV s (couL s 0 l)).length ≤ 4096 := by rw [srtV, isort_length]; exact hcl
 have hvs := Versions_spec F.z0v hV s hs l hl hok
 have hne := conG_ne hA hU
 have hpk : ∀ (v : Ver), okV s v → ∀ H, ACalls P F.z19.id [.list false 3 (vC v.rc.row), .list false 1 (iC (keyI s))] H (fun r H' => r = .list false 3 (vC (keyV s v.rc.row)) ∧ H' = H) := fun v hv H => by
  obtain ⟨x1, x2⟩ := okV_len hs hv
  have := schema_Pick_spec F.z19 false false v.rc.row (keyI s) (by omega) (by rw [keyI_length]; omega) H
  rwa [pick_key s hs _ x2] at this
 refine ACalls.pure (by simp [souC, ledC, AVal.closed, AVal.isPure]) (acalls_of_body F.has ?_)
 unfold conV
 generalize srtV s (couL s 0 l) = V at hfit hU hA hVL hvs hne
 (conv => whnf); refine ⟨_, hvs _, ?_⟩
 (conv => whnf); refine ⟨_, lkeys_spec F.z11 s hs.ok _, ?_⟩
 repeat ((conv => whnf); refine And.intro rfl ?_)
 conv => whnf
 refine ⟨fun m ρ H1 => ∃ (k : Nat) (U : List Ent), k + m = V.length ∧ U.length ≤ k ∧ U ++ conG s (V.drop k) = conG s V ∧ H1 = [bL l, bS s, .arr 2 (eC U)] ∧ Sv 68 [(6, .list false 5 (vsC V)), (7, .list false 1 (iC (keyI s))), (8, .sl 2 U.length 0 U.length), (17, .list false 5 (vsC V)), (18, .int .i64 V.length), (19, .int .i64 k)] ρ, V.length, [(8, 2)], ?_, ?_⟩
 ·exact ⟨0, [], by omega, by simp, rfl, rfl, Sv.intro rfl ⟨rfl, rfl, rfl, rfl, intEq (by rw [vsC_length]), rfl, trivial⟩⟩
 rintro m ρ H1 ⟨k, U, hk, hUl, hr, rfl, d, rfl⟩
 have hp3 : ∀ W : List Ent, ([bL l, bS s, .arr 2 (eC W)] : List AObj).all pureO = true := fun W => by
  rw [List.all_cons, pureL, List.all_cons, pureS, List.all_cons]; simp [pureO, pureEs_eC]
 (conv => whnf); refine recA (fun hlt => ?_) (fun hlt => ?_)
 ·simp at hlt
  have hx : V[k]? = some V[k] := List.getElem?_eq_getElem hlt
  have hv := hfit _ (List.getElem_mem hlt)
  generalize V[k] = v at hx hv
  have ek : IntKind.i64.wrap ((k : Int) + 1) = ((k + 1 : Nat) : Int) := by rw [wrapI _ (by omega) (by omega)]; omega
  rw [drop_cons hx, conG, getD_last hx] at hr
  (conv => whnf); refine And.intro (by omega) ?_
  (conv => whnf); refine recO (vsC_at hx) ?_
  (conv => whnf); refine recA (fun hl1 => ?_) (fun hl1 => ?_)
  ·simp [vsC_length] at hl1
   rw [ek] at hl1
   have hnx : V[k + 1]? = none := List.getElem?_eq_none (by omega)
   rw [hnx] at hr
   (conv => whnf); refine recA (fun hd => ?_) (fun hd => ?_)
   ·rw [if_pos (by rw [Option.all_none, Bool.true_and]; exact hd)] at hr
    (conv => whnf); refine recT (by rw [eC_length]; exact Nat.beq_refl _) ?_
    (conv => whnf); refine And.intro (⟨roomMul (by simp; omega) (by omega), roomB_le (by simp; omega), rfl, by rw [eC_length]⟩) ?_
    conv => whnf
    have hcn : eC U ++ [[AVal.list false 3 (vC v.rc.row), .int .i64 1]] = eC (U ++ [⟨v.rc.row, 1⟩]) := by rw [eC_append]; rfl
    have hl2 : (eC U ++ [[AVal.list false 3 (vC v.rc.row), .int .i64 1]]).length = (U ++ [(⟨v.rc.row, 1⟩ : Ent)]).length := by rw [hcn, eC_length]
    refine ⟨m - 1, by omega, Gp.first 3 [bL l, bS s, .arr 2 (eC U ++ [[AVal.list false 3 (vC v.rc.row), .int .i64 1]])] rfl rfl (by rw [hcn]; exact hp3 _) rfl ?_ fun ρ1 h => ⟨k + 1, U ++ [⟨v.rc.row, 1⟩], by omega, by simp; omega, (by rw [← hr]; simp), by rw [hcn], h⟩⟩
    exact ⟨.closed (.list false 5 (vsC V)) rfl, .closed (.list false 1 (iC (keyI s))) rfl, pubSl (k := 2) rfl rfl hl2 hl2, .closed (.list false 5 (vsC V)) rfl, .closed _ rfl, pub_int ek, trivial⟩
   ·rw [if_neg (by rw [Option.all_none, Bool.true_and]; simpa using hd)] at hr
    conv => whnf
    refine ⟨m - 1, by omega, Gp.first 3 [bL l, bS s, .arr 2 (eC U)] rfl rfl (hp3 U) rfl ?_ fun ρ1 h => ⟨k + 1, U, by omega, by omega, hr, rfl, h⟩⟩
    exact ⟨.closed (.list false 5 (vsC V)) rfl, .closed (.list false 1 (iC (keyI s))) rfl, .keep 2 _ _ _ 2 rfl, .closed (.list false 5 (vsC V)) rfl, .closed _ rfl, pub_int ek, trivial⟩
  ·simp [vsC_length] at hl1
   rw [ek] at hl1
   have hy : V[k + 1]? = some V[k + 1] := List.getElem?_eq_getElem (by omega)
   have hvy := hfit _ (List.getElem_mem (show k + 1 < V.length by omega))
   generalize V[k + 1] = y at hy hvy
   rw [hy] at hr
   (conv => whnf); refine ⟨_, hpk v hv _, ?_⟩
   (conv => whnf); refine And.intro (by rw [ek]; omega) ?_
   (conv => whnf); refine recO ((show (vsC V)[(IntKind.i64.wrap ((k : Int) + 1)).toNat]? = some (verC y) from by rw [ek, Int.toNat_natCast]; exact vsC_at hy)) ?_
   (conv => whnf); refine ⟨_, hpk y hvy _, ?_⟩
   (conv => whnf); refine ⟨_, value_CompareRows_spec F.z22 false false (keyV s v.rc.row) (keyV s y.rc.row) (by rw [keyV_length]; omega) _, ?_⟩
   repeat ((conv => whnf); refine And.intro rfl ?_)
   (conv => whnf); refine recA (fun hc0 => ?_) (fun hc0 => ?_)
   ·(conv => whnf); refine recA (fun hd => ?_) (fun hd => ?_)
    ·rw [if_pos (by rw [Option.all_some, Bool.and_eq_true]; exact ⟨hc0, hd⟩)] at hr
     (conv => whnf); refine recT (by rw [eC_length]; exact Nat.beq_refl _) ?_
     (conv => whnf); refine And.intro (⟨roomMul (by simp; omega) (by omega), roomB_le (by simp; omega), rfl, by rw [eC_length]⟩) ?_
     conv => whnf
     have hcn : eC U ++ [[AVal.list false 3 (vC v.rc.row), .int .i64 1]] = eC (U ++ [⟨v.rc.row, 1⟩]) := by rw [eC_append]; rfl
     have hl2 : (eC U ++ [[AVal.list false 3 (vC v.rc.row), .int .i64 1]]).length = (U ++ [(⟨v.rc.row, 1⟩ : Ent)]).length := by rw [hcn, eC_length]
     refine ⟨m - 1, by omega, Gp.first 3 [bL l, bS s, .arr 2 (eC U ++ [[AVal.list false 3 (vC v.rc.row), .int .i64 1]])] rfl rfl (by rw [hcn]; exact hp3 _) rfl ?_ fun ρ1 h => ⟨k + 1, U ++ [⟨v.rc.row, 1⟩], by omega, by simp; omega, (by rw [← hr]; simp), by rw [hcn], h⟩⟩
     exact ⟨.closed (.list false 5 (vsC V)) rfl, .closed (.list false 1 (iC (keyI s))) rfl, pubSl (k := 2) rfl rfl hl2 hl2, .closed (.list false 5 (vsC V)) rfl, .closed _ rfl, pub_int ek, trivial⟩
    ·rw [if_neg (by rw [Option.all_some, Bool.and_eq_true]; rintro ⟨_, h⟩; rw [show (!v.rc.del) = false from hd] at h; cases h)] at hr
     conv => whnf
     refine ⟨m - 1, by omega, Gp.first 3 [bL l, bS s, .arr 2 (eC U)] rfl rfl (hp3 U) rfl ?_ fun ρ1 h => ⟨k + 1, U, by omega, by omega, hr, rfl, h⟩⟩
     exact ⟨.closed (.list false 5 (vsC V)) rfl, .closed (.list false 1 (iC (keyI s))) rfl, .keep 2 _ _ _ 2 rfl, .closed (.list false 5 (vsC V)) rfl, .closed _ rfl, pub_int ek, trivial⟩
   ·rw [if_neg (by rw [Option.all_some, Bool.and_eq_true]; rintro ⟨h, _⟩; rw [show (rowsCmp (keyV s v.rc.row) (keyV s y.rc.row) != 0) = false from hc0] at h; cases h)] at hr
    conv => whnf
    refine ⟨m - 1, by omega, Gp.first 3 [bL l, bS s, .arr 2 (eC U)] rfl rfl (hp3 U) rfl ?_ fun ρ1 h => ⟨k + 1, U, by omega, by omega, hr, rfl, h⟩⟩
    exact ⟨.closed (.list false 5 (vsC V)) rfl, .closed (.list false 1 (iC (keyI s))) rfl, .keep 2 _ _ _ 2 rfl, .closed (.list false 5 (vsC V)) rfl, .closed _ rfl, pub_int ek, trivial⟩
 ·simp at hlt
  rw [List.drop_of_length_le (by omega), conG, List.append_nil] at hr
  subst hr
  have hcl2 := conG_len s V
  have hge : ∀ e ∈ conG s V, e.row.length ≤ 1000 := fun e he => by
   obtain ⟨v, hv, _, rfl⟩ := (mem_conG hA hU e).1 he
   have := (okV_len hs (hfit v hv.1)).1
   show v.rc.row.length ≤ 1000
   omega
  (conv => whnf); refine recT (by rw [eC_length]; exact Nat.beq_refl _) ?_
  (conv => whnf); refine recF (by simp; omega) ?_
  (conv => whnf); refine ACalls.mono (SortE.all (F := F.z1m) hC (conG s V) (by omega) hge _ 2 rfl) ?_
  rintro r H' ⟨rfl, Z, hp, ha, rfl⟩
  have hZ : Z = srtE (conG s V) := srtE_eq hp ha fun x hx y hy e => by
   obtain ⟨v, hv, _, rfl⟩ := (mem_conG hA hU x).1 hx
   obtain ⟨w, hw, _, rfl⟩ := (mem_conG hA hU y).1 hy
   have := last_row hU hv hw (congrArg (keyV s) e)
   rw [this]
  have hzl := hp.length_eq
  conv => whnf
  refine .tuple [_, _] [_, _] rfl fun i v q h1 h2 => ?_
  rcases i with _ | _ | i
  ·cases h1; cases h2
   exact pubFxH (id := 2) (es := eC (srtE (conG s V))) (es' := eC Z) rfl (by rw [hZ]) (by rw [eC_length, ← hZ, hzl]) (by rw [eC_length, ← hZ, hzl]) (pureEs_eC _)
  ·cases h1; cases h2; exact .closed _ rfl
  ·simp at h1
noncomputable def mL (n : Int) (ls : List Int) : List Ver := couL (souS (wsrc n)) 0 (ledV (wsrc n) ls).1
theorem mL_len (n : Int) (ls : List Int) : (mL n ls).length ≤ 24 := by
 have := mV_len n ls
 rwa [mV, srtV, isort_length] at this
theorem mL_ok (n : Int) (ls : List Int) : ∀ v ∈ mL n ls, okV (souS (wsrc n)) v := fun v hv => couL_fits hv
theorem mL_uq (n : Int) (ls : List Int) : Uq (souS (wsrc n)) (mL n ls) := couL_uq _ _
theorem mLed_len (n : Int) (ls : List Int) : (ledV (wsrc n) ls).1.length ≤ 100 := by
 have := (ledV_ok (wsrc n) ls).2
 omega
theorem Intervals_srt {P : Program} (F : F_z0l P) (hS : SortE P F.z1m.id F.z0m.id) (s : Sou) (hs : s.good) (L : List Ver) (h40 : L.length < 40) (hok : ∀ v ∈ L, okV s v) (hU : Uq s L) (H : List AObj) :
  ACalls P F.id [.agg (souC s), .list false 5 (vsC (srtV s L))] H (fun r H' => r = .tuple [.list false 2 (eC (ivsV s L)), .int .i64 0] ∧ H' = H) := by
 have := Intervals_spec F hS s hs false (srtV s L) (by rw [srtV, isort_length]; exact h40) (fun v hv => hok v ((srtV_mem s L v).1 hv)) (srtV_uq hU) H
 rwa [ivsV_perm (m := srtV s L) hU (isort_perm _)] at this
theorem con_row {s : Sou} (hs : s.good) {L : List Ver} (hok : ∀ v ∈ L, okV s v) (hu : Uq s L) : ∀ e ∈ conV s L, e.row.length ≤ 1000 := fun e he => by
 obtain ⟨v, hv, _, rfl⟩ := (mem_con hu e).1 he
 have := (okV_len hs (hok v hv.1)).1
 show v.rc.row.length ≤ 1000
 omega
theorem con_len (s : Sou) (L : List Ver) : (conV s L).length ≤ L.length := by
 rw [conV, srtE_len]
 exact Nat.le_trans (conG_len s _) (by rw [srtV, isort_length]; exact Nat.le_refl _)
end Go.AW
namespace Go.AW
def c_z26 (f_z27 : FuncId) (f_z28 : FuncId) (f_z3y : FuncId) (f_z0v : FuncId) (f_z0l : FuncId) (f_z0f : FuncId) (f_z2z : FuncId) (f_z2w : FuncId) (f_z0t : FuncId) (f_z2h : FuncId) : AFunc := ⟨115,[.tmp 6],(.seq (.region [ iD 6 (.move (.c (.bool false)))]) (.seq (.seq (.region [ iM 20 1,iD 21 (.len (.t 20)),iD 22 (.bin .gtr (.t 21) (cI 200))]) (.cond (.t 22) (.seq (.region [ iD 23 (.call f_z27 []),iM 6 23]) .ret) .skip)) (.seq (.region [ iM 25 0,iM 26 1,iD 27 (.call f_z28 [(.t 25),(.t 26)]),iM 24 27,iD 28 (.extract (.t 24) 0),iD 29 (.extract (.t 24) 1),iD 30 (.extract (.t 24) 2),iD 7 (.alloc [(.str (bs [])),.nil,.nil,(.str (bs [])),(.str (bs [])),(.int .i64 0),(.int .i64 0)]),iD 8 (.alloc [.nil]),iN (.store 7 (.t 7) (.t 28)),iN (.store 1 (.t 8) (.t 29)),iM 9 30]) (.seq (.region [ iM 31 2,iD 32 (.call f_z3y [(.t 31),(cI 9100)]),iD 33 (.bin .add (cI 143990) (.t 32)),iM 10 33]) (.seq (.draw [ jD 35 (.load true 7 (.t 7)),jD 36 (.load true 1 (.t 8)),jD 37 (.load true 7 (.t 7)),jD 38 (.call f_z0v [(.t 36),(.t 37)]),jD 39 (.call f_z0l [(.t 35),(.t 38)]),jM 34 39,jD 40 (.extract (.t 34) 0),jD 41 (.extract (.t 34) 1),jM 11 40,jM 12 41]) (.seq (.region [ iD 43 (.load true 7 (.t 7)),iM 44 11,iM 45 10,iD 46 (.call f_z0f [(.t 43),(.t 44),(.t 45)]),iM 42 46,iD 47 (.extract (.t 42) 0),iD 48 (.extract (.t 42) 1),iM 13 47,iM 14 48]) (.seq (.seq (.region [ iD 49 (.load true 1 (.t 8)),iD 50 (.call f_z2z [(.t 49)]),iD 15 (.alloc [.nil]),iN (.store 1 (.t 15) (.t 50))]) .ghost) (.seq (.seq (.region [ iD 51 (.fieldAddr 0 (.t 15)),iD 52 (.load false 1 (.t 51)),iD 53 (.len (.t 52)),iD 54 (.move (cI 0))]) (.seq (.block 0 (.loop (.seq (.region [ iD 55 (.bin .lss (.t 54) (.t 53))]) (.seq (.cond (.t 55) .skip (.exit 0)) (.seq (.block 1 (.seq (.region [ iM 56 54,iM 16 56]) (.seq (.region [ iD 57 (.fieldAddr 0 (.t 15)),iD 58 (.load false 1 (.t 57)),iM 59 16,iD 60 (.indexAddr 4 (.t 58) (.t 59)),iD 61 (.fieldAddr 3 (.t 60)),iD 62 (.load false 1 (.t 61)),iD 63 (.len (.t 62)),iD 64 (.move (cI 0))]) (.block 2 (.loop (.seq (.region [ iD 65 (.bin .lss (.t 64) (.t 63))]) (.seq (.cond (.t 65) .skip (.exit 2)) (.seq (.block 3 (.seq (.region [ iM 66 64,iM 17 66]) (.seq (.draw [ jD 67 (.load true 7 (.t 7)),jD 68 (.fieldAddr 0 (.t 15)),jD 69 (.load false 1 (.t 68)),jM 70 16,jD 71 (.indexAddr 4 (.t 69) (.t 70)),jD 72 (.fieldAddr 0 (.t 71)),jD 73 (.fieldAddr 2 (.t 72)),jD 74 (.load false 1 (.t 73)),jM 75 17,jD 76 (.indexAddr 3 (.t 74) (.t 75)),jD 77 (.load true 3 (.t 76)),jD 78 (.call f_z2w [(.t 67),(.t 77)]),jM 79 10,jD 80 (.bin .gtr (.t 78) (.t 79))]) (.cond (.t 80) (.region [ iD 81 (.fieldAddr 0 (.t 15)),iD 82 (.load false 1 (.t 81)),iM 83 16,iD 84 (.indexAddr 4 (.t 82) (.t 83)),iD 85 (.fieldAddr 3 (.t 84)),iD 86 (.load false 1 (.t 85)),iM 87 17,iD 88 (.indexAddr 1 (.t 86) (.t 87)),iN (.store 1 (.t 88) (cI 15))]) .skip)))) (.region [ iD 89 (.bin .add (.t 64) (cI 1)),iM 64 89]))))))))) (.region [ iD 90 (.bin .add (.t 54) (cI 1)),iM 54 90])))))) .ghost)) (.seq (.region [ iD 92 (.load true 1 (.t 15)),iD 93 (.load true 7 (.t 7)),iD 94 (.call f_z0t [(.t 92),(.t 93)]),iM 91 94,iD 95 (.extract (.t 91) 0),iD 96 (.extract (.t 91) 1),iM 18 95,iM 19 96]) (.seq (.region [ iM 97 12,iD 98 (.bin .eql (.t 97) (cI 0)),iM 99 98,⟨(some 100),.move (.t 14),some (some 99,true)⟩,⟨(some 101),.bin .eql (.t 100) (cI 0),some (some 99,true)⟩,iD 102 (.pick (.t 99) (.t 101) (.c (.bool false))),iM 103 102,⟨(some 104),.move (.t 19),some (some 103,true)⟩,⟨(some 105),.bin .eql (.t 104) (cI 0),some (some 103,true)⟩,iD 106 (.pick (.t 103) (.t 105) (.c (.bool false))),iM 107 106,⟨(some 108),.move (.t 13),some (some 107,true)⟩,⟨(some 109),.move (.t 18),some (some 107,true)⟩,⟨(some 110),.call f_z2h [(.t 108),(.t 109)],some (some 107,true)⟩,iD 111 (.pick (.t 107) (.t 110) (.c (.bool false))),iM 112 111,⟨(some 113),.call f_z27 [],some (some 112,true)⟩,iD 114 (.pick (.t 112) (.t 113) (.c (.bool false))),iM 6 114]) .ret))))))))))⟩
structure F_z26 (P : Program) where
 id : FuncId
 z27 : F_z27 P
 z28 : F_z28 P
 z3y : F_z3y P
 z0v : F_z0v P
 z0l : F_z0l P
 z0f : F_z0f P
 z2z : F_z2z P
 z2w : F_z2w P
 z0t : F_z0t P
 z2h : F_z2h P
 has : Has P id [100015, 200000] (c_z26 z27.id z28.id z3y.id z0v.id z0l.id z0f.id z2z.id z2w.id z0t.id z2h.id)
variable [Draws]
attribute [local irreducible] ACalls
theorem recSnoc {H : List AObj} {o : AObj} {n : Nat} {k : Nat → List AObj → Prop} (h : k (n + H.length) (H ++ [o])) :
  @List.rec AObj (fun _ => Nat → (Nat → List AObj → Prop) → Prop) (fun n k => k n [o]) (fun x _ ih n k => ih (n + 1) fun i xs' => k i (x :: xs')) H n k := by
 have e := snocK_eq H o n k
 have : snocK H o n k := by rw [e]; exact h
 exact this
def dlO (b : Nat) (x : Del) : List AVal := [.str x.f.id, .str x.f.src, .list false 3 (rC x.f.recs), .sl b x.jd.length 0 x.jd.length]
def dsO (b : Nat) : List Del → List (List AVal)
 | [] => []
 | x :: l => dlO b x :: dsO (b + 1) l
theorem dsO_length : ∀ (b : Nat) (l : List Del), (dsO b l).length = l.length
 | _, [] => rfl
 | b, x :: l => by rw [dsO, List.length_cons, dsO_length, List.length_cons]
theorem dsO_snoc : ∀ (b : Nat) (l : List Del) (x : Del), dsO b (l ++ [x]) = dsO b l ++ [dlO (b + l.length) x]
 | b, [], x => rfl
 | b, y :: l, x => by
  rw [List.cons_append, dsO, dsO_snoc (b + 1) l x, dsO, List.cons_append, List.length_cons, show b + 1 + l.length = b + (l.length + 1) by omega]
theorem dsO_at : ∀ (b : Nat) {l : List Del} {k : Nat} {x : Del}, l[k]? = some x → (dsO b l)[k]? = some (dlO (b + k) x)
 | _, [], _, _, h => by simp at h
 | b, y :: l, 0, x, h => by cases h; rfl
 | b, y :: l, k + 1, x, h => by
  rw [dsO, List.getElem?_cons_succ, dsO_at (b + 1) (by simpa using h), show b + 1 + k = b + (k + 1) by omega]
def jsO (l : List Del) : List AObj := l.map fun x => .arr 1 (iC x.jd)
theorem jsO_length (l : List Del) : (jsO l).length = l.length := List.length_map ..
theorem jsO_at {l : List Del} {k : Nat} {x : Del} (h : l[k]? = some x) : (jsO l)[k]? = some (.arr 1 (iC x.jd)) := by rw [jsO, List.getElem?_map, h]; rfl
theorem gpO_mk {H : List AObj} {ids : List Nat} : ∀ {is : List Nat} {r : List AObj}, is.length = r.length → (∀ (j id : Nat) (o1 : AObj), is[j]? = some id → r[j]? = some o1 → ∃ o, H[id]? = some o ∧ ObP H ids o o1) → gpO H ids is r
 | [], [], _, _ => trivial
 | [], _ :: _, h, _ => by simp at h
 | _ :: _, [], h, _ => by simp at h
 | id :: is, o1 :: r, hl, h => ⟨h 0 id o1 rfl rfl, gpO_mk (by simpa using hl) fun j id o1 h1 h2 => h (j + 1) id o1 (by simpa using h1) (by simpa using h2)⟩
theorem dsO_inv {b : Nat} {l : List Del} {i : Nat} {e : List AVal} (h : (dsO b l)[i]? = some e) : ∃ x, l[i]? = some x ∧ e = dlO (b + i) x := by
 have hi := (List.getElem?_eq_some_iff.1 h).1
 rw [dsO_length] at hi
 have hx : l[i]? = some l[i] := List.getElem?_eq_getElem hi
 rw [dsO_at b hx] at h
 exact ⟨_, hx, (Option.some.inj h).symm⟩
theorem obDs {H : List AObj} {ids : List Nat} (b b' : Nat) (l : List Del) (h : ∀ j, j < l.length → ids[b' + j]? = some (b + j)) : ObP H ids (.arr 4 (dsO b l)) (.arr 4 (dsO b' l)) := by
 refine .map 4 _ _ (by rw [dsO_length, dsO_length]) (fun i e e1 h1 h2 => ?_) fun i j e e1 d d1 h1 h2 h3 h4 => ?_
 ·obtain ⟨x, _, rfl⟩ := dsO_inv h1
  obtain ⟨y, _, rfl⟩ := dsO_inv h2
  rfl
 ·obtain ⟨x, hx, rfl⟩ := dsO_inv h1
  obtain ⟨y, hy, rfl⟩ := dsO_inv h2
  rw [hx] at hy; cases hy
  have hi := (List.getElem?_eq_some_iff.1 hx).1
  rcases j with _ | _ | _ | _ | j
  ·cases h3; cases h4; exact ⟨.closed _ rfl, rfl⟩
  ·cases h3; cases h4; exact ⟨.closed _ rfl, rfl⟩
  ·cases h3; cases h4; exact ⟨.closed _ rfl, rfl⟩
  ·cases h3; cases h4; exact ⟨pubSl (h i hi) (Nat.zero_add _).symm rfl rfl, rfl⟩
  ·simp [dlO] at h3
theorem renDs {σ : Nat → Nat} (b b' : Nat) (l : List Del) (h : ∀ j, j < l.length → σ (b + j) = b' + j) : RenNO σ (.arr 4 (dsO b l)) (.arr 4 (dsO b' l)) := by
 refine .arr 4 _ _ (by rw [dsO_length, dsO_length]) (fun i e e1 h1 h2 => ?_) fun i j e e1 d d1 h1 h2 h3 h4 => ?_
 ·obtain ⟨x, _, rfl⟩ := dsO_inv h1
  obtain ⟨y, _, rfl⟩ := dsO_inv h2
  rfl
 ·obtain ⟨x, hx, rfl⟩ := dsO_inv h1
  obtain ⟨y, hy, rfl⟩ := dsO_inv h2
  rw [hx] at hy; cases hy
  have hi := (List.getElem?_eq_some_iff.1 hx).1
  rcases j with _ | _ | _ | _ | j
  ·cases h3; cases h4; exact .closed _ rfl
  ·cases h3; cases h4; exact .closed _ rfl
  ·cases h3; cases h4; exact .closed _ rfl
  ·cases h3; cases h4; rw [← h i hi]; exact .sl _ _ _ _
  ·simp [dlO] at h3
theorem jsO_pure {l : List Del} {i : Nat} {o : AObj} (h : (jsO l)[i]? = some o) : o.clean = true ∧ ∃ x, l[i]? = some x ∧ o = .arr 1 (iC x.jd) := by
 have hi := (List.getElem?_eq_some_iff.1 h).1
 rw [jsO_length] at hi
 have hx : l[i]? = some l[i] := List.getElem?_eq_getElem hi
 rw [jsO_at hx] at h
 cases h
 exact ⟨pureEs_iC _, _, hx, rfl⟩
set_option maxRecDepth 20000 in
theorem copyDelivery_own {P : Program} (F : F_z32 P) (x : Del) (hx : x.ok) (H : List AObj) :
  ACalls P F.id [.agg (delC x)] H (fun r H' => r = .agg (dlO H.length x) ∧ H' = H ++ [.arr 1 (iC x.jd)]) := by
 obtain ⟨h1, h2, h3⟩ := hx
 have h0 : ACalls P F.id [.agg (delC x)] [] (fun r H1 => r = .agg (dlO 2 x) ∧ ∃ a b, H1 = [a, b, .arr 1 (iC x.jd)]) := by
  refine acalls_of_body F.has ?_
  (conv => whnf); refine ⟨_, CopyFile_spec F.z2m x.f h1 h2 _, ?_⟩
  (conv => whnf); refine And.intro (⟨roomMul (by rw [iC_length]; omega) (by omega), roomB_le (by rw [iC_length]; omega)⟩) ?_
  repeat ((conv => whnf); refine And.intro rfl ?_)
  conv => whnf
  refine ⟨?_, _, _, rfl⟩
  show AVal.agg [.str x.f.id, .str x.f.src, .list false 3 (rC x.f.recs), .sl 2 (iC x.jd).length 0 (iC x.jd).length] = _
  rw [iC_length]; rfl
 refine ACalls.lift (by simp [delC, AVal.closed, AVal.isPure]) h0 ?_
 rintro r H1 ⟨rfl, a, b, rfl⟩
 refine ⟨[2], .agg (dlO H.length x), [.arr 1 (iC x.jd)], .agg _ _ rfl fun i v r h1 h2 => ?_, by simp, rfl, fun k id hk => ?_, rfl, rfl⟩
 ·rcases i with _ | _ | _ | _ | i
  ·cases h1; cases h2; exact .closed _ rfl
  ·cases h1; cases h2; exact .closed _ rfl
  ·cases h1; cases h2; exact .closed _ rfl
  ·cases h1; cases h2; exact pubSl (k := 0) rfl (Nat.add_zero _).symm rfl rfl
  ·simp [dlO] at h1
 ·cases k with
  | zero => simp at hk; subst hk; exact ⟨rfl, 1, _, rfl, pureEs_iC _⟩
  | succ k => simp at hk
set_option maxHeartbeats 1000000 in
set_option maxRecDepth 20000 in
theorem CopyLedger_bodyN {P : Program} (F : F_z2z P) (l : List Del) (hl : l.length ≤ 1000) (hok : ∀ x ∈ l, x.ok) :
  ACalls P F.id [.agg (ledC l)] [] (fun r H1 => (l = [] ∧ r = .agg [.nil]) ∨ (l ≠ [] ∧ r = .agg [.sl 3 l.length 0 l.length] ∧ H1 = bL l :: cN 3 l.length :: cN 3 l.length :: .arr 4 (dsO 4 l) :: jsO l)) := by
 refine acalls_of_body F.has ?_
 conv => whnf
 refine ⟨fun m ρ H1 => ∃ (k : Nat), k + m = l.length ∧ ((k = 0 ∧ H1 = [bL l, .arr 1 [[.nil]], .arr 1 [[.nil]]]) ∨ (0 < k ∧ H1 = bL l :: .arr 1 [[.nil]] :: cN 3 k :: .arr 4 (dsO 4 (l.take k)) :: jsO (l.take k))) ∧ Sv 24 [(1, .ptr 0 1 0 0), (2, .ptr 1 1 0 0), (3, .ptr 2 1 0 0), (4, .int .i64 k)] ρ, l.length, [], ?_, ?_⟩
 ·exact ⟨0, by omega, .inl ⟨rfl, rfl⟩, Sv.intro rfl ⟨rfl, rfl, rfl, rfl, trivial⟩⟩
 rintro m ρ H1 ⟨k, hk, hc, d, rfl⟩
 rcases hc with ⟨rfl, rfl⟩ | ⟨hk0, rfl⟩
 ·(conv => whnf); refine recA (fun hlt => ?_) (fun hlt => ?_)
  ·simp [dsC_length] at hlt
   have hx : l[0]? = some l[0] := List.getElem?_eq_getElem hlt
   have hrl := hok _ (List.getElem_mem hlt)
   generalize l[0] = x at hx hrl
   (conv => whnf); refine And.intro (by omega) ?_
   (conv => whnf); refine recO (dsC_at hx) ?_
   (conv => whnf); refine ⟨_, _, copyDelivery_own F.z32 x hrl _, ?_⟩
   (conv => whnf); refine And.intro (⟨roomMul (by simp) (by omega), roomB_le (by simp)⟩) ?_
   repeat ((conv => whnf); refine And.intro rfl ?_)
   conv => whnf
   have hT : l.take 1 = [x] := by rw [take_snoc hx]; rfl
   refine ⟨m - 1, by omega, Gp.some (H1 := [bL l, .arr 1 [[.nil]], cN 3 1, .arr 4 (dsO 4 [x]), .arr 1 (iC x.jd)]) [0, 1, 2, 5, 3] (by simp) ⟨⟨_, rfl, .same _ _ (pureL l)⟩, ⟨_, rfl, .same _ _ rfl⟩, ⟨_, rfl, ob11 (pubSl (k := 3) rfl rfl rfl rfl) rfl⟩, ⟨_, rfl, ob4 rfl (.keep 3 _ _ _ 4 rfl) rfl⟩, ⟨_, rfl, .same _ _ (pureEs_iC _)⟩, trivial⟩ rfl ?_ fun ρ1 h => ⟨1, by omega, .inr ⟨by omega, by rw [hT]; rfl⟩, h⟩⟩
   exact ⟨.keepP 0 1 0 0 0 rfl, .keepP 1 1 0 0 1 rfl, .keepP 2 1 0 0 2 rfl, pub_int (by decide), trivial⟩
  ·simp [dsC_length] at hlt
   conv => whnf
   exact .inl ⟨hlt, rfl⟩
 ·(conv => whnf); refine recA (fun hlt => ?_) (fun hlt => ?_)
  ·simp [dsC_length] at hlt
   have hx : l[k]? = some l[k] := List.getElem?_eq_getElem hlt
   have hrl := hok _ (List.getElem_mem hlt)
   generalize l[k] = x at hx hrl
   have hT : l.take (k + 1) = l.take k ++ [x] := take_snoc hx
   have hTl : (l.take k).length = k := by rw [List.length_take]; omega
   generalize l.take k = T at hT hTl
   have hcd : ACalls P F.z32.id [.agg (delC x)] (bL l :: .arr 1 [[.nil]] :: cN 3 k :: .arr 4 (dsO 4 T) :: jsO T) (fun r H' => r = .agg (dlO (4 + k) x) ∧ H' = bL l :: .arr 1 [[.nil]] :: cN 3 k :: .arr 4 (dsO 4 T) :: (jsO T ++ [.arr 1 (iC x.jd)])) := by
    have := copyDelivery_own F.z32 x hrl (bL l :: .arr 1 [[.nil]] :: cN 3 k :: .arr 4 (dsO 4 T) :: jsO T)
    have e : (bL l :: .arr 1 [[.nil]] :: cN 3 k :: .arr 4 (dsO 4 T) :: jsO T : List AObj).length = 4 + k := by simp only [List.length_cons, jsO_length, hTl]; omega
    rw [e] at this
    exact this
   have e5 : 0 + 1 + 1 + 1 + 1 + (jsO T ++ [AObj.arr 1 (iC x.jd)]).length = 5 + k := by simp only [List.length_append, jsO_length, hTl, List.length_cons, List.length_nil]; omega
   (conv => whnf); refine And.intro (by omega) ?_
   (conv => whnf); refine recO (dsC_at hx) ?_
   (conv => whnf); refine ⟨_, _, hcd, ?_⟩
   conv => whnf
   refine recSnoc ?_
   rw [e5]
   conv => whnf
   refine recO (e := .arr 4 [dlO (4 + k) x]) ?_ ?_
   ·rw [show 5 + k = (k + 1) + 4 by omega]
    show (jsO T ++ [AObj.arr 1 (iC x.jd)] ++ [AObj.arr 4 [dlO (4 + k) x]])[k + 1]? = _
    rw [List.getElem?_append_right (by simp only [List.length_append, jsO_length, hTl, List.length_cons, List.length_nil]; omega)]
    simp only [List.length_append, jsO_length, hTl, List.length_cons, List.length_nil, Nat.zero_add, Nat.sub_self]
    rfl
   (conv => whnf); refine recT (by rw [dsO_length, hTl]; exact Nat.beq_refl _) ?_
   (conv => whnf); refine And.intro (⟨roomMul (by simp; omega) (by omega), roomB_le (by simp; omega), rfl, by rw [dsO_length, hTl]⟩) ?_
   repeat ((conv => whnf); refine And.intro rfl ?_)
   conv => whnf
   have hdn : dsO 4 T ++ [dlO (4 + k) x] = dsO 4 (T ++ [x]) := by rw [dsO_snoc, hTl]
   have hjn : jsO T ++ [AObj.arr 1 (iC x.jd)] = jsO (T ++ [x]) := by rw [jsO, jsO, List.map_append]; rfl
   have hL2 : (dsO 4 T ++ [dlO (4 + k) x]).length = k + 1 := by rw [hdn, dsO_length, List.length_append, hTl]; rfl
   have ho4 : ∀ H, ObP H (List.range (5 + k)) (.arr 4 (dsO 4 T ++ [dlO (4 + k) x])) (.arr 4 (dsO 4 (T ++ [x]))) := fun H => by
    rw [hdn]
    exact obDs 4 4 _ fun j hj => List.getElem?_range (by rw [List.length_append, hTl] at hj; simp at hj; omega)
   have hTx : (T ++ [x]).length = k + 1 := by rw [List.length_append, hTl]; rfl
   have hr : ∀ j, j < 5 + k → (List.range (5 + k))[j]? = some j := fun j hj => List.getElem?_range hj
   refine ⟨m - 1, by omega, Gp.some (H1 := bL l :: .arr 1 [[.nil]] :: cN 3 (k + 1) :: .arr 4 (dsO 4 (T ++ [x])) :: jsO (T ++ [x])) (List.range (5 + k)) List.nodup_range (gpO_mk (by simp only [List.length_range, List.length_cons, jsO_length, hTx]; omega) fun j id o1 h1 h2 => ?_) rfl ?_ fun ρ1 h => ⟨k + 1, by omega, .inr ⟨by omega, by rw [hT]⟩, h⟩⟩
   ·have hjl := (List.getElem?_eq_some_iff.1 h1).1
    rw [List.length_range] at hjl
    rw [hr j hjl] at h1
    cases h1
    rcases j with _ | _ | _ | _ | j
    ·cases h2; exact ⟨_, rfl, .same _ _ (pureL l)⟩
    ·cases h2; exact ⟨_, rfl, .same _ _ rfl⟩
    ·cases h2; exact ⟨_, rfl, ob11 (pubSl (k := 3) (hr 3 (by omega)) rfl hL2 hL2) rfl⟩
    ·cases h2; exact ⟨_, rfl, ho4 _⟩
    ·have h3 : (jsO (T ++ [x]))[j]? = some o1 := h2
     have hjl2 := (List.getElem?_eq_some_iff.1 h3).1
     obtain ⟨_, y, _, rfl⟩ := jsO_pure h3
     refine ⟨.arr 1 (iC y.jd), ?_, .same _ _ (pureEs_iC _)⟩
     show (jsO T ++ [AObj.arr 1 (iC x.jd)] ++ [_])[j]? = _
     rw [hjn, List.getElem?_append_left hjl2]; exact h3
   ·exact ⟨.keepP 0 1 0 0 0 (hr 0 (by omega)), .keepP 1 1 0 0 1 (hr 1 (by omega)), .keepP 2 1 0 0 2 (hr 2 (by omega)), pub_int (wrapI _ (by omega) (by omega)), trivial⟩
  ·simp [dsC_length] at hlt
   have hkl : k = l.length := by omega
   subst hkl
   rw [List.take_length]
   conv => whnf
   exact .inr ⟨by intro e; rw [e] at hk0; simp at hk0, rfl, rfl⟩
theorem CopyLedger_own3 {P : Program} (F : F_z2z P) (l : List Del) (hl : l.length ≤ 1000) (hne : l ≠ []) (hok : ∀ x ∈ l, x.ok) (o0 o1 o2 : AObj) :
  ACalls P F.id [.agg (ledC l)] [o0, o1, o2] (fun r H' => r = .agg [.sl 6 l.length 0 l.length] ∧ H' = o0 :: o1 :: o2 :: bL l :: cN 6 l.length :: cN 6 l.length :: .arr 4 (dsO 7 l) :: jsO l) := by
 have σ : ∀ k, frM [] [o0, o1, o2].length k = 3 + k := fun k => by rw [frM_ge (by simp)]; simp
 refine ACalls.frameN (H0 := []) [] List.nodup_nil rfl (fun k id x h => by simp at h) rfl (fun i a b h1 h2 => ?_) (CopyLedger_bodyN F l hl hok) ?_
 ·obtain ⟨rfl, rfl⟩ := one_get h1
  cases h2; exact .closed _ rfl
 ·rintro r H1 (⟨hn, _⟩ | ⟨_, rfl, rfl⟩) _
  ·exact absurd hn hne
  refine ⟨.agg [.sl 6 l.length 0 l.length], o0 :: o1 :: o2 :: bL l :: cN 6 l.length :: cN 6 l.length :: .arr 4 (dsO 7 l) :: jsO l, .agg _ _ rfl fun i v q h1 h2 => ?_, by simp only [List.length_cons, List.length_nil]; omega, fun k x hx => ?_, fun j hj _ => ?_, rfl, rfl⟩
  ·obtain ⟨rfl, rfl⟩ := one_get h1
   cases h2
   have := RenN.sl (σ := frM [] [o0, o1, o2].length) 3 l.length 0 l.length
   rwa [σ 3] at this
  ·rw [σ k]
   rcases k with _ | _ | _ | _ | k
   ·cases hx; exact ⟨_, rfl, .same (pureL l)⟩
   ·cases hx; exact ⟨_, rfl, ren11 (by have := RenN.sl (σ := frM [] [o0, o1, o2].length) 3 l.length 0 l.length; rwa [σ 3] at this)⟩
   ·cases hx; exact ⟨_, rfl, ren11 (by have := RenN.sl (σ := frM [] [o0, o1, o2].length) 3 l.length 0 l.length; rwa [σ 3] at this)⟩
   ·cases hx; exact ⟨_, rfl, renDs 4 7 l fun j hj => by rw [σ]; omega⟩
   ·have h3 : (jsO l)[k]? = some x := hx
    rw [show 3 + (k + 4) = k + 7 by omega]
    exact ⟨x, h3, .same (jsO_pure h3).1⟩
  ·rcases j with _ | _ | _ | j
   ·rfl
   ·rfl
   ·rfl
   ·simp at hj; omega
def lateJ (s : Sou) (t : Int) : List Rec → List Int → List Int
 | r :: rs, q :: qs => (if timeV s r > t then 15 else q) :: lateJ s t rs qs
 | _, qs => qs
theorem lateJ_length (s : Sou) (t : Int) : ∀ (rs : List Rec) (qs : List Int), (lateJ s t rs qs).length = qs.length
 | [], qs => by cases qs <;> rfl
 | _ :: _, [] => rfl
 | r :: rs, q :: qs => by rw [lateJ, List.length_cons, lateJ_length s t rs qs, List.length_cons]
theorem lateJ_at (s : Sou) (t : Int) : ∀ {rs : List Rec} {qs : List Int} {k : Nat} {r : Rec} {q : Int}, rs[k]? = some r → qs[k]? = some q → (lateJ s t rs qs)[k]? = some (if timeV s r > t then 15 else q)
 | [], _, k, r, q, h, _ => by simp at h
 | _ :: _, [], k, r, q, _, h => by simp at h
 | r0 :: rs, q0 :: qs, k, r, q, h1, h2 => by
  rw [lateJ]
  cases k with
  | zero => cases h1; cases h2; rfl
  | succ k => exact lateJ_at s t (by simpa using h1) (by simpa using h2)
def lateD (s : Sou) (t : Int) (x : Del) : Del := ⟨x.f, lateJ s t x.f.recs x.jd⟩
theorem couR_late (s : Sou) (t : Int) (i : Nat) (jd jd' : List Int) (hl : jd'.length = jd.length) : ∀ (rs : List Rec) (k : Nat), (∀ (j : Nat) (r : Rec), rs[j]? = some r → k + j < jd.length → jd'.getD (k + j) 1 = if timeV s r > t then 15 else jd.getD (k + j) 1) →
  couR s i jd' k rs = (couR s i jd k rs).filter fun v => decide (tiV s v ≤ t)
 | [], _, _ => rfl
 | r :: rs, k, h => by
  have ih := couR_late s t i jd jd' hl rs (k + 1) fun j r hr hj => by
   have := h (j + 1) r (by simpa using hr) (by omega)
   rwa [show k + (j + 1) = k + 1 + j by omega] at this
  have h0 := h 0 r rfl
  rw [Nat.add_zero] at h0
  rw [couR, couR, ih]
  by_cases hk : k < jd.length
  ·rw [h0 hk]
   by_cases ht : timeV s r > t
   ·rw [if_pos ht, if_neg (fun e => by omega)]
    split
    ·rw [List.filter_cons, if_neg]
     rw [decide_eq_true_eq]
     show ¬ timeV s r ≤ t
     omega
    ·rfl
   ·rw [if_neg ht, hl]
    split
    ·rw [List.filter_cons, if_pos]
     rw [decide_eq_true_eq]
     show timeV s r ≤ t
     omega
    ·rfl
  ·rw [if_neg (fun e => hk (by omega)), if_neg (fun e => hk (by omega))]
theorem couD_late (s : Sou) (t : Int) (i : Nat) (x : Del) : couD s i (lateD s t x) = (couD s i x).filter fun v => decide (tiV s v ≤ t) := by
 unfold couD
 show (if eqS x.f.src s.name then couR s i (lateJ s t x.f.recs x.jd) 0 x.f.recs else []) = _
 split
 ·refine couR_late s t i x.jd _ (lateJ_length s t _ _) x.f.recs 0 fun j r hr hj => ?_
  rw [Nat.zero_add] at hj ⊢
  have hq : x.jd[j]? = some x.jd[j] := List.getElem?_eq_getElem hj
  rw [List.getD_eq_getElem?_getD, List.getD_eq_getElem?_getD, lateJ_at s t hr hq, hq]; rfl
 ·rfl
theorem couL_late (s : Sou) (t : Int) : ∀ (l : List Del) (i : Nat), couL s i (l.map (lateD s t)) = (couL s i l).filter fun v => decide (tiV s v ≤ t)
 | [], _ => rfl
 | x :: l, i => by rw [List.map_cons, couL, couL, couD_late, couL_late s t l, List.filter_append]
theorem delivV_jd (s : Src) (ls : List Int) (i : Nat) (id : ByteArray) (l : List Del) (h : ∀ x ∈ l, x.jd.length = x.f.recs.length) : ∀ x ∈ (delivV s ls i id l).1, x.jd.length = x.f.recs.length := by
 show ∀ x ∈ (match accOk (souS s) l ⟨id, sName, (wfRI s ls (nx ls i 1).2).1⟩ with | some l' => l' | none => l : List Del), x.jd.length = x.f.recs.length
 generalize (wfRI s ls (nx ls i 1).2).1 = R
 rcases accX_cases (souS s) l ⟨id, sName, R⟩ with ⟨h1, _⟩ | ⟨x, h1, _⟩ | ⟨h1, _⟩
 ·rw [h1]; exact h
 ·rw [h1]; exact h
 ·rw [h1]
  intro x hx
  rcases List.mem_append.1 hx with hx | hx
  ·exact h x hx
  ·rw [List.mem_singleton.1 hx]; exact List.length_map ..
theorem ledGo_jd (s : Src) (ls : List Int) : ∀ (m k i : Nat) (l : List Del), (∀ x ∈ l, x.jd.length = x.f.recs.length) → ∀ x ∈ (ledGo s ls m k i l).1, x.jd.length = x.f.recs.length
 | 0, _, _, _, h => h
 | m + 1, k, i, l, h => by
  rw [ledGo]
  exact ledGo_jd s ls m _ _ _ (delivV_jd s ls _ _ _ h)
theorem ledV_jd (s : Src) (ls : List Int) : ∀ x ∈ (ledV s ls).1, x.jd.length = x.f.recs.length := ledGo_jd s ls 4 0 0 [] fun x h => by cases h
theorem setSelfL {α : Type} {l : List α} {k : Nat} {x : α} (h : l[k]? = some x) : l.set k x = l := by
 obtain ⟨hk, rfl⟩ := List.getElem?_eq_some_iff.1 h
 exact List.set_getElem_self hk
theorem jsO_set (l : List Del) (k : Nat) (y : Del) : jsO (l.set k y) = (jsO l).set k (.arr 1 (iC y.jd)) := by rw [jsO, jsO, List.map_set]
def lateE (s : Sou) (t : Int) (l : List Del) (k : Nat) : List Del := (l.take k).map (lateD s t) ++ l.drop k
theorem lateE_len (s : Sou) (t : Int) (l : List Del) (k : Nat) : (lateE s t l k).length = l.length := by
 rw [lateE, List.length_append, List.length_map, List.length_take, List.length_drop]; omega
theorem lateE_at {s : Sou} {t : Int} {l : List Del} {k : Nat} {x : Del} (h : l[k]? = some x) : (lateE s t l k)[k]? = some x := by
 have hk := (List.getElem?_eq_some_iff.1 h).1
 have hl : ((l.take k).map (lateD s t)).length = k := by rw [List.length_map, List.length_take]; omega
 rw [lateE, List.getElem?_append_right (by omega), hl, Nat.sub_self, List.getElem?_drop, Nat.add_zero, h]
theorem lateE_next {s : Sou} {t : Int} {l : List Del} {k : Nat} {x : Del} (h : l[k]? = some x) : (lateE s t l k).set k (lateD s t x) = lateE s t l (k + 1) := by
 have hk := (List.getElem?_eq_some_iff.1 h).1
 have hl : ((l.take k).map (lateD s t)).length = k := by rw [List.length_map, List.length_take]; omega
 rw [lateE, List.set_append_right _ _ (by omega), hl, Nat.sub_self, drop_cons h, List.set_cons_zero, lateE, take_snoc h, List.map_append, List.append_assoc]; rfl
theorem dsO_late (s : Sou) (t : Int) : ∀ (b : Nat) (l : List Del), dsO b (l.map (lateD s t)) = dsO b l
 | _, [] => rfl
 | b, x :: l => by
  rw [List.map_cons, dsO, dsO, dsO_late s t (b + 1) l]
  have : dlO b (lateD s t x) = dlO b x := by
   unfold dlO lateD
   simp only [lateJ_length]
  rw [this]
theorem pubDs {H : List AObj} {ids : List Nat} {id b n : Nat} (l : List Del) (m : Nat) (hid : id ∉ ids) (ho : H[id]? = some (.arr 4 (dsO b l))) (hj : ∀ (j : Nat) (x : Del), l[j]? = some x → H[b + j]? = some (.arr 1 (iC x.jd))) (hb : ∀ j, b + j ∉ ids) (hn : n = l.length) :
  Pub H m ids (.sl id n 0 n) (.list false 4 (dsC l)) := by
 subst hn
 have h := Pub.frzN (n := m) id l.length 0 l.length 4 (dsO b l) (dsC l) ho (dsO_length b l).symm hid (by rw [dsC_length, dsO_length]) (fun i e e1 h1 h2 => ?_) (fun i j e1 d1 h1 h2 => ?_) (fun i j e e1 d d1 h1 h2 h3 h4 => ?_)
 ·have e : ((dsC l).drop 0).take l.length = dsC l := by rw [List.drop_zero, ← dsC_length l, List.take_length]
  rwa [e] at h
 ·obtain ⟨x, _, rfl⟩ := dsO_inv h1
  rw [dsC, List.getElem?_map] at h2
  obtain ⟨y, _, rfl⟩ := Option.map_eq_some_iff.1 h2
  rfl
 ·rw [dsC, List.getElem?_map] at h1
  obtain ⟨y, _, rfl⟩ := Option.map_eq_some_iff.1 h1
  exact List.all_eq_true.1 (show (delC y).all AVal.isPure = true from rfl) d1 (List.mem_of_getElem? h2)
 ·obtain ⟨x, hx, rfl⟩ := dsO_inv h1
  rw [dsC, List.getElem?_map, hx] at h2
  cases h2
  rcases j with _ | _ | _ | _ | j
  ·cases h3; cases h4; exact .closed _ rfl
  ·cases h3; cases h4; exact .closed _ rfl
  ·cases h3; cases h4; exact .closed _ rfl
  ·cases h3; cases h4
   exact pubFI (hb i) (hj i x hx) (iC_length _).symm (iC_length _).symm (pureEs_iC _)
  ·simp [dlO] at h3
set_option maxHeartbeats 4000000 in
set_option maxRecDepth 20000 in
theorem law_HistoryTravels {P : Program} (F : F_z26 P) (hV : SortVr P F.z0v.z1n.id F.z0v.z0x.id) (hV2 : SortVr P F.z0t.z0v.z1n.id F.z0t.z0v.z0x.id) (hC : SortE P F.z0t.z1m.id F.z0t.z0u.id) (hI : SortE P F.z0l.z1m.id F.z0l.z0m.id) (hS : SortE P F.z0f.z0p.z00.z05.z1m.id F.z0f.z0p.z00.z05.z06.id) (hI2 : SortE P F.z27.z0l.z1m.id F.z27.z0l.z0m.id) (hS3 : SortE P F.z27.z0j.z0p.z00.z05.z1m.id F.z27.z0j.z0p.z00.z05.z06.id) (hS4 : SortE P F.z27.z0f.z0p.z00.z05.z1m.id F.z27.z0f.z0p.z00.z05.z06.id)
  (n : Int) (ls : List Int) (b : Int) :
  ACalls P F.id [.int .i64 n, .list false 1 (iC ls), .int .i64 b] [] (fun q _ => q = .bool true) := by
 have known := fun H => known27_spec F.z27 hI2 hS3 hS4 H
 refine acalls_of_body F.has ?_
 (conv => whnf); refine recA (fun h1 => ?_) (fun h1 => ?_)
 ·(conv => whnf); refine ACalls.use (known _) ?_
  conv => whnf
 simp [iC_length] at h1
 have hs := wgood n
 obtain ⟨m1, m2, m3⟩ := made_ok n ls
 have hld := mLed_len n ls
 have hvs := fun H => Versions_spec F.z0v hV (souS (wsrc n)) hs (ledV (wsrc n) ls).1 hld m3 H
 have v1 := mL_len n ls
 have v2 := mL_ok n ls
 have v3 := mL_uq n ls
 rw [← mL] at hvs
 have hiv := fun H => Intervals_srt F.z0l hI (souS (wsrc n)) hs (mL n ls) (by omega) v2 v3 H
 have hjd := ledV_jd (wsrc n) ls
 have hcl0 : couL (souS (wsrc n)) 0 (ledV (wsrc n) ls).1 = mL n ls := rfl
 (conv => whnf); refine ACalls.mono (made_spec F.z28 n ls (by omega) _) ?_
 rintro r H' ⟨rfl, rfl⟩
 generalize (ledV (wsrc n) ls).2 = g0
 generalize (ledV (wsrc n) ls).1 = l at m1 m2 m3 hld hvs hjd hcl0
 (conv => whnf); refine ACalls.use (Place_spec F.z3y b 9100 (by decide) (by decide) _) ?_
 have hm0 := Int.emod_nonneg b (show (9100 : Int) ≠ 0 by decide)
 have hm9 := Int.emod_lt_of_pos b (show (0 : Int) < 9100 by decide)
 obtain ⟨t, ht⟩ : ∃ t : Int, IntKind.i64.wrap (143990 + b % 9100) = t := ⟨_, rfl⟩
 have ht1 : 0 ≤ t ∧ t ≤ 575999999 := by rw [← ht, wrapI _ (by omega) (by omega)]; omega
 have hat : ∀ H, ACalls P F.z0f.id [.agg (souC (souS (wsrc n))), .list false 2 (eC (ivsV (souS (wsrc n)) (mL n ls))), .int .i64 t] H (fun r H' => r = .tuple [.list false 2 (eC (conV (souS (wsrc n)) ((mL n ls).filter fun v => decide (tiV (souS (wsrc n)) v ≤ t)))), .int .i64 0] ∧ H' = H) := fun H => by
  have := at_spec F.z0f hS (souS (wsrc n)) hs false (ivsV (souS (wsrc n)) (mL n ls)) t ht1 (ivs_bag hs v2 v3 (by omega)) (fun e he => ⟨(ivs_fit hs v2 v3 he).1, (ivs_fit hs v2 v3 he).2.1⟩) H
  rwa [at_con t v2 v3 (fun v hv hd => ok_fit hs (v2 v hv) hd) (by omega)] at this
 conv => whnf
 rw [ht]
 (conv => whnf); refine ⟨_, hvs _, ?_⟩
 (conv => whnf); refine ⟨_, hiv _, ?_⟩
 repeat ((conv => whnf); refine And.intro rfl ?_)
 (conv => whnf); refine ACalls.use (hat _) ?_
 have hten : (wsrc n).cols.length ≤ 10 := hs.ten
 have hct : ∀ H, ACalls P F.z0t.id [.agg (ledC (l.map (lateD (souS (wsrc n)) t))), .agg (souC (souS (wsrc n)))] H (fun r H' => r = .tuple [.list false 2 (eC (conV (souS (wsrc n)) ((mL n ls).filter fun v => decide (tiV (souS (wsrc n)) v ≤ t)))), .int .i64 0] ∧ H' = H) := fun H => by
  have := Contents_spec F.z0t hV2 hC (souS (wsrc n)) hs (l.map (lateD (souS (wsrc n)) t)) (by rw [List.length_map]; exact hld) (fun x hx => by
   obtain ⟨y, hy, rfl⟩ := List.mem_map.1 hx
   obtain ⟨a1, a2, a3⟩ := m3 y hy
   exact ⟨a1, a2, by show (lateJ _ _ _ _).length ≤ _; rw [lateJ_length]; exact a3⟩) (by rw [couL_late, hcl0]; exact Nat.le_trans (List.length_filter_le ..) (by omega)) H
  rwa [couL_late, hcl0] at this
 have huM : Uq (souS (wsrc n)) ((mL n ls).filter fun v => decide (tiV (souS (wsrc n)) v ≤ t)) := fun x hx y hy => v3 x (List.mem_filter.1 hx).1 y (List.mem_filter.1 hy).1
 have hse := fun H => sameEnt_refl F.z2h (conV (souS (wsrc n)) ((mL n ls).filter fun v => decide (tiV (souS (wsrc n)) v ≤ t))) (by
  have h1 := con_len (souS (wsrc n)) ((mL n ls).filter fun v => decide (tiV (souS (wsrc n)) v ≤ t))
  have h2 := List.length_filter_le (fun v => decide (tiV (souS (wsrc n)) v ≤ t)) (mL n ls)
  omega) (con_row hs (fun v hv => v2 v (List.mem_filter.1 hv).1) huM) H
 generalize conV (souS (wsrc n)) ((mL n ls).filter fun v => decide (tiV (souS (wsrc n)) v ≤ t)) = A at hat hct hse
 by_cases hl0 : l = []
 ·subst hl0
  (conv => whnf); refine ACalls.mono (CopyLedger_own F.z2z [] (by simp) m3 _) ?_
  rintro r H' (⟨_, rfl, rfl⟩ | ⟨h, _⟩)
  ·conv => whnf
   refine Ghost.some (n := 115) (live := [(7, .ptr 0 1 0 0), (10, .int .i64 t), (12, .int .i64 0), (13, .list false 2 (eC A)), (14, .int .i64 0), (15, .ptr 1 1 0 0)]) (H1 := [.arr 7 [srcC (wsrc n)], .arr 1 [[.nil]]]) [1, 3] (by simp) ⟨⟨_, rfl, .same _ _ rfl⟩, ⟨_, rfl, .same _ _ rfl⟩, trivial⟩ rfl
    ⟨.keepP 1 1 0 0 0 rfl, .closed _ rfl, .closed _ rfl, .closed (.list false 2 (eC A)) rfl, .closed _ rfl, .keepP 3 1 0 0 1 rfl, trivial⟩ ?_
   rintro ρ ⟨d, rfl⟩
   conv => whnf
   refine ⟨fun m ρ H1 => H1 = [.arr 7 [srcC (wsrc n)], .arr 1 [[.nil]]] ∧ Sv 115 [(7, .ptr 0 1 0 0), (12, .int .i64 0), (13, .list false 2 (eC A)), (14, .int .i64 0), (15, .ptr 1 1 0 0), (53, .int .i64 0), (54, .int .i64 0)] ρ, 0, [], ?_, ?_⟩
   ·exact ⟨rfl, Sv.intro rfl ⟨rfl, rfl, rfl, rfl, rfl, rfl, rfl, trivial⟩⟩
   rintro m ρ H1 ⟨rfl, d, rfl⟩
   conv => whnf
   refine Ghost.some (n := 115) (live := [(7, .ptr 0 1 0 0), (12, .int .i64 0), (13, .list false 2 (eC A)), (14, .int .i64 0), (15, .ptr 1 1 0 0)]) (H1 := [.arr 7 [srcC (wsrc n)], .arr 1 [[.nil]]]) [0, 1] (by simp) ⟨⟨_, rfl, .same _ _ rfl⟩, ⟨_, rfl, .same _ _ rfl⟩, trivial⟩ rfl
    ⟨.keepP 0 1 0 0 0 rfl, .closed _ rfl, .closed (.list false 2 (eC A)) rfl, .closed _ rfl, .keepP 1 1 0 0 1 rfl, trivial⟩ ?_
   rintro ρ ⟨d, rfl⟩
   (conv => whnf); refine ACalls.use (ACalls.weak (hct _) (.cons (.agg _ _ rfl fun i a b h1 h2 => by obtain ⟨rfl, rfl⟩ := one_get h1; cases h2; exact .nil _ _) (.cons (.refl _) .nil))) ?_
   (conv => whnf); refine ACalls.use (hse _) ?_
   (conv => whnf); refine ACalls.use (known _) ?_
   conv => whnf
  ·exact absurd rfl h
 (conv => whnf); refine ACalls.mono (CopyLedger_own3 F.z2z l (by omega) hl0 m3 _ _ _) ?_
 rintro r H' ⟨rfl, rfl⟩
 have e7 : 0 + 1 + 1 + 1 + 1 + 1 + 1 + 1 + (jsO l).length = l.length + 7 := by rw [jsO_length]; omega
 have hcell : ∀ c : List (List AVal), (jsO l ++ [AObj.arr 1 c])[l.length]? = some (.arr 1 c) := fun c => by
  rw [List.getElem?_append_right (by rw [jsO_length]; exact Nat.le_refl _), jsO_length, Nat.sub_self]; rfl
 conv => whnf
 refine recSnoc ?_
 rw [e7]
 (conv => whnf); refine recO (hcell _) ?_
 conv => whnf
 refine setOv (H' := jsO l ++ [cN 6 l.length]) (by rw [List.set_append_right _ _ (by rw [jsO_length]; exact Nat.le_refl _), jsO_length, Nat.sub_self]; rfl) ?_
 conv => whnf
 have hid3 : ∀ j, j < l.length → (1 :: (l.length + 7) :: 6 :: (List.range l.length).map (· + 7))[j + 3]? = some (j + 7) := fun j hj => by
  show ((List.range l.length).map (· + 7))[j]? = _
  rw [List.getElem?_map, List.getElem?_range hj]; rfl
 refine Ghost.some (n := 115) (live := [(7, .ptr 0 1 0 0), (10, .int .i64 t), (12, .int .i64 0), (13, .list false 2 (eC A)), (14, .int .i64 0), (15, .ptr 1 1 0 0)]) (H1 := .arr 7 [srcC (wsrc n)] :: cN 2 l.length :: .arr 4 (dsO 3 l) :: jsO l) (1 :: (l.length + 7) :: 6 :: (List.range l.length).map (· + 7)) ?nd (gpO_mk (by simp only [List.length_cons, List.length_map, List.length_range, jsO_length]) fun j id o1 h1 h2 => ?ob) rfl
  ⟨.keepP 1 1 0 0 0 rfl, .closed _ rfl, .closed _ rfl, .closed (.list false 2 (eC A)) rfl, .closed _ rfl, .keepP (l.length + 7) 1 0 0 1 rfl, trivial⟩ ?_
 case nd =>
  simp only [List.nodup_cons, List.mem_cons, List.mem_map, List.mem_range, not_or, not_exists, not_and]
  exact ⟨⟨by omega, by decide, fun x hx => by omega⟩, ⟨by omega, fun x hx => by omega⟩, fun x hx => by omega, List.pairwise_map.2 (List.nodup_range.imp fun h => by omega)⟩
 case ob =>
  rcases j with _ | _ | _ | j
  ·cases h1; cases h2; exact ⟨_, rfl, .same _ _ rfl⟩
  ·cases h1; cases h2; exact ⟨_, hcell _, ob11 (pubSl (k := 2) rfl rfl rfl rfl) rfl⟩
  ·cases h1; cases h2; exact ⟨_, rfl, obDs 7 3 l fun j hj => by rw [Nat.add_comm 3 j, Nat.add_comm 7 j]; exact hid3 j hj⟩
  ·have h3 : (jsO l)[j]? = some o1 := h2
   have hjl := (List.getElem?_eq_some_iff.1 h3).1
   have hjl2 := hjl
   rw [jsO_length] at hjl2
   rw [hid3 j hjl2] at h1
   cases h1
   obtain ⟨_, y, _, rfl⟩ := jsO_pure h3
   refine ⟨.arr 1 (iC y.jd), ?_, .same _ _ (pureEs_iC _)⟩
   show (jsO l ++ [cN 6 l.length])[j]? = _
   rw [List.getElem?_append_left hjl]; exact h3
 rintro ρ ⟨d, rfl⟩
 (conv => whnf); refine recT (by rw [dsO_length]; exact Nat.beq_refl _) ?_
 conv => whnf
 refine ⟨fun m ρ H1 => ∃ k : Nat, k + m = l.length ∧ H1 = .arr 7 [srcC (wsrc n)] :: cN 2 l.length :: .arr 4 (dsO 3 l) :: jsO (lateE (souS (wsrc n)) t l k) ∧ Sv 115 [(7, .ptr 0 1 0 0), (10, .int .i64 t), (12, .int .i64 0), (13, .list false 2 (eC A)), (14, .int .i64 0), (15, .ptr 1 1 0 0), (53, .int .i64 l.length), (54, .int .i64 k)] ρ, l.length, [], ?_, ?_⟩
 ·exact ⟨0, by omega, rfl, Sv.intro rfl ⟨rfl, rfl, rfl, rfl, rfl, rfl, rfl, rfl, trivial⟩⟩
 rintro m ρ H1 ⟨k, hk, rfl, d, rfl⟩
 (conv => whnf); refine recA (fun hlt => ?_) (fun hlt => ?_)
 ·simp at hlt
  have hx : l[k]? = some l[k] := List.getElem?_eq_getElem hlt
  obtain ⟨x1, x2, x3⟩ := m3 _ (List.getElem_mem hlt)
  have xj := hjd _ (List.getElem_mem hlt)
  generalize l[k] = x at hx x1 x2 x3 xj
  have ek : IntKind.i64.wrap ((k : Int) + 1) = ((k + 1 : Nat) : Int) := by rw [wrapI _ (by omega) (by omega)]; omega
  have hbl : Nat.beq l.length (dsO 3 l).length = true := by rw [dsO_length]; exact Nat.beq_refl _
  have hdx : (dsO 3 l)[0 + (k : Int).toNat]? = some (dlO (k + 3) x) := by rw [Nat.zero_add, Int.toNat_natCast, dsO_at 3 hx, Nat.add_comm 3 k]
  have hjx : ∀ J : List Int, ((jsO (lateE (souS (wsrc n)) t l k)).set k (.arr 1 (iC J)))[k]? = some (.arr 1 (iC J)) := fun J => by
   rw [List.getElem?_set_self (by rw [jsO_length, lateE_len]; exact hlt)]
  have hj0 : (jsO (lateE (souS (wsrc n)) t l k)) = (jsO (lateE (souS (wsrc n)) t l k)).set k (.arr 1 (iC x.jd)) := (setSelfL (jsO_at (lateE_at hx))).symm
  have hj1 : (jsO (lateE (souS (wsrc n)) t l k)).set k (.arr 1 (iC (lateJ (souS (wsrc n)) t x.f.recs x.jd))) = jsO (lateE (souS (wsrc n)) t l (k + 1)) := by
   rw [← lateE_next hx, jsO_set]; rfl
  have hll := lateJ_length (souS (wsrc n)) t x.f.recs x.jd
  rw [hj0]
  generalize jsO (lateE (souS (wsrc n)) t l k) = B at hjx hj1
  obtain ⟨K, hK⟩ : ∃ K : Nat → List Int, K = fun q => (lateJ (souS (wsrc n)) t x.f.recs x.jd).take q ++ x.jd.drop q := ⟨_, rfl⟩
  have hKl : ∀ q, q ≤ x.jd.length → (K q).length = x.jd.length := fun q hq => by rw [hK]; simp only [List.length_append, List.length_take, List.length_drop, hll]; omega
  have hK0 : K 0 = x.jd := by rw [hK]; simp
  have hKN : K x.jd.length = lateJ (souS (wsrc n)) t x.f.recs x.jd := by
   rw [hK]
   simp only []
   rw [List.take_of_length_le (by omega), List.drop_of_length_le (Nat.le_refl _), List.append_nil]
  have hKs : ∀ (q : Nat) (r : Rec) (v : Int), x.f.recs[q]? = some r → x.jd[q]? = some v → (K q).set q (if timeV (souS (wsrc n)) r > t then 15 else v) = K (q + 1) := fun q r v hr hv => by
   have hql := (List.getElem?_eq_some_iff.1 hv).1
   have hm := lateJ_at (souS (wsrc n)) t hr hv
   have htl : ((lateJ (souS (wsrc n)) t x.f.recs x.jd).take q).length = q := by rw [List.length_take]; omega
   rw [hK]
   simp only []
   rw [List.set_append_right _ _ (by omega), htl, Nat.sub_self, drop_cons hv, List.set_cons_zero, take_snoc hm, List.append_assoc]; rfl
  have hKv : ∀ (q : Nat) (v : Int), x.jd[q]? = some v → (K q)[q]? = some v := fun q v hv => by
   have hql := (List.getElem?_eq_some_iff.1 hv).1
   have htl : ((lateJ (souS (wsrc n)) t x.f.recs x.jd).take q).length = q := by rw [List.length_take]; omega
   rw [hK]
   simp only []
   rw [List.getElem?_append_right (by omega), htl, Nat.sub_self, List.getElem?_drop, Nat.add_zero, hv]
  rw [← hK0]
  (conv => whnf); refine recT (hbl) ?_
  (conv => whnf); refine And.intro (⟨by omega, by omega⟩) ?_
  (conv => whnf); refine recT (hbl) ?_
  (conv => whnf); refine recO (hdx) ?_
  (conv => whnf); refine recO (hjx _) ?_
  (conv => whnf); refine recT (by rw [iC_length, hKl 0 (by omega)]; exact Nat.beq_refl _) ?_
  conv => whnf
  refine ⟨fun m2 ρ H1 => ∃ q : Nat, q + m2 = x.jd.length ∧ H1 = .arr 7 [srcC (wsrc n)] :: cN 2 l.length :: .arr 4 (dsO 3 l) :: B.set k (.arr 1 (iC (K q))) ∧ Sv 115 [(7, .ptr 0 1 0 0), (10, .int .i64 t), (12, .int .i64 0), (13, .list false 2 (eC A)), (14, .int .i64 0), (15, .ptr 1 1 0 0), (16, .int .i64 k), (53, .int .i64 l.length), (54, .int .i64 k), (63, .int .i64 x.jd.length), (64, .int .i64 q)] ρ, x.jd.length, [], ?_, ?_⟩
  ·exact ⟨0, by omega, rfl, Sv.intro rfl ⟨rfl, rfl, rfl, rfl, rfl, rfl, rfl, rfl, rfl, rfl, rfl, trivial⟩⟩
  rintro m2 ρ H1 ⟨q, hq, rfl, d, rfl⟩
  (conv => whnf); refine recA (fun hlt2 => ?_) (fun hlt2 => ?_)
  ·simp at hlt2
   have eq1 : IntKind.i64.wrap ((q : Int) + 1) = ((q + 1 : Nat) : Int) := by rw [wrapI _ (by omega) (by omega)]; omega
   have hr : x.f.recs[q]? = some x.f.recs[q] := List.getElem?_eq_getElem (by omega)
   have hrl := x2 _ (List.getElem_mem (show q < x.f.recs.length by omega))
   generalize x.f.recs[q] = r at hr hrl
   have hv : x.jd[q]? = some x.jd[q] := List.getElem?_eq_getElem hlt2
   generalize x.jd[q] = v at hv
   have hks := hKs q r v hr hv
   have hbk : Nat.beq x.jd.length (iC (K q)).length = true := by rw [iC_length, hKl q (by omega)]; exact Nat.beq_refl _
   (conv => whnf); refine recT (hbl) ?_
   (conv => whnf); refine And.intro (⟨by omega, by omega⟩) ?_
   (conv => whnf); refine recT (hbl) ?_
   (conv => whnf); refine recO (hdx) ?_
   (conv => whnf); refine And.intro (by omega) ?_
   (conv => whnf); refine recO (rC_at hr) ?_
   (conv => whnf); refine ⟨_, time25_spec F.z2w (souS (wsrc n)) hs.ok r (by omega) _, ?_⟩
   repeat ((conv => whnf); refine And.intro rfl ?_)
   (conv => whnf); refine recA (fun hgt => ?_) (fun hgt => ?_)
   ·replace hgt := of_decide_eq_true hgt
    rw [if_pos hgt] at hks
    (conv => whnf); refine recT (hbl) ?_
    (conv => whnf); refine And.intro (⟨by omega, by omega⟩) ?_
    (conv => whnf); refine recT (hbl) ?_
    (conv => whnf); refine recO (hdx) ?_
    (conv => whnf); refine recO (hjx _) ?_
    (conv => whnf); refine recT (hbk) ?_
    (conv => whnf); refine And.intro (⟨by omega, by omega⟩) ?_
    (conv => whnf); refine recO (hjx _) ?_
    (conv => whnf); refine recT (hbk) ?_
    (conv => whnf); refine recO ((show (iC (K q))[0 + (q : Int).toNat]? = some [.int .i64 v] from by rw [Nat.zero_add, Int.toNat_natCast]; exact iC_at (hKv q v hv))) ?_
    have hse1 : setEs (iC (K q)) (0 + (q : Int).toNat) [.int .i64 15] = iC (K (q + 1)) := by rw [Nat.zero_add, Int.toNat_natCast, setEs_iC, hks]
    conv => whnf
    refine setOv (H' := B.set k (.arr 1 (iC (K (q + 1))))) (by rw [hse1, List.set_set]) ?_
    conv => whnf
    refine ⟨m2 - 1, by omega, Gp.keep rfl ?_ fun ρ1 h => ⟨q + 1, by omega, rfl, h⟩⟩
    exact ⟨rfl, rfl, rfl, rfl, rfl, rfl, rfl, rfl, rfl, rfl, intEq eq1, trivial⟩
   ·replace hgt := of_decide_eq_false hgt
    rw [if_neg hgt] at hks
    have hsame : K q = K (q + 1) := by rw [← hks, setSelfL (hKv q v hv)]
    rw [hsame]
    conv => whnf
    refine ⟨m2 - 1, by omega, Gp.keep rfl ?_ fun ρ1 h => ⟨q + 1, by omega, rfl, h⟩⟩
    exact ⟨rfl, rfl, rfl, rfl, rfl, rfl, rfl, rfl, rfl, rfl, intEq eq1, trivial⟩
  ·simp at hlt2
   have hqe : q = x.jd.length := by omega
   subst hqe
   rw [hKN, hj1]
   conv => whnf
   refine ⟨m - 1, by omega, Gp.keep rfl ?_ fun ρ1 h => ⟨k + 1, by omega, rfl, h⟩⟩
   exact ⟨rfl, rfl, rfl, rfl, rfl, rfl, rfl, intEq ek, trivial⟩
 ·simp at hlt
  have hkl : lateE (souS (wsrc n)) t l k = l.map (lateD (souS (wsrc n)) t) := by rw [lateE, List.take_of_length_le (by omega), List.drop_of_length_le (by omega), List.append_nil]
  rw [hkl]
  conv => whnf
  refine Ghost.some (n := 115) (live := [(7, .ptr 0 1 0 0), (12, .int .i64 0), (13, .list false 2 (eC A)), (14, .int .i64 0), (15, .ptr 1 1 0 0)]) (H1 := [.arr 7 [srcC (wsrc n)], .arr 1 [[.list false 4 (dsC (l.map (lateD (souS (wsrc n)) t)))]]]) [0, 1] (by simp) ⟨⟨_, rfl, .same _ _ rfl⟩, ⟨_, rfl, ob11 ?_ rfl⟩, trivial⟩ rfl
   ⟨.keepP 0 1 0 0 0 rfl, .closed _ rfl, .closed (.list false 2 (eC A)) rfl, .closed _ rfl, .keepP 1 1 0 0 1 rfl, trivial⟩ ?_
  ·rw [← dsO_late (souS (wsrc n)) t 3 l]
   exact pubDs _ _ (by simp) rfl (fun j x h => by rw [Nat.add_comm 3 j]; exact jsO_at h) (fun j => by simp; omega) (List.length_map ..).symm
  rintro ρ ⟨d, rfl⟩
  (conv => whnf); refine ACalls.use (hct _) ?_
  (conv => whnf); refine ACalls.use (hse _) ?_
  (conv => whnf); refine ACalls.use (known _) ?_
  conv => whnf
end Go.AW
namespace Go.AW
variable [Draws]
open Go.Sort
section
variable {P : Program} {β : Type}
structure El (C : Nat → Nat) (w : World) (k : Nat) (cells : β → List AVal) where
 vs : List Value
 x : β
 len : vs.length = k
 one : ∀ v ∈ vs, v.oneCell' = true
 rd : ∀ (j : Nat) (c : AVal) (v : Value), (cells x)[j]? = some c → vs[j]? = some v → Rd C w c v
theorem Rd.later {C : Nat → Nat} {w w' : World} {a : AVal} {v : Value} (h : Rd C w a v) (hc : ∀ b i, i < C b → w'.cell? ⟨b, i, none⟩ = w.cell? ⟨b, i, none⟩) : Rd C w' a v := by
 have s : Step C (fun _ => none) [] w C (fun _ => none) [] { w with heap := w.heap } := Step.refl
 induction h with
 | junk v h => exact .junk v h
 | bool b => exact .bool b
 | int k n => exact .int k n
 | str s => exact .str s
 | nil => exact .nil
 | list0 x sz a cap hx => exact .list0 x sz a cap hx
 | list x sz es b off cap vs hx hcap hsz hC hcell hp hrd ih =>
  refine .list x sz es b off cap vs hx hcap hsz hC (fun i j hi hj => ?_) hp fun i j e d he hd => ih i j e d he hd
  rw [hc b _ ?_, hcell i j hi hj]
  have : i * sz + sz ≤ es.length * sz := by
   have := Nat.mul_le_mul_right sz (show i + 1 ≤ es.length by omega)
   rwa [Nat.add_mul, Nat.one_mul] at this
  omega
 | cptr cs fld b off vs hC hcell hp hrd ih =>
  refine .cptr cs fld b off vs hC (fun j hj => ?_) hp fun j d hd => ih j d hd
  rw [hc b _ (by omega), hcell j hj]
 | fn f => exact .fn f
abbrev upD : Draws := ⟨True⟩
omit [Draws] in
attribute [local instance] upD in
theorem cmpLays_of {C : Nat → Nat} {w : World} {k : Nat} {cells : β → List AVal} (hk : ∀ x, (cells x).length = k) [Inhabited (El C w k cells)] {cmp : β → β → Int} {g : FuncId}
  (eg : ∀ args w, (callFunc g args).run P w = .ok (.enter g args) w)
  (hg : ∀ x y, @ACalls upD P g [.agg (cells x), .agg (cells y)] [] (fun r _ => r = .int .i64 (cmp x y)))
  {blk off size : Nat} (hlt : ∀ b, 0 < C b → b < w.heap.size) (hblk : C blk = 0) :
  Go.Proofs.CmpLays P g #[] (fun e : El C w k cells => e.vs) k (fun a b => cmp a.x b.x) blk off size w := by
 intro m os dk hs x y
 obtain ⟨W, hW⟩ : ∃ W, Go.Proofs.sortWorldK (fun e : El C w k cells => e.vs) k w blk off m dk os = W := ⟨_, rfl⟩
 rw [hW]
 have hcell : ∀ b i, i < C b → W.cell? ⟨b, i, none⟩ = w.cell? ⟨b, i, none⟩ := by
  intro b i hi
  have hb : b < w.heap.size := hlt b (by omega)
  have hbb : b ≠ blk := fun e => by rw [e, hblk] at hi; omega
  refine cell_heap ?_
  rw [← hW]
  unfold Go.Proofs.sortWorldK Go.Sort.putRowK putRow mapBlock grow Go.Sort.ahead
  simp only []
  rw [Array.getElem?_append_left (by simp; exact hb), Array.getElem?_modify, if_neg (Ne.symm hbb)]
 have hsz : w.heap.size ≤ W.heap.size := by rw [← hW]; exact Go.Proofs.size_sortWorldK_c _ _ _ _ _ _ _ _
 have hwf : WF C (fun _ => none) [] W := ⟨fun id o h => by simp at h, fun id o h => by simp at h, fun id o l h => by simp at h, fun id l h => by simp at h, fun i j li lj h => by simp at h, fun b hb => Nat.lt_of_lt_of_le (hlt b hb) hsz⟩
 have hrel : ∀ e : El C w k cells, Rel C W (fun _ => none) [] (.agg (cells e.x)) (.agg e.vs.toArray) := fun e => by
  refine .agg _ _ (by simp [hk, e.len]) fun i c v hc hv => .rd ((e.rd i c v hc ?_).later hcell)
  simpa using hv
 have h := hg x.x y.x C (fun _ => none) W #[.agg x.vs.toArray, .agg y.vs.toArray] hwf rfl fun i a v ha hv => by
  rcases i with _ | _ | i
  ·cases ha; cases hv; exact hrel x
  ·cases ha; cases hv; exact hrel y
  ·simp at ha
 unfold CallsX at h
 rw [eg] at h
 refine Calls.mono h fun e w' => ?_
 rintro ⟨v, r, C', τ', H', rfl, rfl, hrv, hst, _⟩
 refine ⟨?_, w'.drawn - W.drawn, w'.heap.extract W.heap.size w'.heap.size, ?_⟩
 ·cases hrv with
  | rd h => cases h; rfl
 ·have f := hst.fr
  have hp : ∀ b, b < W.heap.size → w'.heap[b]? = W.heap[b]? := fun b hb => f.prot b ⟨hb, by rintro ⟨id, l, h, _⟩; simp at h⟩
  have hh : w'.heap = W.heap ++ w'.heap.extract W.heap.size w'.heap.size := by
   refine Array.ext_getElem? fun i => ?_
   by_cases hi : i < W.heap.size
   ·rw [Array.getElem?_append_left hi]; exact hp i hi
   ·rw [Array.getElem?_append_right (by omega), Array.getElem?_extract]
    by_cases hi2 : i < w'.heap.size
    ·rw [if_pos (by omega)]; congr 1; omega
    ·rw [if_neg (by omega)]; exact Array.getElem?_eq_none (by omega)
  have hd : w'.drawn = W.drawn + (w'.drawn - W.drawn) := by have := f.drawn trivial; omega
  obtain ⟨h1, h2, h3, h4, h5⟩ := w'
  unfold grow World.drewN
  simp only [World.mk.injEq]
  exact ⟨hh, f.tape, hd, f.os, f.output⟩
theorem St.grow {w0 w : World} {Pr : Nat → Prop} {C : Nat → Nat} {τ : Nat → Option Loc} {H : List AObj} (h : St w0 Pr C τ H w) : ∀ (os : List Obj), St w0 Pr C τ H (Go.Sort.grow w os.toArray) ∧ Step C τ H w C τ H (Go.Sort.grow w os.toArray) := by
 intro os
 induction os generalizing w with
 | nil => simpa using ⟨h, Step.refl⟩
 | cons o os ih =>
  obtain ⟨st, s⟩ := h.alloc_comm o 0
  have hCC : updF C w.heap.size (C w.heap.size + 0) = C := by
   funext b
   by_cases e : b = w.heap.size
   ·subst e; rw [updF_same]; rfl
   ·rw [updF_other _ _ e]
  rw [hCC] at st s
  obtain ⟨st2, s2⟩ := ih st
  have e : Go.Sort.grow (w.alloc o) os.toArray = Go.Sort.grow w (o :: os).toArray := by
   rw [alloc_eq_grow, grow_grow]
   congr 1
   simp
  rw [e] at st2 s2
  exact ⟨st2, s.trans s2⟩
theorem St.putRow {w0 w : World} {Pr : Nat → Prop} {C : Nat → Nat} {τ : Nat → Option Loc} {H : List AObj} {k : Nat} {cells : β → List AVal} (hk : ∀ x, (cells x).length = k) (hk0 : 0 < k) (hcl : ∀ x, ∀ c ∈ cells x, c.isCell = true) [Inhabited (El C w k cells)]
  (h : St w0 Pr C τ H w) {i0 : Nat} {es : List β} {l : Loc} (ho : H[i0]? = some (.arr k (es.map cells))) (hl : τ i0 = some l) (d : Array (El C w k cells)) (hd : d.size = es.length) :
  St w0 Pr C τ (H.set i0 (.arr k (d.toList.map fun e => cells e.x))) (putRowK (fun e : El C w k cells => e.vs) k w l.b 0 d) ∧ Step C τ H w C τ (H.set i0 (.arr k (d.toList.map fun e => cells e.x))) (putRowK (fun e : El C w k cells => e.vs) k w l.b 0 d) := by
 obtain ⟨hcap, cs, elem, fz, h1, h2, h3, _⟩ := h.wf.objs i0 _ l ho hl
 rw [List.length_map] at hcap
 have hw : (putRowK (fun e : El C w k cells => e.vs) k w l.b 0 d).heap[l.b]? = some (.cells (Go.Sort.putCells id 0 (flatK (fun e : El C w k cells => e.vs) k d) cs) elem fz) := by
  unfold putRowK Go.Sort.putRow mapBlock
  simp only [Array.getElem?_modify, if_true, h1, Option.map_some, onCells]
 refine h.set_obj (w' := putRowK (fun e : El C w k cells => e.vs) k w l.b 0 d) (o' := .arr k (d.toList.map fun e => cells e.x)) ho hl (fun b hb => ?_) (by simp [putRowK]) rfl rfl rfl rfl ⟨rfl, by simp; omega, fun _ => rfl⟩ (fun e he => ?_) fun C' τ' H' s => ?_
 ·unfold putRowK Go.Sort.putRow mapBlock
  simp only [Array.getElem?_modify]
  rw [if_neg (Ne.symm hb)]
 ·obtain ⟨x, _, rfl⟩ := List.mem_map.1 he
  exact ⟨hk x.x, hcl x.x⟩
 ·refine ⟨by simp; omega, _, elem, fz, hw, by simp [Go.Sort.putCells, h2], by simpa [Go.Sort.putCells] using h3, fun i j e c he hc => ?_⟩
  rw [List.getElem?_map] at he
  obtain ⟨x, hx, rfl⟩ := Option.map_eq_some_iff.1 he
  have hi : i < d.size := by have := (List.getElem?_eq_some_iff.1 hx).1; simpa using this
  have hj : j < k := by have := (List.getElem?_eq_some_iff.1 hc).1; rwa [hk] at this
  have hxd : d[i]! = x := by
   rw [getElem!_pos d i hi]
   have := (List.getElem?_eq_some_iff.1 hx).2
   simpa using this
  have ht : i * k + j < d.size * k := by
   have := Nat.mul_le_mul_right k (show i + 1 ≤ d.size by omega)
   rw [Nat.add_mul, Nat.one_mul] at this
   omega
  have htc : i * k + j < cs.size := by
   have := Nat.mul_le_mul_right k (show d.size ≤ l.cap by omega)
   omega
  have hjv : j < x.vs.length := by rw [x.len]; exact hj
  refine ⟨x.vs[j], ?_, ?_⟩
  ·unfold Go.Sort.putCells
   rw [Array.getElem?_mapIdx, Array.getElem?_eq_getElem htc]
   have hf := get_flatK (fun e : El C w k cells => e.vs) k d (i * k + j) ht
   have e1 : (i * k + j) / k = i := by rw [Nat.mul_comm, Nat.mul_add_div hk0, Nat.div_eq_of_lt hj, Nat.add_zero]
   have e2 : (i * k + j) % k = j := by rw [Nat.mul_comm, Nat.mul_add_mod, Nat.mod_eq_of_lt hj]
   rw [e1, e2, hxd] at hf
   simp only [Option.map_some, size_flatK, Nat.zero_le, true_and, Nat.zero_add, ht, if_true, Nat.sub_zero, hf]
   rw [getElem!_pos x.vs j hjv]
   rfl
  ·exact (Rel.rd (x.rd j c _ hc (List.getElem?_eq_getElem hjv))).mono s
theorem row_of {w0 w : World} {Pr : Nat → Prop} {C : Nat → Nat} {τ : Nat → Option Loc} {H : List AObj} {k : Nat} {cells : β → List AVal} (hk : ∀ x, (cells x).length = k) (hk0 : 0 < k) (hpu : ∀ x, ∀ c ∈ cells x, c.isPure = true)
  (h : St w0 Pr C τ H w) {i0 : Nat} {es : List β} {l : Loc} (ho : H[i0]? = some (.arr k (es.map cells))) (hl : τ i0 = some l) :
  ∃ d : Array (El C w k cells), d.size = es.length ∧ d.toList.map (fun e => e.x) = es ∧ ∀ [Inhabited (El C w k cells)], HoldsK (fun e : El C w k cells => e.vs) k w l.b 0 d := by
 obtain ⟨hcap, cs, elem, fz, h1, h2, h3, h4⟩ := h.wf.objs i0 _ l ho hl
 rw [List.length_map] at hcap
 have hroom : es.length * k ≤ cs.size := by rw [h2]; exact Nat.mul_le_mul_right k hcap
 have get : ∀ (i j : Nat) (hi : i < es.length) (hj : j < k), i * k + j < cs.size := fun i j hi hj => by
  have := Nat.mul_le_mul_right k (show i + 1 ≤ es.length by omega)
  rw [Nat.add_mul, Nat.one_mul] at this
  omega
 have rel : ∀ (i j : Nat) (hi : i < es.length) (c : AVal) (v : Value), (cells es[i])[j]? = some c → cs[i * k + j]? = some v → Rd C w c v := fun i j hi c v hc hv => by
  obtain ⟨v', hv', hr⟩ := h4 i j (cells es[i]) c (by rw [List.getElem?_map, List.getElem?_eq_getElem hi]; rfl) hc
  rw [hv] at hv'
  cases hv'
  exact hr.pure (hpu _ c (List.mem_of_getElem? hc))
 have vget : ∀ (i j : Nat), ((cs.extract (i * k) (i * k + k)).toList)[j]? = if j < min (i * k + k) cs.size - i * k then cs[i * k + j]? else none := fun i j => by
  rw [Array.getElem?_toList, Array.getElem?_extract]
 have mk : ∀ i : Fin es.length, ∃ e : El C w k cells, e.vs = (cs.extract (i.1 * k) (i.1 * k + k)).toList ∧ e.x = es[i.1] := fun ⟨i, hi⟩ => by
  have hik := get i (k - 1) hi (by omega)
  have hlen : (cs.extract (i * k) (i * k + k)).size = k := by rw [Array.size_extract]; omega
  refine ⟨⟨(cs.extract (i * k) (i * k + k)).toList, es[i], by rw [Array.length_toList]; exact hlen, ?_, fun j c v hc hv => ?_⟩, rfl, rfl⟩
  ·refine rel_cellsPlain (C := C) (w := w) (τ := τ) (H := H) (cs := cells es[i]) (by rw [hk, hlen]) (fun j c v hc hv => ?_) (List.all_eq_true.2 fun c hc => AVal.isCell_of_isPure (hpu _ c hc))
   have := vget i j
   rw [Array.getElem?_toList, hv] at this
   split at this
   ·exact .rd (rel i j hi c v hc this.symm)
   ·cases this
  ·have := vget i j
   rw [hv] at this
   split at this
   ·exact rel i j hi c v hc this.symm
   ·cases this
 refine ⟨Array.ofFn fun i => (mk i).choose, by simp, ?_, ?_⟩
 ·refine List.ext_getElem? fun i => ?_
  by_cases hi : i < es.length
  ·rw [List.getElem?_map, Array.getElem?_toList, Array.getElem?_ofFn, dif_pos hi, List.getElem?_eq_getElem hi]
   show some ((mk ⟨i, hi⟩).choose).x = _
   rw [(mk ⟨i, hi⟩).choose_spec.2]
  ·rw [List.getElem?_eq_none (by simp; omega), List.getElem?_eq_none (by omega)]
 ·intro _ t ht
  rw [size_flatK, Array.size_ofFn] at ht
  have hi : t / k < es.length := Nat.div_lt_of_lt_mul (by rwa [Nat.mul_comm] at ht)
  have hj : t % k < k := Nat.mod_lt _ hk0
  have htk : t / k * k + t % k = t := by rw [Nat.mul_comm]; exact Nat.div_add_mod t k
  have htc := get _ _ hi hj
  rw [htk] at htc
  rw [get_flatK _ _ _ t (by rw [Array.size_ofFn]; exact ht), getElem!_pos _ (t / k) (by rw [Array.size_ofFn]; exact hi), Array.getElem_ofFn]
  have hv := vget (t / k) (t % k)
  rw [if_pos (by have := get (t / k) (k - 1) hi (by omega); omega), htk, Array.getElem?_eq_getElem htc, ← (mk ⟨t / k, hi⟩).choose_spec.1] at hv
  have hb := (List.getElem?_eq_some_iff.1 hv).1
  have hv2 := (List.getElem?_eq_some_iff.1 hv).2
  rw [getElem!_pos _ (t % k) hb]
  refine ⟨?_, ?_⟩
  ·simp only [World.cell?, h1, Nat.zero_add]
   simp [Array.getElem?_eq_getElem htc, ← hv2]
  ·simp only [World.frozen?, h1, Nat.zero_add]
   simp only [Bool.and_eq_false_iff, decide_eq_false_iff_not]
   omega
def Sorted (cmp : β → β → Int) (es es' : List β) : Prop := es'.Perm es ∧ ∀ (i j : Nat) (x y : β), i < j → es'[i]? = some x → es'[j]? = some y → 0 ≤ cmp y x
theorem sort_spec {ρ : Go.Shelf.Ren} (L : Go.Proofs.SlLaysF0.n6 P ρ) {k : Nat} (hk0 : 0 < k) (aE : ∀ w, (isAgg (ρ.t 24)).run P w = .ok true w) (zE : ∀ w, (Go.sizeOf (ρ.t 24)).run P w = .ok k w)
  {cells : β → List AVal} (hk : ∀ x, (cells x).length = k) (hpu : ∀ x, ∀ c ∈ cells x, c.isPure = true) {cmp : β → β → Int} (hO : SWO (Go.Proofs.ltOf cmp)) {g : FuncId}
  (eg : ∀ args w, (callFunc g args).run P w = .ok (.enter g args) w)
  (hg : ∀ x y, @ACalls upD P g [.agg (cells x), .agg (cells y)] [] (fun r _ => r = .int .i64 (cmp x y)))
  {es : List β} (hne : es ≠ []) (hlen : es.length ≤ 1000000) {H : List AObj} {i0 : Nat} (ho : H[i0]? = some (.arr k (es.map cells))) :
  ACalls P (ρ.f 6) [.sl i0 es.length 0 es.length, .fn g []] H (fun r H' => r = .tuple [] ∧ ∃ es', Sorted cmp es es' ∧ H' = H.set i0 (.arr k (es'.map cells))) := by
 intro C τ w vs hw hl hr
 obtain ⟨v0, v1, rfl⟩ : ∃ v0 v1, vs = #[v0, v1] := by
  obtain ⟨m⟩ := vs
  match m, hl with
  | [v0, v1], _ => exact ⟨v0, v1, rfl⟩
 have r0 := hr 0 _ v0 rfl rfl
 have r1 := hr 1 _ v1 rfl rfl
 have e1 : v1 = .func (.func g) #[] #[] := by
  cases r1 with
  | rd h => cases h; rfl
  | fn _ _ vs hl2 h =>
   have : vs = #[] := Array.eq_empty_of_size_eq_zero hl2.symm
   rw [this]
 subst e1
 have hpos : 0 < es.length := List.length_pos_iff.2 hne
 cases r0 with
 | rd h => cases h
 | sl _ _ _ _ a cap esz es0 ho' hep hcur =>
 rw [ho] at ho'
 cases ho'
 obtain ⟨_, hcap, hor⟩ := hcur (by simp)
 rcases hor with ⟨_, h0⟩ | ⟨l, hlt, hlc, ha⟩
 ·omega
 have ha2 : a = some ⟨l.b, 0, none⟩ := by
  rcases ha with h0 | h0
  ·omega
  ·rw [h0, Nat.zero_mul]
 subst ha2
 have st := St.start hw
 obtain ⟨d, hd, hdx, hH⟩ := row_of hk hk0 hpu st ho hlt
 haveI : Inhabited (El C w k cells) := ⟨d[0]'(by omega)⟩
 have hid := (List.getElem?_eq_some_iff.1 ho).1
 have hcmp := cmpLays_of (P := P) (C := C) (w := w) hk eg hg (blk := l.b) (off := 0) (size := d.size) hw.lt (hw.comm i0 l hid hlt)
 have hO2 : SWO (Go.Proofs.ltOf fun a b : El C w k cells => cmp a.x b.x) := ⟨fun x => hO.irrefl x.x, fun x y z => hO.trans x.x y.x z.x, fun x y z => hO.ntrans x.x y.x z.x⟩
 have main := Go.Proofs.AnyQ.slices_SortFunc L k aE zE (fun e : El C w k cells => e.vs) (fun x => x.len) (fun x => x.one) (fun a b => cmp a.x b.x) hO2 g #[] l.b 0 cap d w eg hcmp hH (hw.locLt hid hlt) (by omega)
 rw [hd] at main
 unfold CallsX
 have en : ∀ args w, (callFunc (ρ.f 6) args).run P w = .ok (.enter (ρ.f 6) args) w := L.f6.enters rfl
 rw [en]
 refine Calls.mono main fun e w' => ?_
 rintro ⟨rfl, d', n, os, hp, hs, rfl⟩
 have hd's : d'.size = es.length := by have := hp.1; omega
 obtain ⟨st1, s1⟩ := st.putRow hk hk0 (fun x c hc => AVal.isCell_of_isPure (hpu x c hc)) ho hlt d' hd's
 obtain ⟨st2, s2⟩ := st1.same (w' := Go.Sort.ahead (putRowK (fun e : El C w k cells => e.vs) k w l.b 0 d') n) rfl rfl rfl rfl (Nat.le_add_right _ _)
 obtain ⟨st3, s3⟩ := st2.grow os.toList
 have ew : Go.Sort.grow (Go.Sort.ahead (putRowK (fun e : El C w k cells => e.vs) k w l.b 0 d') n) os.toList.toArray = Go.Proofs.sortWorldK (fun e : El C w k cells => e.vs) k w l.b 0 n d' os := by
  rw [Array.toArray_toList]; rfl
 rw [ew] at st3 s3
 refine ⟨.tuple #[], .tuple [], C, τ, _, rfl, ⟨rfl, d'.toList.map (fun e => e.x), ⟨?_, fun i j x y hij hx hy => ?_⟩, by rw [List.map_map]; rfl⟩, .tuple _ _ rfl fun i c v h => by simp at h, st3, (s1.trans s2).trans s3⟩
 ·have h3 := hp.2.2
  have a1 : d'.extract 0 es.length = d' := by rw [← hd's]; simp
  have a2 : d.extract 0 es.length = d := by rw [← hd]; simp
  rw [a1, a2] at h3
  have := h3.map (fun e : El C w k cells => e.x)
  rwa [hdx] at this
 ·rw [List.getElem?_map] at hx hy
  obtain ⟨ex, hx1, rfl⟩ := Option.map_eq_some_iff.1 hx
  obtain ⟨ey, hy1, rfl⟩ := Option.map_eq_some_iff.1 hy
  clear hx hy
  have hj := (List.getElem?_eq_some_iff.1 hy1).1
  rw [Array.length_toList, hd's] at hj
  have h4 := hs i j (Nat.zero_le _) hij hj
  have b1 : d'[i]! = ex := by
   rw [getElem!_pos d' i (by omega)]
   have := (List.getElem?_eq_some_iff.1 hx1).2
   simpa using this
  have b2 : d'[j]! = ey := by
   rw [getElem!_pos d' j (by omega)]
   have := (List.getElem?_eq_some_iff.1 hy1).2
   simpa using this
  rw [b1, b2] at h4
  unfold Go.Proofs.ltOf at h4
  simp at h4
  exact h4
end
open Go.Sort
attribute [local irreducible] ACalls
abbrev EntS := {e : Ent // e.row.length ≤ 1000}
def subL : (l : List Ent) → (∀ e ∈ l, e.row.length ≤ 1000) → List EntS
 | [], _ => []
 | e :: l, h => ⟨e, h e (List.mem_cons_self ..)⟩ :: subL l fun e he => h e (List.mem_cons_of_mem _ he)
theorem subL_map : ∀ (l : List Ent) (h : ∀ e ∈ l, e.row.length ≤ 1000), (subL l h).map (fun e => e.1) = l
 | [], _ => rfl
 | e :: l, h => by rw [subL, List.map_cons, subL_map l]
theorem swo_rows : SWO (Go.Proofs.ltOf fun a b : EntS => rowsCmp a.1.row b.1.row) where
 irrefl x := by simp [Go.Proofs.ltOf, (rowsCmp_zero x.1.row x.1.row).2 rfl]
 trans x y z h1 h2 := by
  simp [Go.Proofs.ltOf] at h1 h2 ⊢
  exact rowsCmp_trans _ _ _ h1 h2
 ntrans x y z h1 h2 := by
  simp [Go.Proofs.ltOf] at h1 h2 ⊢
  refine Int.not_lt.1 fun hn => ?_
  by_cases hz : rowsCmp y.1.row z.1.row = 0
  ·rw [(rowsCmp_zero _ _).1 hz] at h1
   omega
  ·have h3 : rowsCmp z.1.row y.1.row < 0 := by rw [rowsCmp_anti]; omega
   have := rowsCmp_trans _ _ _ hn h3
   omega
theorem sortE_of {P : Program} {ρ : Go.Shelf.Ren} (L : Go.Proofs.SlLaysF0.n6 P ρ) (aE : ∀ w, (isAgg (ρ.t 24)).run P w = .ok true w) (zE : ∀ w, (Go.sizeOf (ρ.t 24)).run P w = .ok 2 w) (F : F_z06 P) :
  SortE P (ρ.f 6) F.id := by
 intro l hne hl hr H i0 ho
 have eg : ∀ args w, (callFunc F.id args).run P w = .ok (.enter F.id args) w := by
  obtain ⟨fn, c, h1, h2, h3, _⟩ := F.has
  exact Go.Proofs.enters_of h1 h2 h3
 have hm := subL_map l hr
 have hcells : (subL l hr).map (fun e => entC e.1) = eC l := by
  have := congrArg (List.map entC) hm
  rw [List.map_map] at this
  exact this
 have hlen : (subL l hr).length = l.length := by rw [← List.length_map (f := fun e : EntS => e.1), hm]
 have main := sort_spec (P := P) L (k := 2) (by decide) aE zE (cells := fun e : EntS => entC e.1) (fun _ => rfl) (fun x c hc => by
  simp [entC] at hc
  rcases hc with rfl | rfl
  ·simp [AVal.isPure]
  ·rfl) (cmp := fun a b => rowsCmp a.1.row b.1.row) swo_rows (g := F.id) eg (fun x y => by letI : Draws := upD; exact (bag_sum_1_spec F x.1 y.1 (by have := x.2; omega) []).mono fun _ _ h => h.1)
  (es := subL l hr) (fun h => by rw [h] at hm; exact hne hm.symm) (by omega) (i0 := i0) (by rw [hcells]; exact ho)
 rw [hlen] at main
 refine main.mono ?_
 rintro r H' ⟨rfl, es', ⟨hp, hs⟩, rfl⟩
 refine ⟨rfl, es'.map (fun e => e.1), by have := hp.map (fun e : EntS => e.1); rwa [hm] at this, ?_, ?_⟩
 ·refine List.pairwise_iff_getElem.2 fun i j hi hj hij => ?_
  rw [List.length_map] at hi hj
  have := hs i j es'[i] es'[j] hij (List.getElem?_eq_getElem hi) (List.getElem?_eq_getElem hj)
  replace this : 0 ≤ rowsCmp (es'[j]).1.row (es'[i]).1.row := this
  rw [rowsCmp_anti] at this
  simp only [List.getElem_map]
  omega
 ·rw [eC, List.map_map]; rfl
end Go.AW
namespace Go.AW
variable [Draws]
open Go.Sort
section
variable {P : Program} {β : Type}
omit [Draws] in
attribute [local instance] upD in
theorem cmpLaysC_of {C : Nat → Nat} {w : World} {k : Nat} {cells : β → List AVal} (hk : ∀ x, (cells x).length = k) [Inhabited (El C w k cells)] {cmp : β → β → Int} {g : FuncId} {caps : List AVal} {cb : Array Value}
  (hcl : caps.length = cb.size) (hcr : ∀ (i : Nat) (c : AVal) (v : Value), caps[i]? = some c → cb[i]? = some v → Rd C w c v)
  (eg : ∀ args w, (callFunc g args).run P w = .ok (.enter g args) w)
  (hg : ∀ x y, @ACalls upD P g ([.agg (cells x), .agg (cells y)] ++ caps) [] (fun r _ => r = .int .i64 (cmp x y)))
  {blk off size : Nat} (hlt : ∀ b, 0 < C b → b < w.heap.size) (hblk : C blk = 0) :
  Go.Proofs.CmpLays P g cb (fun e : El C w k cells => e.vs) k (fun a b => cmp a.x b.x) blk off size w := by
 intro m os dk hs x y
 obtain ⟨W, hW⟩ : ∃ W, Go.Proofs.sortWorldK (fun e : El C w k cells => e.vs) k w blk off m dk os = W := ⟨_, rfl⟩
 rw [hW]
 have hcell : ∀ b i, i < C b → W.cell? ⟨b, i, none⟩ = w.cell? ⟨b, i, none⟩ := by
  intro b i hi
  have hb : b < w.heap.size := hlt b (by omega)
  have hbb : b ≠ blk := fun e => by rw [e, hblk] at hi; omega
  refine cell_heap ?_
  rw [← hW]
  unfold Go.Proofs.sortWorldK Go.Sort.putRowK putRow mapBlock grow Go.Sort.ahead
  simp only []
  rw [Array.getElem?_append_left (by simp; exact hb), Array.getElem?_modify, if_neg (Ne.symm hbb)]
 have hsz : w.heap.size ≤ W.heap.size := by rw [← hW]; exact Go.Proofs.size_sortWorldK_c _ _ _ _ _ _ _ _
 have hwf : WF C (fun _ => none) [] W := ⟨fun id o h => by simp at h, fun id o h => by simp at h, fun id o l h => by simp at h, fun id l h => by simp at h, fun i j li lj h => by simp at h, fun b hb => Nat.lt_of_lt_of_le (hlt b hb) hsz⟩
 have hrel : ∀ e : El C w k cells, Rel C W (fun _ => none) [] (.agg (cells e.x)) (.agg e.vs.toArray) := fun e => by
  refine .agg _ _ (by simp [hk, e.len]) fun i c v hc hv => .rd ((e.rd i c v hc ?_).later hcell)
  simpa using hv
 have h := hg x.x y.x C (fun _ => none) W (#[.agg x.vs.toArray, .agg y.vs.toArray] ++ cb) hwf (by simp [hcl]; omega) fun i a v ha hv => by
  rcases i with _ | _ | i
  ·rw [Array.getElem?_append_left (by simp)] at hv
   simp at ha hv; subst ha hv; exact hrel x
  ·rw [Array.getElem?_append_left (by simp)] at hv
   simp at ha hv; subst ha hv; exact hrel y
  ·rw [Array.getElem?_append_right (by simp)] at hv
   exact .rd ((hcr i a v (by simpa using ha) (by simpa using hv)).later hcell)
 unfold CallsX at h
 rw [eg] at h
 refine Calls.mono h fun e w' => ?_
 rintro ⟨v, r, C', τ', H', rfl, rfl, hrv, hst, _⟩
 refine ⟨?_, w'.drawn - W.drawn, w'.heap.extract W.heap.size w'.heap.size, ?_⟩
 ·cases hrv with
  | rd h => cases h; rfl
 ·have f := hst.fr
  have hp : ∀ b, b < W.heap.size → w'.heap[b]? = W.heap[b]? := fun b hb => f.prot b ⟨hb, by rintro ⟨id, l, h, _⟩; simp at h⟩
  have hh : w'.heap = W.heap ++ w'.heap.extract W.heap.size w'.heap.size := by
   refine Array.ext_getElem? fun i => ?_
   by_cases hi : i < W.heap.size
   ·rw [Array.getElem?_append_left hi]; exact hp i hi
   ·rw [Array.getElem?_append_right (by omega), Array.getElem?_extract]
    by_cases hi2 : i < w'.heap.size
    ·rw [if_pos (by omega)]; congr 1; omega
    ·rw [if_neg (by omega)]; exact Array.getElem?_eq_none (by omega)
  have hd : w'.drawn = W.drawn + (w'.drawn - W.drawn) := by have := f.drawn trivial; omega
  obtain ⟨h1, h2, h3, h4, h5⟩ := w'
  unfold grow World.drewN
  simp only [World.mk.injEq]
  exact ⟨hh, f.tape, hd, f.os, f.output⟩
theorem sortC_spec {ρ : Go.Shelf.Ren} (L : Go.Proofs.SlLaysF0.n6 P ρ) {k : Nat} (hk0 : 0 < k) (aE : ∀ w, (isAgg (ρ.t 24)).run P w = .ok true w) (zE : ∀ w, (Go.sizeOf (ρ.t 24)).run P w = .ok k w)
  {cells : β → List AVal} (hk : ∀ x, (cells x).length = k) (hpu : ∀ x, ∀ c ∈ cells x, c.isPure = true) {cmp : β → β → Int} (hO : SWO (Go.Proofs.ltOf cmp)) {g : FuncId} {caps : List AVal} (hcp : caps.all AVal.isPure = true)
  (eg : ∀ args w, (callFunc g args).run P w = .ok (.enter g args) w)
  (hg : ∀ x y, @ACalls upD P g ([.agg (cells x), .agg (cells y)] ++ caps) [] (fun r _ => r = .int .i64 (cmp x y)))
  {es : List β} (hne : es ≠ []) (hlen : es.length ≤ 1000000) {H : List AObj} {i0 : Nat} (ho : H[i0]? = some (.arr k (es.map cells))) :
  ACalls P (ρ.f 6) [.sl i0 es.length 0 es.length, .fn g caps] H (fun r H' => r = .tuple [] ∧ ∃ es', Sorted cmp es es' ∧ H' = H.set i0 (.arr k (es'.map cells))) := by
 intro C τ w vs hw hl hr
 obtain ⟨v0, v1, rfl⟩ : ∃ v0 v1, vs = #[v0, v1] := by
  obtain ⟨m⟩ := vs
  match m, hl with
  | [v0, v1], _ => exact ⟨v0, v1, rfl⟩
 have r0 := hr 0 _ v0 rfl rfl
 have r1 := hr 1 _ v1 rfl rfl
 obtain ⟨cb, hcl, hcr, e1⟩ : ∃ cb : Array Value, caps.length = cb.size ∧ (∀ (i : Nat) (c : AVal) (v : Value), caps[i]? = some c → cb[i]? = some v → Rd C w c v) ∧ v1 = .func (.func g) #[] cb := by
  cases r1 with
  | rd h => cases h; exact ⟨#[], rfl, fun i c v hc => by simp at hc, rfl⟩
  | fn _ _ vs hl2 h => exact ⟨vs, hl2, fun i c v hc hv => (h i c v hc hv).pure (List.all_eq_true.1 hcp c (List.mem_of_getElem? hc)), rfl⟩
 subst e1
 have hpos : 0 < es.length := List.length_pos_iff.2 hne
 cases r0 with
 | rd h => cases h
 | sl _ _ _ _ a cap esz es0 ho' hep hcur =>
 rw [ho] at ho'
 cases ho'
 obtain ⟨_, hcap, hor⟩ := hcur (by simp)
 rcases hor with ⟨_, h0⟩ | ⟨l, hlt, hlc, ha⟩
 ·omega
 have ha2 : a = some ⟨l.b, 0, none⟩ := by
  rcases ha with h0 | h0
  ·omega
  ·rw [h0, Nat.zero_mul]
 subst ha2
 have st := St.start hw
 obtain ⟨d, hd, hdx, hH⟩ := row_of hk hk0 hpu st ho hlt
 haveI : Inhabited (El C w k cells) := ⟨d[0]'(by omega)⟩
 have hid := (List.getElem?_eq_some_iff.1 ho).1
 have hcmp := cmpLaysC_of (P := P) (C := C) (w := w) (cb := cb) hk hcl hcr eg hg (blk := l.b) (off := 0) (size := d.size) hw.lt (hw.comm i0 l hid hlt)
 have hO2 : SWO (Go.Proofs.ltOf fun a b : El C w k cells => cmp a.x b.x) := ⟨fun x => hO.irrefl x.x, fun x y z => hO.trans x.x y.x z.x, fun x y z => hO.ntrans x.x y.x z.x⟩
 have main := Go.Proofs.AnyQ.slices_SortFunc L k aE zE (fun e : El C w k cells => e.vs) (fun x => x.len) (fun x => x.one) (fun a b => cmp a.x b.x) hO2 g cb l.b 0 cap d w eg hcmp hH (hw.locLt hid hlt) (by omega)
 rw [hd] at main
 unfold CallsX
 have en : ∀ args w, (callFunc (ρ.f 6) args).run P w = .ok (.enter (ρ.f 6) args) w := L.f6.enters rfl
 rw [en]
 refine Calls.mono main fun e w' => ?_
 rintro ⟨rfl, d', n, os, hp, hs, rfl⟩
 have hd's : d'.size = es.length := by have := hp.1; omega
 obtain ⟨st1, s1⟩ := st.putRow hk hk0 (fun x c hc => AVal.isCell_of_isPure (hpu x c hc)) ho hlt d' hd's
 obtain ⟨st2, s2⟩ := st1.same (w' := Go.Sort.ahead (putRowK (fun e : El C w k cells => e.vs) k w l.b 0 d') n) rfl rfl rfl rfl (Nat.le_add_right _ _)
 obtain ⟨st3, s3⟩ := st2.grow os.toList
 have ew : Go.Sort.grow (Go.Sort.ahead (putRowK (fun e : El C w k cells => e.vs) k w l.b 0 d') n) os.toList.toArray = Go.Proofs.sortWorldK (fun e : El C w k cells => e.vs) k w l.b 0 n d' os := by
  rw [Array.toArray_toList]; rfl
 rw [ew] at st3 s3
 refine ⟨.tuple #[], .tuple [], C, τ, _, rfl, ⟨rfl, d'.toList.map (fun e => e.x), ⟨?_, fun i j x y hij hx hy => ?_⟩, by rw [List.map_map]; rfl⟩, .tuple _ _ rfl fun i c v h => by simp at h, st3, (s1.trans s2).trans s3⟩
 ·have h3 := hp.2.2
  have a1 : d'.extract 0 es.length = d' := by rw [← hd's]; simp
  have a2 : d.extract 0 es.length = d := by rw [← hd]; simp
  rw [a1, a2] at h3
  have := h3.map (fun e : El C w k cells => e.x)
  rwa [hdx] at this
 ·rw [List.getElem?_map] at hx hy
  obtain ⟨ex, hx1, rfl⟩ := Option.map_eq_some_iff.1 hx
  obtain ⟨ey, hy1, rfl⟩ := Option.map_eq_some_iff.1 hy
  clear hx hy
  have hj := (List.getElem?_eq_some_iff.1 hy1).1
  rw [Array.length_toList, hd's] at hj
  have h4 := hs i j (Nat.zero_le _) hij hj
  have b1 : d'[i]! = ex := by
   rw [getElem!_pos d' i (by omega)]
   have := (List.getElem?_eq_some_iff.1 hx1).2
   simpa using this
  have b2 : d'[j]! = ey := by
   rw [getElem!_pos d' j (by omega)]
   have := (List.getElem?_eq_some_iff.1 hy1).2
   simpa using this
  rw [b1, b2] at h4
  unfold Go.Proofs.ltOf at h4
  simp at h4
  exact h4
end
open Go.Sort
attribute [local irreducible] ACalls
theorem sortEg_of {P : Program} {ρ : Go.Shelf.Ren} (L : Go.Proofs.SlLaysF0.n6 P ρ) (aE : ∀ w, (isAgg (ρ.t 24)).run P w = .ok true w) (zE : ∀ w, (Go.sizeOf (ρ.t 24)).run P w = .ok 2 w) {g : FuncId}
  (eg : ∀ args w, (callFunc g args).run P w = .ok (.enter g args) w)
  (hg : ∀ x y : Ent, x.row.length ≤ 1000 → @ACalls upD P g [.agg (entC x), .agg (entC y)] [] (fun r _ => r = .int .i64 (rowsCmp x.row y.row))) :
  SortE P (ρ.f 6) g := by
 intro l hne hl hr H i0 ho
 have hm := subL_map l hr
 have hcells : (subL l hr).map (fun e => entC e.1) = eC l := by
  have := congrArg (List.map entC) hm
  rw [List.map_map] at this
  exact this
 have hlen : (subL l hr).length = l.length := by rw [← List.length_map (f := fun e : EntS => e.1), hm]
 have main := sort_spec (P := P) L (k := 2) (by decide) aE zE (cells := fun e : EntS => entC e.1) (fun _ => rfl) (fun x c hc => by
  simp [entC] at hc
  rcases hc with rfl | rfl
  ·simp [AVal.isPure]
  ·rfl) (cmp := fun a b => rowsCmp a.1.row b.1.row) swo_rows (g := g) eg (fun x y => hg x.1 y.1 (by have := x.2; omega))
  (es := subL l hr) (fun h => by rw [h] at hm; exact hne hm.symm) (by omega) (i0 := i0) (by rw [hcells]; exact ho)
 rw [hlen] at main
 refine main.mono ?_
 rintro r H' ⟨rfl, es', ⟨hp, hs⟩, rfl⟩
 refine ⟨rfl, es'.map (fun e => e.1), by have := hp.map (fun e : EntS => e.1); rwa [hm] at this, ?_, ?_⟩
 ·refine List.pairwise_iff_getElem.2 fun i j hi hj hij => ?_
  rw [List.length_map] at hi hj
  have := hs i j es'[i] es'[j] hij (List.getElem?_eq_getElem hi) (List.getElem?_eq_getElem hj)
  replace this : 0 ≤ rowsCmp (es'[j]).1.row (es'[i]).1.row := this
  rw [rowsCmp_anti] at this
  simp only [List.getElem_map]
  omega
 ·rw [eC, List.map_map]; rfl
theorem enters_has {P : Program} {f : FuncId} {a : AFunc} {ob : List Nat} (h : Has P f ob a) : ∀ args w, (callFunc f args).run P w = .ok (.enter f args) w := by
 obtain ⟨fn, c, h1, h2, h3, _⟩ := h
 exact Go.Proofs.enters_of h1 h2 h3
theorem sortE_I {P : Program} {ρ : Go.Shelf.Ren} (L : Go.Proofs.SlLaysF0.n6 P ρ) (aE : ∀ w, (isAgg (ρ.t 24)).run P w = .ok true w) (zE : ∀ w, (Go.sizeOf (ρ.t 24)).run P w = .ok 2 w) (F : F_z0m P) : SortE P (ρ.f 6) F.id :=
 sortEg_of L aE zE (enters_has F.has) fun x y hx => by letI : Draws := upD; exact (Intervals_1_spec F x y (by omega) []).mono fun _ _ h => h.1
theorem sortE_C {P : Program} {ρ : Go.Shelf.Ren} (L : Go.Proofs.SlLaysF0.n6 P ρ) (aE : ∀ w, (isAgg (ρ.t 24)).run P w = .ok true w) (zE : ∀ w, (Go.sizeOf (ρ.t 24)).run P w = .ok 2 w) (F : F_z0u P) : SortE P (ρ.f 6) F.id :=
 sortEg_of L aE zE (enters_has F.has) fun x y hx => by letI : Draws := upD; exact (Contents_1_spec F x y (by omega) []).mono fun _ _ h => h.1
abbrev VerS (s : Sou) := {v : Ver // okV s v}
def subVr {s : Sou} : (l : List Ver) → (∀ e ∈ l, okV s e) → List (VerS s)
 | [], _ => []
 | e :: l, h => ⟨e, h e (List.mem_cons_self ..)⟩ :: subVr l fun e he => h e (List.mem_cons_of_mem _ he)
theorem subVr_map {s : Sou} : ∀ (l : List Ver) (h : ∀ e ∈ l, okV s e), (subVr l h).map (fun e => e.1) = l
 | [], _ => rfl
 | e :: l, h => by rw [subVr, List.map_cons, subVr_map l]
theorem swo_V (s : Sou) : SWO (Go.Proofs.ltOf fun a b : VerS s => cmpVr s a.1 b.1) where
 irrefl x := by
  have := (preC_V s).anti x.1 x.1
  simp [Go.Proofs.ltOf]; omega
 trans x y z h1 h2 := by
  simp [Go.Proofs.ltOf] at h1 h2 ⊢
  have a1 := (preC_V s).anti x.1 y.1
  have a2 := (preC_V s).anti y.1 z.1
  have a3 := (preC_V s).anti x.1 z.1
  have t1 := (preC_V s).tr z.1 x.1 y.1
  omega
 ntrans x y z h1 h2 := by
  simp [Go.Proofs.ltOf] at h1 h2 ⊢
  exact (preC_V s).tr z.1 y.1 x.1 (by omega) (by omega)
theorem sortVr_of {P : Program} {ρ : Go.Shelf.Ren} (L : Go.Proofs.SlLaysF0.n6 P ρ) (aE : ∀ w, (isAgg (ρ.t 24)).run P w = .ok true w) (zE : ∀ w, (Go.sizeOf (ρ.t 24)).run P w = .ok 5 w) (F : F_z0x P) : SortVr P (ρ.f 6) F.id := by
 intro s hs l hne hl hr H i0 ho
 have hm := subVr_map l hr
 have hcells : (subVr l hr).map (fun e => verC e.1) = vsC l := by
  have := congrArg (List.map verC) hm
  rw [List.map_map] at this
  exact this
 have hlen : (subVr l hr).length = l.length := by rw [← List.length_map (f := fun e : VerS s => e.1), hm]
 have main := sortC_spec (P := P) L (k := 5) (by decide) aE zE (cells := fun e : VerS s => verC e.1) (fun _ => rfl) (fun x c hc => by
  simp [verC] at hc
  rcases hc with rfl | rfl | rfl | rfl | rfl <;> rfl) (cmp := fun a b => cmpVr s a.1 b.1) (swo_V s) (g := F.id) (caps := [.cptr [.list false 1 (iC (keyI s))] 0, .cptr (souC s) 0]) rfl (enters_has F.has)
  (fun x y => by letI : Draws := upD; exact (Versions_2_spec F s hs x.1 y.1 x.2 y.2 []).mono fun _ _ h => h.1)
  (es := subVr l hr) (fun h => by rw [h] at hm; exact hne hm.symm) (by omega) (i0 := i0) (by rw [hcells]; exact ho)
 rw [hlen] at main
 refine main.mono ?_
 rintro r H' ⟨rfl, es', ⟨hp, hsr⟩, rfl⟩
 refine ⟨rfl, es'.map (fun e => e.1), by have := hp.map (fun e : VerS s => e.1); rwa [hm] at this, ?_, ?_⟩
 ·refine List.pairwise_iff_getElem.2 fun i j hi hj hij => ?_
  rw [List.length_map] at hi hj
  have := hsr i j es'[i] es'[j] hij (List.getElem?_eq_getElem hi) (List.getElem?_eq_getElem hj)
  simp only [List.getElem_map]
  exact this
 ·have e : es'.map (fun e : VerS s => verC e.1) = vsC (es'.map fun e => e.1) := by rw [vsC, List.map_map]; rfl
  rw [e]
end Go.AW
