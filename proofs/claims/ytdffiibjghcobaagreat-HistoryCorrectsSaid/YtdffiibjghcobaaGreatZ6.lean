/-
  An abstract machine over the model, the code of functions on it, and their contracts: what the claim needs.
  No condition: definitions, plain laws, contracts over any program that has this code.
-/
import Derived.Test.YtdffiibjghcobaaGreatZ5
set_option linter.all false
namespace Go.AW
variable [Draws]
attribute [local irreducible] ACalls
def wk (s : Src) (l : List Int) (i : Nat) : Int × Nat := nx l (wr l s.cols (nx l i 4).2 []).2 24

def wrow (s : Src) (l : List Int) (i : Nat) : List V := (wr l s.cols (nx l i 4).2 []).1

def wrec (s : Src) (l : List Int) (i : Nat) : Rec × Nat :=
 if (wk s l i).1 < 5 then (⟨true, (nx l i 4).1, delR s.key s.cols (wrow s l i)⟩, (wk s l i).2)
 else if (wk s l i).1 = 5 then (⟨true, (nx l i 4).1, wrow s l i⟩, (wk s l i).2)
 else if (wk s l i).1 = 6 then (⟨false, (nx l i 4).1, (wrow s l i).take (s.cols.length - 1)⟩, (wk s l i).2)
 else if (wk s l i).1 = 7 then (⟨false, (nx l i 4).1, (wrow s l i).set (nx l (wk s l i).2 s.cols.length).1.toNat ⟨1, 1, bs []⟩⟩, (nx l (wk s l i).2 s.cols.length).2)
 else if (wk s l i).1 = 8 then (⟨false, -1, wrow s l i⟩, (wk s l i).2)
 else (⟨false, (nx l i 4).1, wrow s l i⟩, (wk s l i).2)

theorem wrow_len (s : Src) (l : List Int) (i : Nat) : (wrow s l i).length = s.cols.length := by rw [wrow, wr_len]; simp

theorem wk_le (s : Src) (l : List Int) (i : Nat) (h : i ≤ l.length) : (wk s l i).2 ≤ l.length := nx_le _ _ _ (wr_le _ _ _ _ (nx_le _ _ _ h))

theorem wrec_le (s : Src) (l : List Int) (i : Nat) (h : i ≤ l.length) : (wrec s l i).2 ≤ l.length := by
 have := wk_le s l i h
 unfold wrec
 repeat' split
 all_goals first
  | exact this
  | exact nx_le _ _ _ this

def RecRaw (s : Src) (l : List Int) (i : Nat) (r : AVal) (H' : List AObj) : Prop :=
 ∃ c, r = .agg [.bool (wrec s l i).1.del, .int .i64 (wrec s l i).1.seq, c] ∧
  ((c = .list false 3 (vC (wrec s l i).1.row) ∧ ∃ t, H' = gO l (wrec s l i).2 :: t) ∨
  ∃ m R x y z, c = .sl 3 (vC R).length 0 m ∧ ((vC R).drop 0).take m = vC (wrec s l i).1.row ∧ H' = [gO l (wrec s l i).2, x, y, .arr 3 (vC R), z])

set_option maxRecDepth 20000 in
theorem Record_raw {P : Program} (F : F_z3s P) (s : Src) (hc : s.cols ≠ []) (hcl : s.cols.length ≤ 1000) (hk : s.key.length ≤ 1000) (l : List Int) (i : Nat) (hi : i ≤ l.length) (hl : l.length ≤ 1000000) :
  ACalls P F.id [.agg (srcC s), .ptr 0 1 0 0] [gO l i] (RecRaw s l i) := by
 have nk0 := fun H id ho => Next_spec F.z3q l (wr l s.cols (nx l i 4).2 []).2 24 (wr_le _ _ _ _ (nx_le _ _ _ hi)) hl (by decide) H id ho
 have hkb := nx_bnd l (wr l s.cols (nx l i 4).2 []).2 24 (by decide)
 have hrl : (wrow s l i).length = s.cols.length := wrow_len s l i
 have hvl : (vC (wrow s l i)).length = s.cols.length := by rw [vC_length, hrl]
 have ps : pureEs [srcC s] = true := by simp [pureEs, srcC, srcX, AVal.isPure]
 have hcp : 0 < s.cols.length := List.length_pos_iff.2 hc
 have htk : ((vC (wrow s l i)).drop 0).take s.cols.length = vC (wrow s l i) := by rw [List.drop_zero, ← hvl, List.take_length]
 have hcs : (wk s l i).1 = 0 ∨ (wk s l i).1 = 1 ∨ (wk s l i).1 = 2 ∨ (wk s l i).1 = 3 ∨ (wk s l i).1 = 4 ∨ (wk s l i).1 = 5 ∨ (wk s l i).1 = 6 ∨ (wk s l i).1 = 7 ∨ (wk s l i).1 = 8 ∨ 9 ≤ (wk s l i).1 := by
  change 0 ≤ (wk s l i).1 ∧ _ at hkb
  omega
 rcases hcs with hz | hz | hz | hz | hz | hz | hz | hz | hz | hz
 ·have nk := nk0
  rw [show (nx l (wr l s.cols (nx l i 4).2 []).2 24).1 = 0 from hz] at nk
  refine acalls_of_body F.has ?_
  (conv => whnf); refine ⟨_, _, Next_spec F.z3q l i 4 hi hl (by decide) _ 0 rfl, ?_⟩
  (conv => whnf); refine ⟨_, _, wRow_spec F.z3t s.cols hc hcl l (nx l i 4).2 (nx_le _ _ _ hi) hl _ 0 rfl, ?_⟩
  (conv => whnf); refine And.intro (rfl) ?_
  (conv => whnf); refine ACalls.mono (nk _ 0 rfl) ?_
  rintro r H' ⟨rfl, rfl⟩
  conv => whnf
  refine ⟨Gp.keepL (n := 52) (live := [(1, .ptr 0 1 0 0), (2, .ptr 1 1 0 0), (4, .ptr 2 1 0 0), (5, .ptr 3 1 0 0), (14, .int .i64 (0))]) (H1 := [gO l (wk s l i).2, .arr 7 [srcC s], .arr 3 [[.bool false, .int .i64 0, .nil]], .arr 3 [recC ⟨false, (nx l i 4).1, wrow s l i⟩]]) [0, 1, 2, 4] (by simp) (keepB_one rfl rfl rfl)
   ⟨⟨_, rfl, .same _ _ rfl⟩, ⟨_, rfl, .same _ _ ps⟩, ⟨_, rfl, .same _ _ rfl⟩, ⟨_, rfl, obR (pubFI (by simp) rfl hvl.symm hvl.symm (pureEs_vC _)) rfl⟩, trivial⟩ rfl ⟨.keepP 0 1 0 0 0 rfl, .keepP 1 1 0 0 1 rfl, .keepP 2 1 0 0 2 rfl, .keepP 4 1 0 0 3 rfl, .closed _ rfl, trivial⟩ ?_⟩
  rintro ρ1 ⟨d, rfl⟩
  (conv => whnf); refine ACalls.use (Deletion_spec F.z3k s ⟨false, (nx l i 4).1, wrow s l i⟩ hrl hc hcl hk _) ?_
  conv => whnf
  have e : wrec s l i = (⟨true, (nx l i 4).1, delR s.key s.cols (wrow s l i)⟩, (wk s l i).2) := by rw [wrec, if_pos (by rw [hz]; decide)]
  show RecRaw s l i _ _
  unfold RecRaw
  rw [e]
  exact ⟨_, rfl, .inl ⟨rfl, _, rfl⟩⟩
 ·have nk := nk0
  rw [show (nx l (wr l s.cols (nx l i 4).2 []).2 24).1 = 1 from hz] at nk
  refine acalls_of_body F.has ?_
  (conv => whnf); refine ⟨_, _, Next_spec F.z3q l i 4 hi hl (by decide) _ 0 rfl, ?_⟩
  (conv => whnf); refine ⟨_, _, wRow_spec F.z3t s.cols hc hcl l (nx l i 4).2 (nx_le _ _ _ hi) hl _ 0 rfl, ?_⟩
  (conv => whnf); refine And.intro (rfl) ?_
  (conv => whnf); refine ACalls.mono (nk _ 0 rfl) ?_
  rintro r H' ⟨rfl, rfl⟩
  conv => whnf
  refine ⟨Gp.keepL (n := 52) (live := [(1, .ptr 0 1 0 0), (2, .ptr 1 1 0 0), (4, .ptr 2 1 0 0), (5, .ptr 3 1 0 0), (14, .int .i64 (1))]) (H1 := [gO l (wk s l i).2, .arr 7 [srcC s], .arr 3 [[.bool false, .int .i64 0, .nil]], .arr 3 [recC ⟨false, (nx l i 4).1, wrow s l i⟩]]) [0, 1, 2, 4] (by simp) (keepB_one rfl rfl rfl)
   ⟨⟨_, rfl, .same _ _ rfl⟩, ⟨_, rfl, .same _ _ ps⟩, ⟨_, rfl, .same _ _ rfl⟩, ⟨_, rfl, obR (pubFI (by simp) rfl hvl.symm hvl.symm (pureEs_vC _)) rfl⟩, trivial⟩ rfl ⟨.keepP 0 1 0 0 0 rfl, .keepP 1 1 0 0 1 rfl, .keepP 2 1 0 0 2 rfl, .keepP 4 1 0 0 3 rfl, .closed _ rfl, trivial⟩ ?_⟩
  rintro ρ1 ⟨d, rfl⟩
  (conv => whnf); refine ACalls.use (Deletion_spec F.z3k s ⟨false, (nx l i 4).1, wrow s l i⟩ hrl hc hcl hk _) ?_
  conv => whnf
  have e : wrec s l i = (⟨true, (nx l i 4).1, delR s.key s.cols (wrow s l i)⟩, (wk s l i).2) := by rw [wrec, if_pos (by rw [hz]; decide)]
  show RecRaw s l i _ _
  unfold RecRaw
  rw [e]
  exact ⟨_, rfl, .inl ⟨rfl, _, rfl⟩⟩
 ·have nk := nk0
  rw [show (nx l (wr l s.cols (nx l i 4).2 []).2 24).1 = 2 from hz] at nk
  refine acalls_of_body F.has ?_
  (conv => whnf); refine ⟨_, _, Next_spec F.z3q l i 4 hi hl (by decide) _ 0 rfl, ?_⟩
  (conv => whnf); refine ⟨_, _, wRow_spec F.z3t s.cols hc hcl l (nx l i 4).2 (nx_le _ _ _ hi) hl _ 0 rfl, ?_⟩
  (conv => whnf); refine And.intro (rfl) ?_
  (conv => whnf); refine ACalls.mono (nk _ 0 rfl) ?_
  rintro r H' ⟨rfl, rfl⟩
  conv => whnf
  refine ⟨Gp.keepL (n := 52) (live := [(1, .ptr 0 1 0 0), (2, .ptr 1 1 0 0), (4, .ptr 2 1 0 0), (5, .ptr 3 1 0 0), (14, .int .i64 (2))]) (H1 := [gO l (wk s l i).2, .arr 7 [srcC s], .arr 3 [[.bool false, .int .i64 0, .nil]], .arr 3 [recC ⟨false, (nx l i 4).1, wrow s l i⟩]]) [0, 1, 2, 4] (by simp) (keepB_one rfl rfl rfl)
   ⟨⟨_, rfl, .same _ _ rfl⟩, ⟨_, rfl, .same _ _ ps⟩, ⟨_, rfl, .same _ _ rfl⟩, ⟨_, rfl, obR (pubFI (by simp) rfl hvl.symm hvl.symm (pureEs_vC _)) rfl⟩, trivial⟩ rfl ⟨.keepP 0 1 0 0 0 rfl, .keepP 1 1 0 0 1 rfl, .keepP 2 1 0 0 2 rfl, .keepP 4 1 0 0 3 rfl, .closed _ rfl, trivial⟩ ?_⟩
  rintro ρ1 ⟨d, rfl⟩
  (conv => whnf); refine ACalls.use (Deletion_spec F.z3k s ⟨false, (nx l i 4).1, wrow s l i⟩ hrl hc hcl hk _) ?_
  conv => whnf
  have e : wrec s l i = (⟨true, (nx l i 4).1, delR s.key s.cols (wrow s l i)⟩, (wk s l i).2) := by rw [wrec, if_pos (by rw [hz]; decide)]
  show RecRaw s l i _ _
  unfold RecRaw
  rw [e]
  exact ⟨_, rfl, .inl ⟨rfl, _, rfl⟩⟩
 ·have nk := nk0
  rw [show (nx l (wr l s.cols (nx l i 4).2 []).2 24).1 = 3 from hz] at nk
  refine acalls_of_body F.has ?_
  (conv => whnf); refine ⟨_, _, Next_spec F.z3q l i 4 hi hl (by decide) _ 0 rfl, ?_⟩
  (conv => whnf); refine ⟨_, _, wRow_spec F.z3t s.cols hc hcl l (nx l i 4).2 (nx_le _ _ _ hi) hl _ 0 rfl, ?_⟩
  (conv => whnf); refine And.intro (rfl) ?_
  (conv => whnf); refine ACalls.mono (nk _ 0 rfl) ?_
  rintro r H' ⟨rfl, rfl⟩
  conv => whnf
  refine ⟨Gp.keepL (n := 52) (live := [(1, .ptr 0 1 0 0), (2, .ptr 1 1 0 0), (4, .ptr 2 1 0 0), (5, .ptr 3 1 0 0), (14, .int .i64 (3))]) (H1 := [gO l (wk s l i).2, .arr 7 [srcC s], .arr 3 [[.bool false, .int .i64 0, .nil]], .arr 3 [recC ⟨false, (nx l i 4).1, wrow s l i⟩]]) [0, 1, 2, 4] (by simp) (keepB_one rfl rfl rfl)
   ⟨⟨_, rfl, .same _ _ rfl⟩, ⟨_, rfl, .same _ _ ps⟩, ⟨_, rfl, .same _ _ rfl⟩, ⟨_, rfl, obR (pubFI (by simp) rfl hvl.symm hvl.symm (pureEs_vC _)) rfl⟩, trivial⟩ rfl ⟨.keepP 0 1 0 0 0 rfl, .keepP 1 1 0 0 1 rfl, .keepP 2 1 0 0 2 rfl, .keepP 4 1 0 0 3 rfl, .closed _ rfl, trivial⟩ ?_⟩
  rintro ρ1 ⟨d, rfl⟩
  (conv => whnf); refine ACalls.use (Deletion_spec F.z3k s ⟨false, (nx l i 4).1, wrow s l i⟩ hrl hc hcl hk _) ?_
  conv => whnf
  have e : wrec s l i = (⟨true, (nx l i 4).1, delR s.key s.cols (wrow s l i)⟩, (wk s l i).2) := by rw [wrec, if_pos (by rw [hz]; decide)]
  show RecRaw s l i _ _
  unfold RecRaw
  rw [e]
  exact ⟨_, rfl, .inl ⟨rfl, _, rfl⟩⟩
 ·have nk := nk0
  rw [show (nx l (wr l s.cols (nx l i 4).2 []).2 24).1 = 4 from hz] at nk
  refine acalls_of_body F.has ?_
  (conv => whnf); refine ⟨_, _, Next_spec F.z3q l i 4 hi hl (by decide) _ 0 rfl, ?_⟩
  (conv => whnf); refine ⟨_, _, wRow_spec F.z3t s.cols hc hcl l (nx l i 4).2 (nx_le _ _ _ hi) hl _ 0 rfl, ?_⟩
  (conv => whnf); refine And.intro (rfl) ?_
  (conv => whnf); refine ACalls.mono (nk _ 0 rfl) ?_
  rintro r H' ⟨rfl, rfl⟩
  conv => whnf
  refine ⟨Gp.keepL (n := 52) (live := [(1, .ptr 0 1 0 0), (2, .ptr 1 1 0 0), (4, .ptr 2 1 0 0), (5, .ptr 3 1 0 0), (14, .int .i64 (4))]) (H1 := [gO l (wk s l i).2, .arr 7 [srcC s], .arr 3 [[.bool false, .int .i64 0, .nil]], .arr 3 [recC ⟨false, (nx l i 4).1, wrow s l i⟩]]) [0, 1, 2, 4] (by simp) (keepB_one rfl rfl rfl)
   ⟨⟨_, rfl, .same _ _ rfl⟩, ⟨_, rfl, .same _ _ ps⟩, ⟨_, rfl, .same _ _ rfl⟩, ⟨_, rfl, obR (pubFI (by simp) rfl hvl.symm hvl.symm (pureEs_vC _)) rfl⟩, trivial⟩ rfl ⟨.keepP 0 1 0 0 0 rfl, .keepP 1 1 0 0 1 rfl, .keepP 2 1 0 0 2 rfl, .keepP 4 1 0 0 3 rfl, .closed _ rfl, trivial⟩ ?_⟩
  rintro ρ1 ⟨d, rfl⟩
  (conv => whnf); refine ACalls.use (Deletion_spec F.z3k s ⟨false, (nx l i 4).1, wrow s l i⟩ hrl hc hcl hk _) ?_
  conv => whnf
  have e : wrec s l i = (⟨true, (nx l i 4).1, delR s.key s.cols (wrow s l i)⟩, (wk s l i).2) := by rw [wrec, if_pos (by rw [hz]; decide)]
  show RecRaw s l i _ _
  unfold RecRaw
  rw [e]
  exact ⟨_, rfl, .inl ⟨rfl, _, rfl⟩⟩
 ·have nk := nk0
  rw [show (nx l (wr l s.cols (nx l i 4).2 []).2 24).1 = 5 from hz] at nk
  refine acalls_of_body F.has ?_
  (conv => whnf); refine ⟨_, _, Next_spec F.z3q l i 4 hi hl (by decide) _ 0 rfl, ?_⟩
  (conv => whnf); refine ⟨_, _, wRow_spec F.z3t s.cols hc hcl l (nx l i 4).2 (nx_le _ _ _ hi) hl _ 0 rfl, ?_⟩
  (conv => whnf); refine And.intro (rfl) ?_
  (conv => whnf); refine ACalls.mono (nk _ 0 rfl) ?_
  rintro r H' ⟨rfl, rfl⟩
  conv => whnf
  refine ⟨Gp.keep (n := 52) (live := [(1, .ptr 0 1 0 0), (2, .ptr 1 1 0 0), (4, .ptr 2 1 0 0), (5, .ptr 4 1 0 0), (14, .int .i64 (5))]) rfl ⟨rfl, rfl, rfl, rfl, rfl, trivial⟩ ?_⟩
  rintro ρ1 ⟨d, rfl⟩
  conv => whnf
  have e : wrec s l i = (⟨true, (nx l i 4).1, wrow s l i⟩, (wk s l i).2) := by rw [wrec, if_neg (by rw [hz]; decide), if_pos hz]
  show RecRaw s l i _ _
  unfold RecRaw
  rw [e]
  exact ⟨_, rfl, .inr ⟨s.cols.length, wrow s l i, _, _, _, by rw [hvl]; rfl, htk, rfl⟩⟩
 ·have nk := nk0
  rw [show (nx l (wr l s.cols (nx l i 4).2 []).2 24).1 = 6 from hz] at nk
  refine acalls_of_body F.has ?_
  (conv => whnf); refine ⟨_, _, Next_spec F.z3q l i 4 hi hl (by decide) _ 0 rfl, ?_⟩
  (conv => whnf); refine ⟨_, _, wRow_spec F.z3t s.cols hc hcl l (nx l i 4).2 (nx_le _ _ _ hi) hl _ 0 rfl, ?_⟩
  (conv => whnf); refine And.intro (rfl) ?_
  (conv => whnf); refine ACalls.mono (nk _ 0 rfl) ?_
  rintro r H' ⟨rfl, rfl⟩
  conv => whnf
  refine ⟨Gp.keep (n := 52) (live := [(1, .ptr 0 1 0 0), (2, .ptr 1 1 0 0), (4, .ptr 2 1 0 0), (5, .ptr 4 1 0 0), (14, .int .i64 (6))]) rfl ⟨rfl, rfl, rfl, rfl, rfl, trivial⟩ ?_⟩
  rintro ρ1 ⟨d, rfl⟩
  have ew : IntKind.i64.wrap ((s.cols.length : Int) - 1) = ((s.cols.length - 1 : Nat) : Int) := by rw [wrapI _ (by omega) (by omega)]; omega
  have hb : Nat.beq s.cols.length (vC (wrow s l i)).length = true := by rw [hvl]; exact Nat.beq_refl _
  (conv => whnf); refine recT (hb) ?_
  (conv => whnf); refine recT (hb) ?_
  (conv => whnf); refine And.intro (by rw [ew]; omega) ?_
  conv => whnf
  have e : wrec s l i = (⟨false, (nx l i 4).1, (wrow s l i).take (s.cols.length - 1)⟩, (wk s l i).2) := by rw [wrec, if_neg (by rw [hz]; decide), if_neg (by rw [hz]; decide), if_pos hz]
  show RecRaw s l i _ _
  unfold RecRaw
  rw [e]
  refine ⟨_, rfl, .inr ⟨s.cols.length - 1, wrow s l i, _, _, _, ?_, ?_, rfl⟩⟩
  ·show AVal.sl 3 s.cols.length 0 ((IntKind.i64.wrap ((s.cols.length : Int) - 1)).toNat - 0) = _
   rw [ew, hvl, Int.toNat_natCast]; rfl
  ·rw [List.drop_zero]; simp [vC, List.map_take]
 ·have nk := nk0
  rw [show (nx l (wr l s.cols (nx l i 4).2 []).2 24).1 = 7 from hz] at nk
  refine acalls_of_body F.has ?_
  (conv => whnf); refine ⟨_, _, Next_spec F.z3q l i 4 hi hl (by decide) _ 0 rfl, ?_⟩
  (conv => whnf); refine ⟨_, _, wRow_spec F.z3t s.cols hc hcl l (nx l i 4).2 (nx_le _ _ _ hi) hl _ 0 rfl, ?_⟩
  (conv => whnf); refine And.intro (rfl) ?_
  (conv => whnf); refine ACalls.mono (nk _ 0 rfl) ?_
  rintro r H' ⟨rfl, rfl⟩
  conv => whnf
  refine ⟨Gp.keep (n := 52) (live := [(1, .ptr 0 1 0 0), (2, .ptr 1 1 0 0), (4, .ptr 2 1 0 0), (5, .ptr 4 1 0 0), (14, .int .i64 (7))]) rfl ⟨rfl, rfl, rfl, rfl, rfl, trivial⟩ ?_⟩
  rintro ρ1 ⟨d, rfl⟩
  have hb : Nat.beq s.cols.length (vC (wrow s l i)).length = true := by rw [hvl]; exact Nat.beq_refl _
  have hn7 := nx_bnd l (wk s l i).2 s.cols.length (by omega)
  (conv => whnf); refine recT (hb) ?_
  (conv => whnf); refine ⟨_, _, Next_spec F.z3q l (wk s l i).2 s.cols.length (wk_le s l i hi) hl (by omega) _ 0 rfl, ?_⟩
  (conv => whnf); refine recT (hb) ?_
  (conv => whnf); refine And.intro (hn7) ?_
  (conv => whnf); refine recT (hb) ?_
  (conv => whnf); refine recO (vC_at (l := wrow s l i) (k := 0 + (nx l (wk s l i).2 s.cols.length).1.toNat) (List.getElem?_eq_getElem (by omega))) ?_
  (conv => whnf); refine And.intro (rfl) ?_
  conv => whnf
  have e : wrec s l i = (⟨false, (nx l i 4).1, (wrow s l i).set (nx l (wk s l i).2 s.cols.length).1.toNat ⟨1, 1, bs []⟩⟩, (nx l (wk s l i).2 s.cols.length).2) := by rw [wrec, if_neg (by rw [hz]; decide), if_neg (by rw [hz]; decide), if_neg (by rw [hz]; decide), if_pos hz]
  show RecRaw s l i _ _
  unfold RecRaw
  rw [e]
  have ht : ∀ X : List (List AVal), X.length = s.cols.length → (X.drop 0).take s.cols.length = X := fun X h => by rw [List.drop_zero, ← h, List.take_length]
  have hsl : (vC ((wrow s l i).set (nx l (wk s l i).2 s.cols.length).1.toNat ⟨1, 1, bs []⟩)).length = s.cols.length := by rw [vC_length, List.length_set, hrl]
  have hset : setEs (vC (wrow s l i)) (0 + (nx l (wk s l i).2 s.cols.length).1.toNat) (valC ⟨1, 1, bs []⟩) = vC ((wrow s l i).set (nx l (wk s l i).2 s.cols.length).1.toNat ⟨1, 1, bs []⟩) := by rw [Nat.zero_add, setEs_vC]
  exact ⟨_, rfl, .inr ⟨s.cols.length, (wrow s l i).set (nx l (wk s l i).2 s.cols.length).1.toNat ⟨1, 1, bs []⟩, _, _, _, by rw [hsl]; rfl, ht _ hsl, (congrArg (fun X => [gO l (nx l (wk s l i).2 s.cols.length).2, _, _, AObj.arr 3 X, _]) hset)⟩⟩
 ·have nk := nk0
  rw [show (nx l (wr l s.cols (nx l i 4).2 []).2 24).1 = 8 from hz] at nk
  refine acalls_of_body F.has ?_
  (conv => whnf); refine ⟨_, _, Next_spec F.z3q l i 4 hi hl (by decide) _ 0 rfl, ?_⟩
  (conv => whnf); refine ⟨_, _, wRow_spec F.z3t s.cols hc hcl l (nx l i 4).2 (nx_le _ _ _ hi) hl _ 0 rfl, ?_⟩
  (conv => whnf); refine And.intro (rfl) ?_
  (conv => whnf); refine ACalls.mono (nk _ 0 rfl) ?_
  rintro r H' ⟨rfl, rfl⟩
  conv => whnf
  refine ⟨Gp.keep (n := 52) (live := [(1, .ptr 0 1 0 0), (2, .ptr 1 1 0 0), (4, .ptr 2 1 0 0), (5, .ptr 4 1 0 0), (14, .int .i64 (8))]) rfl ⟨rfl, rfl, rfl, rfl, rfl, trivial⟩ ?_⟩
  rintro ρ1 ⟨d, rfl⟩
  conv => whnf
  have e : wrec s l i = (⟨false, -1, wrow s l i⟩, (wk s l i).2) := by rw [wrec, if_neg (by rw [hz]; decide), if_neg (by rw [hz]; decide), if_neg (by rw [hz]; decide), if_neg (by rw [hz]; decide), if_pos hz]
  show RecRaw s l i _ _
  unfold RecRaw
  rw [e]
  exact ⟨_, rfl, .inr ⟨s.cols.length, wrow s l i, _, _, _, by rw [hvl]; rfl, htk, rfl⟩⟩
 ·have nk := nk0
  rw [show (nx l (wr l s.cols (nx l i 4).2 []).2 24).1 = (wk s l i).1 from rfl] at nk
  refine acalls_of_body F.has ?_
  (conv => whnf); refine ⟨_, _, Next_spec F.z3q l i 4 hi hl (by decide) _ 0 rfl, ?_⟩
  (conv => whnf); refine ⟨_, _, wRow_spec F.z3t s.cols hc hcl l (nx l i 4).2 (nx_le _ _ _ hi) hl _ 0 rfl, ?_⟩
  (conv => whnf); refine And.intro (rfl) ?_
  (conv => whnf); refine ACalls.mono (nk _ 0 rfl) ?_
  rintro r H' ⟨rfl, rfl⟩
  conv => whnf
  refine ⟨Gp.keep (n := 52) (live := [(1, .ptr 0 1 0 0), (2, .ptr 1 1 0 0), (4, .ptr 2 1 0 0), (5, .ptr 4 1 0 0), (14, .int .i64 ((wk s l i).1))]) rfl ⟨rfl, rfl, rfl, rfl, rfl, trivial⟩ ?_⟩
  rintro ρ1 ⟨d, rfl⟩
  have hne : ∀ z : Int, z < 9 → ((wk s l i).1 == z) = false := fun z hz => by simp; omega
  (conv => whnf); refine recF (hne 0 (by decide)) ?_
  (conv => whnf); refine recF (hne 1 (by decide)) ?_
  (conv => whnf); refine recF (hne 2 (by decide)) ?_
  (conv => whnf); refine recF (hne 3 (by decide)) ?_
  (conv => whnf); refine recF (hne 4 (by decide)) ?_
  (conv => whnf); refine recF (hne 5 (by decide)) ?_
  (conv => whnf); refine recF (hne 6 (by decide)) ?_
  (conv => whnf); refine recF (hne 7 (by decide)) ?_
  (conv => whnf); refine recF (hne 8 (by decide)) ?_
  conv => whnf
  have e : wrec s l i = (⟨false, (nx l i 4).1, wrow s l i⟩, (wk s l i).2) := by rw [wrec, if_neg (by omega), if_neg (by omega), if_neg (by omega), if_neg (by omega), if_neg (by omega)]
  show RecRaw s l i _ _
  unfold RecRaw
  rw [e]
  exact ⟨_, rfl, .inr ⟨s.cols.length, wrow s l i, _, _, _, by rw [hvl]; rfl, htk, rfl⟩⟩

theorem Record_spec0 {P : Program} (F : F_z3s P) (s : Src) (hc : s.cols ≠ []) (hcl : s.cols.length ≤ 1000) (hk : s.key.length ≤ 1000) (l : List Int) (i : Nat) (hi : i ≤ l.length) (hl : l.length ≤ 1000000) :
  ACalls P F.id [.agg (srcC s), .ptr 0 1 0 0] [gO l i] (fun r H' => r = .agg (recC (wrec s l i).1) ∧ H' = [gO l (wrec s l i).2]) := by
 refine (Record_raw F s hc hcl hk l i hi hl).gp ?_
 rintro r H' ⟨c, rfl, ⟨rfl, t, rfl⟩ | ⟨m, R, x, y, z, rfl, hR, rfl⟩⟩
 ·exact Gp.res [0] (by simp) (keepB_hd rfl) (H1 := [gO l (wrec s l i).2]) ⟨⟨_, rfl, .same _ _ rfl⟩, trivial⟩ (.closed _ (by simp [AVal.closed, AVal.isPure])) ⟨_, rfl, rfl, rfl⟩
 ·refine Gp.res [0] (by simp) (keepB_one rfl rfl rfl) (H1 := [gO l (wrec s l i).2]) (r' := .agg (recC (wrec s l i).1)) ⟨⟨_, rfl, .same _ _ rfl⟩, trivial⟩ ?_ ⟨_, rfl, rfl, rfl⟩
  refine .agg _ _ rfl fun i v r h1 h2 => ?_
  rcases i with _ | _ | _ | i
  ·cases h1; cases h2; exact .closed _ rfl
  ·cases h1; cases h2; exact .closed _ rfl
  ·cases h1; cases h2
   have := Pub.frz (H1 := [gO l (wrec s l i).2, x, y, .arr 3 (vC R), z]) (n := 0) (ids := [0]) 3 (vC R).length 0 m 3 (vC R) rfl rfl (pureEs_vC _) (by simp)
   rwa [hR] at this
  ·simp at h1

theorem Record_spec {P : Program} (F : F_z3s P) (s : Src) (hc : s.cols ≠ []) (hcl : s.cols.length ≤ 1000) (hk : s.key.length ≤ 1000) (l : List Int) (i : Nat) (hi : i ≤ l.length) (hl : l.length ≤ 1000000) (H : List AObj) (id : Nat) (ho : H[id]? = some (gO l i)) :
  ACalls P F.id [.agg (srcC s), .ptr id 1 0 0] H (fun r H' => r = .agg (recC (wrec s l i).1) ∧ H' = H.set id (gO l (wrec s l i).2)) :=
 (Record_spec0 F s hc hcl hk l i hi hl).fr ho rfl rfl (.cl (by simp [AVal.closed, srcC, srcX, AVal.isPure]) (.pt trivial)) (.closed _ (by simp [AVal.closed, recC, AVal.isPure]))

end Go.AW

namespace Go.AW
variable [Draws]
attribute [local irreducible] ACalls
def wf (s : Src) (l : List Int) : Nat → Nat → List Rec → List Rec × Nat
 | 0, i, L => (L, i)
 | k + 1, i, L => wf s l k (wrec s l i).2 (L ++ [(wrec s l i).1])

theorem wf_len (s : Src) (l : List Int) : ∀ (k i : Nat) (L : List Rec), (wf s l k i L).1.length = L.length + k
 | 0, _, _ => rfl
 | k + 1, i, L => by rw [wf, wf_len s l k]; simp; omega

theorem wf_le (s : Src) (l : List Int) : ∀ (k i : Nat) (L : List Rec), i ≤ l.length → (wf s l k i L).2 ≤ l.length
 | 0, _, _, h => h
 | k + 1, i, L, h => by rw [wf]; exact wf_le s l k _ _ (wrec_le s l i h)

def sName : ByteArray := bs [115, 104, 111, 112, 46, 111, 114, 100, 101, 114, 115]

def fileH (s : Src) (id : ByteArray) (l : List Int) (L : List Rec) (j : Nat) (H : List AObj) : Prop :=
 (L = [] ∧ H = [gO l j, .arr 7 [srcC s], .arr 3 [[.str (bs []), .str (bs []), .nil]], .arr 3 [[.str id, .str sName, .nil]]]) ∨
 (L ≠ [] ∧ H = [gO l j, .arr 7 [srcC s], .arr 3 [[.str (bs []), .str (bs []), .nil]], .arr 3 [[.str id, .str sName, .sl 4 L.length 0 L.length]], .arr 3 (rC L)])

end Go.AW

namespace Go.AW
variable [Draws]
attribute [local irreducible] ACalls
structure Sou where
 name : ByteArray
 cols : List Col
 key : List ByteArray
 att : ByteArray
 zone : ByteArray
 late : Int
 reopen : Int

def souC (s : Sou) : List AVal := [.str s.name, .list false 3 (cC s.cols), .list false 1 (sC s.key), .str s.att, .str s.zone, .int .i64 s.late, .int .i64 s.reopen]

def Sou.ok (s : Sou) : Prop := s.cols.length ≤ 1000 ∧ s.key.length ≤ 1000

def kcolB (s : Sou) (c : Col) : Bool := eqS c.name s.att || inB s.key c.name

def isZ (v : V) : Bool := v.kind == 0 && (v.num == 0 && (v.str.data.toList == (bs []).data.toList && true))

def delGo (s : Sou) : List Col → List V → Int
 | c :: cs, v :: rs => if kcolB s c then (if chkRow [c] [v] ≠ 0 then chkRow [c] [v] else delGo s cs rs) else if isZ v then delGo s cs rs else 8
 | _, _ => 0

def delV (s : Sou) (row : List V) : Int := if row.length = s.cols.length then delGo s s.cols row else 8

def fitsV (s : Sou) (r : Rec) : Int := if r.seq < 0 ∨ 1073741824 < r.seq then 1 else if r.del then delV s r.row else chkRow s.cols r.row

def timeV (s : Sou) (r : Rec) : Int :=
 if colIdx s.cols s.att < 0 ∨ fitsV s r ≠ 0 ∨ (r.row.getD (colIdx s.cols s.att).toNat zV).kind ≠ 4 then -1 else (r.row.getD (colIdx s.cols s.att).toNat zV).num

theorem any_inB (l : List ByteArray) (t : ByteArray) : l.any (eqS t) = inB l t := by
 unfold inB
 congr 1
 funext x
 unfold eqS
 rw [Bool.eq_iff_iff]; exact ⟨fun h => by rw [beq_iff_eq] at h ⊢; exact h.symm, fun h => by rw [beq_iff_eq] at h ⊢; exact h.symm⟩

theorem fits_len {s : Sou} {r : Rec} (h : fitsV s r = 0) : r.row.length = s.cols.length := by
 unfold fitsV at h
 split at h
 ·simp at h
 ·split at h
  ·unfold delV at h
   split at h
   ·assumption
   ·simp at h
  ·unfold chkRow at h
   split at h
   ·assumption
   ·simp at h

theorem idxOf_lt {α : Type} (p : α → Bool) : ∀ (l : List α) (i : Int), 0 ≤ i → idxOf p l i < i + l.length
 | [], i, h => by simp [idxOf]; omega
 | c :: cs, i, h => by
  rw [idxOf]
  split
  ·simp; omega
  ·have := idxOf_lt p cs (i + 1) (by omega)
   simp; omega

theorem colIdx_lt (cs : List Col) (n : ByteArray) (h : 0 ≤ colIdx cs n) : (colIdx cs n).toNat < cs.length := by
 have := idxOf_lt (named n) cs 0 (Int.le_refl _)
 unfold colIdx at h ⊢
 omega

theorem tk1 {α : Type} {l : List α} {k : Nat} {x : α} (h : l[k]? = some x) : (l.take (k + 1)).drop k = [x] := by
 have hk := (List.getElem?_eq_some_iff.1 h).1
 rw [List.drop_take, drop_cons h]; simp

set_option maxHeartbeats 1000000 in
set_option maxRecDepth 20000 in
theorem deletion_spec {P : Program} (F : F_z3y P) (s : Sou) (hs : s.ok) (row : List V) (hl : row.length ≤ 1000000) (H : List AObj) :
  ACalls P F.id [.agg (souC s), .list false 3 (vC row)] H (fun r H' => r = .int .i64 (delV s row) ∧ H' = H) := by
 obtain ⟨hc1, hk1⟩ := hs
 refine ACalls.pure (by simp [AVal.closed, AVal.isPure, souC]) (acalls_of_body F.has ?_)
 (conv => whnf); refine recA (fun h0 => ?_) (fun h0 => ?_)
 ·simp [vC_length, cC_length] at h0
  conv => whnf
  exact pubI (by rw [delV, if_neg (by omega)])
 simp [vC_length, cC_length] at h0
 have hR : delV s row = delGo s s.cols row := by rw [delV, if_pos (by omega)]
 conv => whnf
 refine ⟨fun m ρ H1 => ∃ k : Nat, k + m = s.cols.length ∧ delGo s (s.cols.drop k) (row.drop k) = delV s row ∧ H1 = [.arr 7 [souC s]] ∧ Sv 56 [(1, .list false 3 (vC row)), (2, .ptr 0 1 0 0), (15, .list false 3 (cC s.cols)), (16, .int .i64 s.cols.length), (17, .int .i64 k)] ρ, s.cols.length, [], ?_, ?_⟩
 ·exact ⟨0, by omega, hR.symm, rfl, Sv.intro rfl ⟨rfl, rfl, rfl, intEq (by rw [cC_length]), rfl, trivial⟩⟩
 rintro m ρ H1 ⟨k, hk, hr, rfl, d, rfl⟩
 (conv => whnf); refine recA (fun hlt => ?_) (fun hlt => ?_)
 ·simp at hlt
  have hc : s.cols[k]? = some s.cols[k] := List.getElem?_eq_getElem (by omega)
  have hv : row[k]? = some row[k] := List.getElem?_eq_getElem (by omega)
  generalize s.cols[k] = cx at hc
  generalize row[k] = vx at hv
  rw [drop_cons hc, drop_cons hv, delGo] at hr
  have ek : IntKind.i64.wrap ((k : Int) + 1) = ((k + 1 : Nat) : Int) := by rw [wrapI _ (by omega) (by omega)]; omega
  have t1 : ((cC s.cols).take (IntKind.i64.wrap ((k : Int) + 1)).toNat).drop (k : Int).toNat = cC [cx] := by
   rw [ek, Int.toNat_natCast, Int.toNat_natCast]; exact tk1 (cC_at hc)
  have t2 : ((vC row).take (IntKind.i64.wrap ((k : Int) + 1)).toNat).drop (k : Int).toNat = vC [vx] := by
   rw [ek, Int.toNat_natCast, Int.toNat_natCast]; exact tk1 (vC_at hv)
  have bnd1 : 0 ≤ (k : Int) ∧ (k : Int) ≤ IntKind.i64.wrap ((k : Int) + 1) ∧ IntKind.i64.wrap ((k : Int) + 1) ≤ (cC s.cols).length := by rw [ek, cC_length]; omega
  have bnd2 : 0 ≤ (k : Int) ∧ (k : Int) ≤ IntKind.i64.wrap ((k : Int) + 1) ∧ IntKind.i64.wrap ((k : Int) + 1) ≤ (vC row).length := by rw [ek, vC_length]; omega
  (conv => whnf); refine And.intro (by omega) ?_
  (conv => whnf); refine recO (cC_at hc) ?_
  (conv => whnf); refine recA (fun ha => ?_) (fun ha => ?_)
  ·replace ha : eqS cx.name s.att = true := ha
   rw [if_pos (by rw [kcolB, ha]; rfl)] at hr
   (conv => whnf); refine And.intro (bnd1) ?_
   (conv => whnf); refine And.intro (bnd2) ?_
   (conv => whnf)
   rw [t1, t2]
   (conv => whnf); refine ⟨_, schema_CheckRow_spec F.z0v _ _ [cx] [vx] (by simp) _, ?_⟩
   repeat ((conv => whnf); refine And.intro rfl ?_)
   (conv => whnf); refine recA (fun hn => ?_) (fun hn => ?_)
   ·replace hn : (!(chkRow [cx] [vx] == 0)) = true := hn
    rw [if_pos (by simpa using hn)] at hr
    conv => whnf
    exact pubI hr
   ·replace hn : (!(chkRow [cx] [vx] == 0)) = false := hn
    rw [if_neg (by simpa using hn)] at hr
    conv => whnf
    refine ⟨m - 1, by omega, Gp.first 1 [.arr 7 [souC s]] rfl rfl (by simp [pureO, pureEs, souC, AVal.isPure]) rfl ?_ fun ρ1 h => ⟨k + 1, by omega, hr, rfl, h⟩⟩
    exact ⟨.closed _ rfl, .keepP 0 1 0 0 0 rfl, .closed _ rfl, .closed _ rfl, pub_int ek, trivial⟩
  ·replace ha : eqS cx.name s.att = false := ha
   (conv => whnf); refine ACalls.use (Contains_spec F.z17 false s.key (by omega) cx.name _) ?_
   (conv => whnf); refine recA (fun hb => ?_) (fun hb => ?_)
   ·rw [any_inB] at hb
    rw [if_pos (by rw [kcolB, hb, Bool.or_true])] at hr
    (conv => whnf); refine And.intro (bnd1) ?_
    (conv => whnf); refine And.intro (bnd2) ?_
    (conv => whnf)
    rw [t1, t2]
    (conv => whnf); refine ⟨_, schema_CheckRow_spec F.z0v _ _ [cx] [vx] (by simp) _, ?_⟩
    repeat ((conv => whnf); refine And.intro rfl ?_)
    (conv => whnf); refine recA (fun hn => ?_) (fun hn => ?_)
    ·replace hn : (!(chkRow [cx] [vx] == 0)) = true := hn
     rw [if_pos (by simpa using hn)] at hr
     conv => whnf
     exact pubI hr
    ·replace hn : (!(chkRow [cx] [vx] == 0)) = false := hn
     rw [if_neg (by simpa using hn)] at hr
     conv => whnf
     refine ⟨m - 1, by omega, Gp.first 1 [.arr 7 [souC s]] rfl rfl (by simp [pureO, pureEs, souC, AVal.isPure]) rfl ?_ fun ρ1 h => ⟨k + 1, by omega, hr, rfl, h⟩⟩
     exact ⟨.closed _ rfl, .keepP 0 1 0 0 0 rfl, .closed _ rfl, .closed _ rfl, pub_int ek, trivial⟩
   ·rw [any_inB] at hb
    rw [if_neg (by rw [kcolB, ha, hb]; simp)] at hr
    (conv => whnf); refine And.intro (by omega) ?_
    (conv => whnf); refine recO (vC_at hv) ?_
    (conv => whnf); refine recA (fun hz => ?_) (fun hz => ?_)
    ·replace hz : (!isZ vx) = true := hz
     rw [if_neg (by simpa using hz)] at hr
     conv => whnf
     exact pubI hr
    ·replace hz : (!isZ vx) = false := hz
     rw [if_pos (by simpa using hz)] at hr
     conv => whnf
     refine ⟨m - 1, by omega, Gp.first 1 [.arr 7 [souC s]] rfl rfl (by simp [pureO, pureEs, souC, AVal.isPure]) rfl ?_ fun ρ1 h => ⟨k + 1, by omega, hr, rfl, h⟩⟩
     exact ⟨.closed _ rfl, .keepP 0 1 0 0 0 rfl, .closed _ rfl, .closed _ rfl, pub_int ek, trivial⟩
 ·simp at hlt
  rw [List.drop_of_length_le (show s.cols.length ≤ k by omega)] at hr
  conv => whnf
  exact pubI (hr.symm ▸ (by cases row.drop k <;> rfl))

theorem souC_closed (s : Sou) : (AVal.agg (souC s)).closed = true := by simp [AVal.closed, AVal.isPure, souC]

theorem recC_closed (r : Rec) : (AVal.agg (recC r)).closed = true := by simp [AVal.closed, AVal.isPure, recC]

theorem verC_closed (v : Ver) : (AVal.agg (verC v)).closed = true := by simp [AVal.closed, AVal.isPure, verC]

set_option maxRecDepth 20000 in
theorem wFits_spec {P : Program} (F : F_z3w P) (s : Sou) (hs : s.ok) (r : Rec) (hl : r.row.length ≤ 1000000) (H : List AObj) :
  ACalls P F.id [.agg (souC s), .agg (recC r)] H (fun q H' => q = .int .i64 (fitsV s r) ∧ H' = H) := by
 refine ACalls.pure (by simp [souC_closed, recC_closed]) (acalls_of_body F.has ?_)
 (conv => whnf); refine recA (fun h0 => ?_) (fun h0 => ?_)
 ·simp at h0
  conv => whnf
  exact pubI (by rw [fitsV, if_pos (.inl h0)])
 (conv => whnf); refine recA (fun h1 => ?_) (fun h1 => ?_)
 ·simp at h1
  conv => whnf
  exact pubI (by rw [fitsV, if_pos (.inr h1)])
 have hR : fitsV s r = if r.del then delV s r.row else chkRow s.cols r.row := by
  simp at h0 h1
  rw [fitsV, if_neg (by omega)]
 (conv => whnf); refine recA (fun hd => ?_) (fun hd => ?_)
 ·rw [hR, if_pos (show r.del = true from hd)]
  (conv => whnf); refine ACalls.use (deletion_spec F.z3y s hs r.row hl _) ?_
  conv => whnf
  exact pubI rfl
 ·rw [hR, if_neg (by rw [show r.del = false from hd]; simp)]
  (conv => whnf); refine ACalls.use (schema_CheckRow_spec F.z0v _ _ s.cols r.row hl _) ?_
  conv => whnf
  exact pubI rfl

set_option maxRecDepth 20000 in
theorem wTime_spec {P : Program} (F : F_z3x P) (s : Sou) (hs : s.ok) (r : Rec) (hl : r.row.length ≤ 1000000) (H : List AObj) :
  ACalls P F.id [.agg (souC s), .agg (recC r)] H (fun q H' => q = .int .i64 (timeV s r) ∧ H' = H) := by
 refine ACalls.pure (by simp [souC_closed, recC_closed]) (acalls_of_body F.has ?_)
 (conv => whnf); refine ACalls.use (schema_Index_spec F.z0w false s.cols (by have := hs.1; omega) s.att _) ?_
 (conv => whnf); refine recA (fun h0 => ?_) (fun h0 => ?_)
 ·simp at h0
  conv => whnf
  exact pubI (by rw [timeV, if_pos (.inl h0)])
 simp at h0
 (conv => whnf); refine ACalls.use (wFits_spec F.z3w s hs r hl _) ?_
 (conv => whnf); refine recA (fun h1 => ?_) (fun h1 => ?_)
 ·replace h1 : (!(fitsV s r == 0)) = true := h1
  conv => whnf
  exact pubI (by rw [timeV, if_pos (.inr (.inl (by simpa using h1)))])
 replace h1 : (!(fitsV s r == 0)) = false := h1
 have hf : fitsV s r = 0 := by simpa using h1
 have hlen := fits_len hf
 have hlt := colIdx_lt s.cols s.att h0
 have hv : r.row[(colIdx s.cols s.att).toNat]? = some (r.row.getD (colIdx s.cols s.att).toNat zV) := by
  rw [List.getD_eq_getElem?_getD, List.getElem?_eq_getElem (by omega)]; rfl
 (conv => whnf); refine And.intro (h0) ?_
 (conv => whnf); refine recO (vC_at hv) ?_
 (conv => whnf); refine recA (fun h2 => ?_) (fun h2 => ?_)
 ·replace h2 : (!((r.row.getD (colIdx s.cols s.att).toNat zV).kind == 4)) = true := h2
  conv => whnf
  exact pubI (by rw [timeV, if_pos (.inr (.inr (by simpa using h2)))])
 ·replace h2 : (!((r.row.getD (colIdx s.cols s.att).toNat zV).kind == 4)) = false := h2
  (conv => whnf); refine And.intro (h0) ?_
  (conv => whnf); refine recO (vC_at hv) ?_
  conv => whnf
  exact pubI (by rw [Bool.not_eq_false', beq_iff_eq] at h2; rw [timeV, if_neg (by omega)])

set_option maxRecDepth 20000 in
theorem in25_spec {P : Program} (F : F_z2m P) (l : List ByteArray) (s : ByteArray) (hl : l.length ≤ 1000000) (H : List AObj) :
  ACalls P F.id [.list false 1 (sC l), .str s] H (fun r H' => r = .bool (inB l s) ∧ H' = H) := by
 refine ACalls.pure rfl (acalls_of_body F.has ?_)
 conv => whnf
 refine ⟨fun m ρ H1 => ∃ k : Nat, k + m = l.length ∧ inB l s = inB (l.drop k) s ∧ H1 = [] ∧ Sv 18 [(0, .list false 1 (sC l)), (1, .str s), (5, .int .i64 k)] ρ, l.length, [], ?_, ?_⟩
 ·exact ⟨0, by omega, rfl, rfl, Sv.intro rfl ⟨rfl, rfl, rfl, trivial⟩⟩
 rintro m ρ H1 ⟨k, hk, hr, rfl, d, rfl⟩
 (conv => whnf); refine recA (fun hlt => ?_) (fun hlt => ?_)
 ·simp [sC_length] at hlt
  have hx : l[k]? = some l[k] := List.getElem?_eq_getElem hlt
  replace hr : inB l s = (eqS l[k] s || inB (l.drop (k + 1)) s) := hr.trans (by rw [List.drop_eq_getElem_cons hlt]; rfl)
  (conv => whnf); refine And.intro (by omega) ?_
  (conv => whnf); refine recO (sC_at hx) ?_
  (conv => whnf); refine recA (fun h1 => ?_) (fun h1 => ?_)
  ·replace h1 : eqS l[k] s = true := h1
   conv => whnf
   rw [hr, h1]
   exact pubB rfl
  ·replace h1 : eqS l[k] s = false := h1
   rw [h1] at hr
   conv => whnf
   refine ⟨m - 1, by omega, Gp.none rfl ?_ fun ρ1 h => ⟨k + 1, by omega, hr, rfl, h⟩⟩
   exact ⟨.closed _ rfl, .closed _ rfl, pub_int (wrapI _ (by omega) (by omega)), trivial⟩
 ·simp [sC_length] at hlt
  rw [List.drop_of_length_le (by omega)] at hr
  conv => whnf
  rw [hr]
  exact pubB rfl

set_option maxHeartbeats 1000000 in
set_option maxRecDepth 20000 in
theorem fits25_spec {P : Program} (F : F_z2h P) (s : Sou) (hs : s.ok) (r : Rec) (hl : r.row.length ≤ 1000000) (H : List AObj) :
  ACalls P F.id [.agg (souC s), .agg (recC r)] H (fun q H' => q = .int .i64 (fitsV s r) ∧ H' = H) := by
 obtain ⟨hc1, hk1⟩ := hs
 refine ACalls.pure (by simp [souC_closed, recC_closed]) (acalls_of_body F.has ?_)
 (conv => whnf); refine recA (fun h0 => ?_) (fun h0 => ?_)
 ·simp at h0
  conv => whnf
  exact pubI (by rw [fitsV, if_pos (.inl h0)])
 (conv => whnf); refine recA (fun h1 => ?_) (fun h1 => ?_)
 ·simp at h1
  conv => whnf
  exact pubI (by rw [fitsV, if_pos (.inr h1)])
 have hR : fitsV s r = if r.del then delV s r.row else chkRow s.cols r.row := by
  simp at h0 h1
  rw [fitsV, if_neg (by omega)]
 (conv => whnf); refine recA (fun hd => ?_) (fun hd => ?_)
 ·replace hd : (!r.del) = true := hd
  rw [hR, if_neg (by simpa using hd)]
  (conv => whnf); refine ACalls.use (ref5_CheckRow_spec F.z38 _ _ s.cols r.row hl _) ?_
  conv => whnf
  exact pubI rfl
 replace hd : (!r.del) = false := hd
 rw [hR, if_pos (by simpa using hd)]
 (conv => whnf); refine recA (fun h2 => ?_) (fun h2 => ?_)
 ·simp [vC_length, cC_length] at h2
  conv => whnf
  exact pubI (by rw [delV, if_neg (by omega)])
 simp [vC_length, cC_length] at h2
 have hR2 : delV s r.row = delGo s s.cols r.row := by rw [delV, if_pos (by omega)]
 conv => whnf
 refine ⟨fun m ρ H1 => ∃ k : Nat, k + m = s.cols.length ∧ delGo s (s.cols.drop k) (r.row.drop k) = delV s r.row ∧ H1 = [.arr 7 [souC s], .arr 3 [recC r]] ∧ Sv 80 [(2, .ptr 0 1 0 0), (3, .ptr 1 1 0 0), (5, .int .i64 k)] ρ, s.cols.length, [], ?_, ?_⟩
 ·exact ⟨0, by omega, hR2.symm, rfl, Sv.intro rfl ⟨rfl, rfl, rfl, trivial⟩⟩
 rintro m ρ H1 ⟨k, hk, hr, rfl, d, rfl⟩
 (conv => whnf); refine recA (fun hlt => ?_) (fun hlt => ?_)
 ·simp [cC_length] at hlt
  have hc : s.cols[k]? = some s.cols[k] := List.getElem?_eq_getElem (by omega)
  have hv : r.row[k]? = some r.row[k] := List.getElem?_eq_getElem (by omega)
  generalize s.cols[k] = cx at hc
  generalize r.row[k] = vx at hv
  rw [drop_cons hc, drop_cons hv, delGo] at hr
  have ek : IntKind.i64.wrap ((k : Int) + 1) = ((k + 1 : Nat) : Int) := by rw [wrapI _ (by omega) (by omega)]; omega
  have t1 : ((cC s.cols).take (IntKind.i64.wrap ((k : Int) + 1)).toNat).drop (k : Int).toNat = cC [cx] := by
   rw [ek, Int.toNat_natCast, Int.toNat_natCast]; exact tk1 (cC_at hc)
  have t2 : ((vC r.row).take (IntKind.i64.wrap ((k : Int) + 1)).toNat).drop (k : Int).toNat = vC [vx] := by
   rw [ek, Int.toNat_natCast, Int.toNat_natCast]; exact tk1 (vC_at hv)
  have bnd1 : 0 ≤ (k : Int) ∧ (k : Int) ≤ IntKind.i64.wrap ((k : Int) + 1) ∧ IntKind.i64.wrap ((k : Int) + 1) ≤ (cC s.cols).length := by rw [ek, cC_length]; omega
  have bnd2 : 0 ≤ (k : Int) ∧ (k : Int) ≤ IntKind.i64.wrap ((k : Int) + 1) ∧ IntKind.i64.wrap ((k : Int) + 1) ≤ (vC r.row).length := by rw [ek, vC_length]; omega
  (conv => whnf); refine And.intro (by omega) ?_
  (conv => whnf); refine recO (cC_at hc) ?_
  (conv => whnf); refine ⟨_, in25_spec F.z2m s.key cx.name (by omega) _, ?_⟩
  (conv => whnf); refine recA (fun hb => ?_) (fun hb => ?_)
  ·rw [if_pos (by rw [kcolB, hb, Bool.or_true])] at hr
   (conv => whnf); refine And.intro (bnd1) ?_
   (conv => whnf); refine And.intro (bnd2) ?_
   (conv => whnf)
   rw [t1, t2]
   (conv => whnf); refine ⟨_, ref5_CheckRow_spec F.z38 _ _ [cx] [vx] (by simp) _, ?_⟩
   repeat ((conv => whnf); refine And.intro rfl ?_)
   (conv => whnf); refine recA (fun hn => ?_) (fun hn => ?_)
   ·replace hn : (!(chkRow [cx] [vx] == 0)) = true := hn
    rw [if_pos (by simpa using hn)] at hr
    conv => whnf
    exact pubI hr
   ·replace hn : (!(chkRow [cx] [vx] == 0)) = false := hn
    rw [if_neg (by simpa using hn)] at hr
    conv => whnf
    refine ⟨m - 1, by omega, Gp.first 2 [.arr 7 [souC s], .arr 3 [recC r]] rfl rfl (by simp [pureO, pureEs, souC, recC, AVal.isPure]) rfl ?_ fun ρ1 h => ⟨k + 1, by omega, hr, rfl, h⟩⟩
    exact ⟨.keepP 0 1 0 0 0 rfl, .keepP 1 1 0 0 1 rfl, pub_int ek, trivial⟩
  ·(conv => whnf); refine And.intro (by omega) ?_
   (conv => whnf); refine recO (cC_at hc) ?_
   (conv => whnf); refine recA (fun ha => ?_) (fun ha => ?_)
   ·replace ha : eqS cx.name s.att = true := ha
    rw [if_pos (by rw [kcolB, ha]; rfl)] at hr
    (conv => whnf); refine And.intro (bnd1) ?_
    (conv => whnf); refine And.intro (bnd2) ?_
    (conv => whnf)
    rw [t1, t2]
    (conv => whnf); refine ⟨_, ref5_CheckRow_spec F.z38 _ _ [cx] [vx] (by simp) _, ?_⟩
    repeat ((conv => whnf); refine And.intro rfl ?_)
    (conv => whnf); refine recA (fun hn => ?_) (fun hn => ?_)
    ·replace hn : (!(chkRow [cx] [vx] == 0)) = true := hn
     rw [if_pos (by simpa using hn)] at hr
     conv => whnf
     exact pubI hr
    ·replace hn : (!(chkRow [cx] [vx] == 0)) = false := hn
     rw [if_neg (by simpa using hn)] at hr
     conv => whnf
     refine ⟨m - 1, by omega, Gp.first 2 [.arr 7 [souC s], .arr 3 [recC r]] rfl rfl (by simp [pureO, pureEs, souC, recC, AVal.isPure]) rfl ?_ fun ρ1 h => ⟨k + 1, by omega, hr, rfl, h⟩⟩
     exact ⟨.keepP 0 1 0 0 0 rfl, .keepP 1 1 0 0 1 rfl, pub_int ek, trivial⟩
   ·replace ha : eqS cx.name s.att = false := ha
    rw [if_neg (by rw [kcolB, ha, hb]; simp)] at hr
    (conv => whnf); refine And.intro (by omega) ?_
    (conv => whnf); refine recO (vC_at hv) ?_
    (conv => whnf); refine recA (fun hz => ?_) (fun hz => ?_)
    ·replace hz : (!isZ vx) = true := hz
     rw [if_neg (by simpa using hz)] at hr
     conv => whnf
     exact pubI hr
    ·replace hz : (!isZ vx) = false := hz
     rw [if_pos (by simpa using hz)] at hr
     conv => whnf
     refine ⟨m - 1, by omega, Gp.first 2 [.arr 7 [souC s], .arr 3 [recC r]] rfl rfl (by simp [pureO, pureEs, souC, recC, AVal.isPure]) rfl ?_ fun ρ1 h => ⟨k + 1, by omega, hr, rfl, h⟩⟩
     exact ⟨.keepP 0 1 0 0 0 rfl, .keepP 1 1 0 0 1 rfl, pub_int ek, trivial⟩
 ·simp [cC_length] at hlt
  rw [List.drop_of_length_le (show s.cols.length ≤ k by omega)] at hr
  conv => whnf
  exact pubI (hr.symm ▸ (by cases r.row.drop k <;> rfl))

set_option maxRecDepth 20000 in
theorem time25_spec {P : Program} (F : F_z2l P) (s : Sou) (hs : s.ok) (r : Rec) (hl : r.row.length ≤ 1000000) (H : List AObj) :
  ACalls P F.id [.agg (souC s), .agg (recC r)] H (fun q H' => q = .int .i64 (timeV s r) ∧ H' = H) := by
 refine ACalls.pure (by simp [souC_closed, recC_closed]) (acalls_of_body F.has ?_)
 (conv => whnf); refine ACalls.use (ref5_Index_spec F.z39 false s.cols (by have := hs.1; omega) s.att _) ?_
 (conv => whnf); refine ACalls.use (fits25_spec F.z2h s hs r hl _) ?_
 (conv => whnf); refine recA (fun h1 => ?_) (fun h1 => ?_)
 ·replace h1 : (!(fitsV s r == 0)) = true := h1
  conv => whnf
  exact pubI (by rw [timeV, if_pos (.inr (.inl (by simpa using h1)))])
 replace h1 : (!(fitsV s r == 0)) = false := h1
 have hf : fitsV s r = 0 := by simpa using h1
 (conv => whnf); refine recA (fun h0 => ?_) (fun h0 => ?_)
 ·simp at h0
  conv => whnf
  exact pubI (by rw [timeV, if_pos (.inl h0)])
 simp at h0
 have hlen := fits_len hf
 have hlt := colIdx_lt s.cols s.att h0
 have hv : r.row[(colIdx s.cols s.att).toNat]? = some (r.row.getD (colIdx s.cols s.att).toNat zV) := by
  rw [List.getD_eq_getElem?_getD, List.getElem?_eq_getElem (by omega)]; rfl
 (conv => whnf); refine And.intro (h0) ?_
 (conv => whnf); refine recO (vC_at hv) ?_
 (conv => whnf); refine recA (fun h2 => ?_) (fun h2 => ?_)
 ·replace h2 : (!((r.row.getD (colIdx s.cols s.att).toNat zV).kind == 4)) = true := h2
  conv => whnf
  exact pubI (by rw [timeV, if_pos (.inr (.inr (by simpa using h2)))])
 ·replace h2 : (!((r.row.getD (colIdx s.cols s.att).toNat zV).kind == 4)) = false := h2
  (conv => whnf); refine And.intro (h0) ?_
  (conv => whnf); refine recO (vC_at hv) ?_
  conv => whnf
  exact pubI (by rw [Bool.not_eq_false', beq_iff_eq] at h2; rw [timeV, if_neg (by omega)])

end Go.AW

namespace Go.AW
variable [Draws]
attribute [local irreducible] ACalls
def zonC : List AVal := [.str (bs [122]), .int .i64 0, .nil]

theorem zonC_closed : (AVal.agg zonC).closed = true := rfl

theorem within_spec {P : Program} (F : F_z37 P) (H : List AObj) :
  ACalls P F.id [.int .i64 0] H (fun r H' => r = .bool true ∧ H' = H) := by
 refine ACalls.pure rfl (acalls_of_body F.has ?_)
 conv => whnf
 exact pubB (by decide)

theorem zval_spec {P : Program} (F : F_z31 P) (H : List AObj) :
  ACalls P F.id [.agg zonC] H (fun r H' => r = .int .i64 0 ∧ H' = H) := by
 refine ACalls.pure rfl (acalls_of_body F.has ?_)
 (conv => whnf); refine ACalls.use (within_spec F.z37 _) ?_
 conv => whnf
 refine ⟨fun m ρ H1 => H1 = [.arr 3 [zonC]] ∧ Sv 53 [(1, .ptr 0 1 0 0), (3, .int .i64 0)] ρ, 0, [], ?_, ?_⟩
 ·exact ⟨rfl, Sv.intro rfl ⟨rfl, rfl, trivial⟩⟩
 rintro m ρ H1 ⟨rfl, d, rfl⟩
 conv => whnf
 exact pubI rfl

theorem zcheck_spec {P : Program} (F : F_z32 P) (t : Int) (h0 : 0 ≤ t) (h1 : t ≤ 575999999) (H : List AObj) :
  ACalls P F.id [.agg zonC, .int .i64 t] H (fun r H' => r = .int .i64 0 ∧ H' = H) := by
 refine ACalls.pure rfl (acalls_of_body F.has ?_)
 (conv => whnf); refine ACalls.use (zval_spec F.z31 _) ?_
 (conv => whnf); refine recF (by simp; omega) ?_
 (conv => whnf); refine recF (by simp; omega) ?_
 conv => whnf
 exact pubI rfl

theorem zoff_spec {P : Program} (F : F_z35 P) (t : Int) (H : List AObj) :
  ACalls P F.id [.agg zonC, .int .i64 t] H (fun r H' => r = .int .i64 0 ∧ H' = H) := by
 refine ACalls.pure rfl (acalls_of_body F.has ?_)
 conv => whnf
 refine ⟨fun m ρ H1 => H1 = [.arr 3 [zonC]] ∧ Sv 31 [(1, .int .i64 t), (2, .ptr 0 1 0 0), (5, .int .i64 0), (6, .int .i64 0)] ρ, 0, [], ?_, ?_⟩
 ·exact ⟨rfl, Sv.intro rfl ⟨rfl, rfl, rfl, rfl, trivial⟩⟩
 rintro m ρ H1 ⟨rfl, d, rfl⟩
 conv => whnf
 exact pubI rfl

theorem floorV_pos (t : Int) (h0 : 0 ≤ t) (h1 : t ≤ 575999999) : floorV t 1440 = t / 1440 := by
 have e1 : t.tdiv 1440 = t / 1440 := Int.tdiv_eq_ediv_of_nonneg h0
 have e2 := Int.tmod_nonneg 1440 h0
 rw [floorV, if_neg (by omega), e1]
 exact wrapI _ (by omega) (by omega)

theorem zloc_spec {P : Program} (F : F_z34 P) (t : Int) (h0 : 0 ≤ t) (h1 : t ≤ 575999999) (H : List AObj) :
  ACalls P F.id [.agg zonC, .int .i64 t] H (fun r H' => r = .int .i64 (t / 1440) ∧ H' = H) := by
 refine ACalls.pure rfl (acalls_of_body F.has ?_)
 (conv => whnf); refine ACalls.use (zoff_spec F.z35 t _) ?_
 have e : IntKind.i64.wrap (t + 0) = t := by rw [wrapI _ (by omega) (by omega)]; omega
 conv => whnf
 rw [e]
 (conv => whnf); refine ACalls.use (Floor_spec F.z2y t 1440 (by decide) _) ?_
 conv => whnf
 exact pubI (by rw [floorV_pos t h0 h1])

theorem zday_spec {P : Program} (F : F_z33 P) (t : Int) (h0 : 0 ≤ t) (h1 : t ≤ 575999999) (H : List AObj) :
  ACalls P F.id [.agg zonC, .int .i64 t] H (fun r H' => r = .int .i64 (t / 1440) ∧ H' = H) := by
 refine ACalls.pure rfl (acalls_of_body F.has ?_)
 (conv => whnf); refine ACalls.use (zloc_spec F.z34 t h0 h1 _) ?_
 conv => whnf
 refine ⟨fun m ρ H1 => H1 = [.arr 3 [zonC]] ∧ Sv 38 [(1, .int .i64 t), (2, .ptr 0 1 0 0), (5, .int .i64 (t / 1440)), (6, .int .i64 0)] ρ, 0, [], ?_, ?_⟩
 ·exact ⟨rfl, Sv.intro rfl ⟨rfl, rfl, intEq (by omega), rfl, trivial⟩⟩
 rintro m ρ H1 ⟨rfl, d, rfl⟩
 conv => whnf
 exact pubI rfl

theorem zDay_spec {P : Program} (F : F_z2z P) (t : Int) (h0 : 0 ≤ t) (h1 : t ≤ 575999999) (H : List AObj) :
  ACalls P F.id [.agg zonC, .int .i64 t] H (fun r H' => r = .tuple [.int .i64 (t / 1440), .int .i64 0] ∧ H' = H) := by
 refine ACalls.pure rfl (acalls_of_body F.has ?_)
 (conv => whnf); refine ACalls.use (zcheck_spec F.z32 t h0 h1 _) ?_
 (conv => whnf); refine ACalls.use (zday_spec F.z33 t h0 h1 _) ?_
 conv => whnf
 exact pub2 (.closed _ rfl) (.closed _ rfl)

def startV (d : Int) : Int := min (max 0 (d * 1440)) 576000000

set_option maxRecDepth 20000 in
theorem zstart_spec {P : Program} (F : F_z36 P) (d : Int) (H : List AObj) :
  ACalls P F.id [.agg zonC, .int .i64 d] H (fun r H' => r = .int .i64 (startV d) ∧ H' = H) := by
 refine ACalls.pure rfl (acalls_of_body F.has ?_)
 conv => whnf
 refine ⟨fun m ρ H1 => ∃ a b : Int, 0 ≤ a ∧ a ≤ startV d ∧ startV d ≤ b ∧ b ≤ 576000000 ∧ m = (b - a).toNat ∧ H1 = [.arr 3 [zonC]] ∧ Sv 24 [(1, .int .i64 d), (2, .ptr 0 1 0 0), (5, .int .i64 a), (6, .int .i64 b)] ρ, 576000000, [], ?_, ?_⟩
 ·exact ⟨0, 576000000, by omega, by unfold startV; omega, by unfold startV; omega, by omega, by decide, rfl, Sv.intro rfl ⟨rfl, rfl, rfl, rfl, trivial⟩⟩
 rintro m ρ H1 ⟨a, b, ha, ha2, hb, hb2, rfl, rfl, e, rfl⟩
 (conv => whnf); refine recA (fun hlt => ?_) (fun hlt => ?_)
 ·simp at hlt
  have eq : IntKind.i64.wrap ((IntKind.i64.wrap (a + b)).tdiv 2) = (a + b) / 2 := by rw [wrapI (a + b) (by omega) (by omega), Int.tdiv_eq_ediv_of_nonneg (by omega), wrapI _ (by omega) (by omega)]
  (conv => whnf); refine And.intro (by decide) ?_
  (conv => whnf); refine ACalls.use (zday_spec F.z33 (IntKind.i64.wrap ((IntKind.i64.wrap (a + b)).tdiv 2)) (by rw [eq]; omega) (by rw [eq]; omega) _) ?_
  (conv => whnf); refine recA (fun hge => ?_) (fun hge => ?_)
  ·simp at hge
   rw [eq] at hge
   conv => whnf
   refine ⟨((a + b) / 2 - a).toNat, by omega, Gp.first 1 [.arr 3 [zonC]] rfl rfl rfl rfl ?_ fun ρ1 h => ⟨a, (a + b) / 2, ha, ha2, ?_, by omega, rfl, rfl, h⟩⟩
   ·exact ⟨.closed _ rfl, .keepP 0 1 0 0 0 rfl, .closed _ rfl, pub_int eq, trivial⟩
   ·unfold startV; omega
  ·simp at hge
   rw [eq] at hge
   conv => whnf
   refine ⟨(b - ((a + b) / 2 + 1)).toNat, by omega, Gp.first 1 [.arr 3 [zonC]] rfl rfl rfl rfl ?_ fun ρ1 h => ⟨(a + b) / 2 + 1, b, by omega, ?_, hb, hb2, rfl, rfl, h⟩⟩
   ·exact ⟨.closed _ rfl, .keepP 0 1 0 0 0 rfl, pub_int (by rw [eq, wrapI _ (by omega) (by omega)]), .closed _ rfl, trivial⟩
   ·unfold startV; omega
 ·simp at hlt
  conv => whnf
  exact pubI (by omega)

theorem zcheck_out {P : Program} (F : F_z32 P) (t : Int) (h0 : t < 0 ∨ 575999999 < t) (H : List AObj) :
  ACalls P F.id [.agg zonC, .int .i64 t] H (fun r H' => r = .int .i64 1 ∧ H' = H) := by
 refine ACalls.pure rfl (acalls_of_body F.has ?_)
 (conv => whnf); refine ACalls.use (zval_spec F.z31 _) ?_
 (conv => whnf); refine recA (fun h1 => ?_) (fun h1 => ?_)
 ·conv => whnf
  exact pubI rfl
 ·simp at h1
  (conv => whnf); refine recT (by simp; omega) ?_
  conv => whnf
  exact pubI rfl

def dayP (t : Int) : Int := if t < 0 ∨ 575999999 < t then 0 else t / 1440

def dayE (t : Int) : Int := if t < 0 ∨ 575999999 < t then 1 else 0

theorem zDayA_spec {P : Program} (F : F_z2z P) (t : Int) (H : List AObj) :
  ACalls P F.id [.agg zonC, .int .i64 t] H (fun r H' => r = .tuple [.int .i64 (dayP t), .int .i64 (dayE t)] ∧ H' = H) := by
 by_cases h : t < 0 ∨ 575999999 < t
 ·refine ACalls.pure rfl (acalls_of_body F.has ?_)
  (conv => whnf); refine ACalls.use (zcheck_out F.z32 t h _) ?_
  conv => whnf
  rw [dayP, dayE, if_pos h, if_pos h]
  exact pub2 (.closed _ rfl) (.closed _ rfl)
 ·rw [dayP, dayE, if_neg h, if_neg h]
  exact zDay_spec F t (by omega) (by omega) H

theorem zSpan_spec {P : Program} (F : F_z30 P) (d : Int) (h0 : 0 ≤ d) (h1 : d ≤ 400000) (H : List AObj) :
  ACalls P F.id [.agg zonC, .int .i64 d] H (fun r H' => r = .tuple [.int .i64 (startV d), .int .i64 (startV (d + 1)), .int .i64 0] ∧ H' = H) := by
 refine ACalls.pure rfl (acalls_of_body F.has ?_)
 (conv => whnf); refine ACalls.use (zval_spec F.z31 _) ?_
 (conv => whnf); refine recF (by simp; omega) ?_
 (conv => whnf); refine recF (by simp; omega) ?_
 have e : IntKind.i64.wrap (d + 1) = d + 1 := wrapI _ (by omega) (by omega)
 (conv => whnf); refine ⟨_, zstart_spec F.z36 d _, ?_⟩
 (conv => whnf); refine ⟨_, zstart_spec F.z36 (IntKind.i64.wrap (d + 1)) _, ?_⟩
 repeat ((conv => whnf); refine And.intro rfl ?_)
 conv => whnf
 rw [e]
 exact pub3 (.closed _ rfl) (.closed _ rfl) (.closed _ rfl)

def markV (late latest : Int) : Int := if latest < 0 ∨ late < 0 ∨ 575999999 < late then -1 else max (-1) (IntKind.i64.wrap (latest - late))

theorem mark_spec {P : Program} (F : F_z2j P) (s : Sou) (t : Int) (H : List AObj) :
  ACalls P F.id [.agg (souC s), .int .i64 t] H (fun r H' => r = .int .i64 (markV s.late t) ∧ H' = H) := by
 refine ACalls.pure (by simp [souC, AVal.closed, AVal.isPure]) (acalls_of_body F.has ?_)
 (conv => whnf); refine recA (fun h1 => ?_) (fun h1 => ?_)
 ·simp at h1
  conv => whnf
  exact pubI (by rw [markV, if_pos (by omega)])
 (conv => whnf); refine recA (fun h2 => ?_) (fun h2 => ?_)
 ·simp at h2
  conv => whnf
  exact pubI (by rw [markV, if_pos (by omega)])
 (conv => whnf); refine recA (fun h3 => ?_) (fun h3 => ?_)
 ·simp at h3
  conv => whnf
  exact pubI (by rw [markV, if_pos (by omega)])
 simp at h1 h2 h3
 conv => whnf
 exact pubI (by rw [show markV s.late t = max (-1) (IntKind.i64.wrap (t - s.late)) from if_neg (by omega)]; omega)

def phP (reopen mark day : Int) : Int × Int :=
 if mark < -1 ∨ 575999999 < mark ∨ day < -1 ∨ 400000 < day then (0, 1) else if day = -1 ∨ mark < startV (day + 1) then (0, 0)
 else if reopen ≤ IntKind.i64.wrap (mark - startV (day + 1)) then (2, 0) else (1, 0)

set_option maxRecDepth 20000 in
theorem phase_spec {P : Program} (F : F_z2k P) (s : Sou) (mark day : Int) (H : List AObj) :
  ACalls P F.id [.agg (souC s), .agg zonC, .int .i64 mark, .int .i64 day] H (fun r H' => r = .tuple [.int .i64 (phP s.reopen mark day).1, .int .i64 (phP s.reopen mark day).2] ∧ H' = H) := by
 refine ACalls.pure (by simp [souC, zonC, AVal.closed, AVal.isPure]) (acalls_of_body F.has ?_)
 (conv => whnf); refine recA (fun h1 => ?_) (fun h1 => ?_)
 ·simp at h1
  conv => whnf
  rw [phP, if_pos (by omega)]
  exact pub2 (.closed _ rfl) (.closed _ rfl)
 (conv => whnf); refine recA (fun h2 => ?_) (fun h2 => ?_)
 ·simp at h2
  conv => whnf
  rw [phP, if_pos (by omega)]
  exact pub2 (.closed _ rfl) (.closed _ rfl)
 (conv => whnf); refine ACalls.use (zval_spec F.z31 _) ?_
 (conv => whnf); refine recA (fun h3 => ?_) (fun h3 => ?_)
 ·simp at h3
  conv => whnf
  rw [phP, if_pos (by omega)]
  exact pub2 (.closed _ rfl) (.closed _ rfl)
 (conv => whnf); refine recA (fun h4 => ?_) (fun h4 => ?_)
 ·simp at h4
  conv => whnf
  rw [phP, if_pos (by omega)]
  exact pub2 (.closed _ rfl) (.closed _ rfl)
 simp at h1 h2 h3 h4
 (conv => whnf); refine recA (fun h5 => ?_) (fun h5 => ?_)
 ·simp at h5
  conv => whnf
  rw [phP, if_neg (by omega), if_pos (by omega)]
  exact pub2 (.closed _ rfl) (.closed _ rfl)
 simp at h5
 (conv => whnf); refine ACalls.use (zSpan_spec F.z30 day (by omega) (by omega) _) ?_
 (conv => whnf); refine recA (fun h6 => ?_) (fun h6 => ?_)
 ·simp at h6
  conv => whnf
  rw [phP, if_neg (by omega), if_pos (by omega)]
  exact pub2 (.closed _ rfl) (.closed _ rfl)
 simp at h6
 (conv => whnf); refine recA (fun h7 => ?_) (fun h7 => ?_)
 ·simp at h7
  conv => whnf
  rw [phP, if_neg (by omega), if_neg (by omega), if_pos (by omega)]
  exact pub2 (.closed _ rfl) (.closed _ rfl)
 simp at h7
 conv => whnf
 rw [phP, if_neg (by omega), if_neg (by omega), if_neg (by omega)]
 exact pub2 (.closed _ rfl) (.closed _ rfl)

def judgeV (s : Sou) (mark : Int) (r : Rec) : Int :=
 if mark < -1 ∨ 575999999 < mark then 1 else if fitsV s r ≠ 0 then fitsV s r else if timeV s r < 0 then 0
 else if (phP s.reopen mark (dayP (timeV s r))).1 = 2 then 15 else 0

set_option maxRecDepth 20000 in
theorem judge_spec {P : Program} (F : F_z2i P) (s : Sou) (hs : s.ok) (mark : Int) (r : Rec) (hl : r.row.length ≤ 1000000) (H : List AObj) :
  ACalls P F.id [.agg (souC s), .agg zonC, .int .i64 mark, .agg (recC r)] H (fun q H' => q = .int .i64 (judgeV s mark r) ∧ H' = H) := by
 refine ACalls.pure (by simp [souC, zonC, recC, AVal.closed, AVal.isPure]) (acalls_of_body F.has ?_)
 (conv => whnf); refine recA (fun h1 => ?_) (fun h1 => ?_)
 ·simp at h1
  conv => whnf
  exact pubI (by rw [judgeV, if_pos (by omega)])
 (conv => whnf); refine recA (fun h2 => ?_) (fun h2 => ?_)
 ·simp at h2
  conv => whnf
  exact pubI (by rw [judgeV, if_pos (by omega)])
 simp at h1 h2
 (conv => whnf); refine ACalls.use (zval_spec F.z31 _) ?_
 (conv => whnf); refine ACalls.use (fits25_spec F.z2h s hs r hl _) ?_
 (conv => whnf); refine recA (fun h3 => ?_) (fun h3 => ?_)
 ·replace h3 : (!(fitsV s r == 0)) = true := h3
  conv => whnf
  exact pubI (by rw [judgeV, if_neg (by omega), if_pos (by simpa using h3)])
 replace h3 : (!(fitsV s r == 0)) = false := h3
 have h3' : ¬ fitsV s r ≠ 0 := by simpa using h3
 (conv => whnf); refine ACalls.use (time25_spec F.z2l s hs r hl _) ?_
 (conv => whnf); refine recA (fun h4 => ?_) (fun h4 => ?_)
 ·simp at h4
  conv => whnf
  exact pubI (by rw [judgeV, if_neg (by omega), if_neg h3', if_pos h4])
 simp at h4
 (conv => whnf); refine ACalls.use (zDayA_spec F.z2z (timeV s r) _) ?_
 (conv => whnf); refine ACalls.use (phase_spec F.z2k s mark (dayP (timeV s r)) _) ?_
 (conv => whnf); refine recA (fun h5 => ?_) (fun h5 => ?_)
 ·simp at h5
  conv => whnf
  exact pubI (by rw [judgeV, if_neg (by omega), if_neg h3', if_neg (by omega), if_pos h5])
 simp at h5
 conv => whnf
 exact pubI (by rw [judgeV, if_neg (by omega), if_neg h3', if_neg (by omega), if_neg h5])

end Go.AW

namespace Go.AW
variable [Draws]
attribute [local irreducible] ACalls
theorem AVal.closed_of_isPure {v : AVal} (h : v.isPure = true) : v.closed = true := by cases v <;> first | rfl | exact h | (simp [AVal.isPure] at h)

theorem obSnoc {H : List AObj} {ids : List Nat} (sz : Nat) (es es1 : List (List AVal)) (c c1 : List AVal) (he : es1 = es ++ [c1]) (hp : pureEs es = true) (hc : c1.length = c.length)
  (h : ∀ (j : Nat) (d d1 : AVal), c[j]? = some d → c1[j]? = some d1 → Pub H 0 ids d d1 ∧ d1.isCell = true) : ObP H ids (.arr sz (es ++ [c])) (.arr sz es1) := by
 subst he
 refine .map sz _ _ (by simp) (fun i e e1 h1 h2 => ?_) (fun i j e e1 d d1 h1 h2 h3 h4 => ?_)
 ·by_cases hi : i < es.length
  ·rw [List.getElem?_append_left hi] at h1 h2
   rw [h1] at h2; cases h2; rfl
  ·rw [List.getElem?_append_right (by omega)] at h1 h2
   rcases hk : i - es.length with _ | q
   ·rw [hk] at h1 h2
    cases h1; cases h2; exact hc
   ·rw [hk] at h1; simp at h1
 ·by_cases hi : i < es.length
  ·rw [List.getElem?_append_left hi] at h1 h2
   rw [h1] at h2; cases h2
   rw [h3] at h4; cases h4
   have := pureEs_get hp h1 h3
   exact ⟨.closed _ (AVal.closed_of_isPure this), AVal.isCell_of_isPure this⟩
  ·rw [List.getElem?_append_right (by omega)] at h1 h2
   rcases hk : i - es.length with _ | q
   ·rw [hk] at h1 h2
    cases h1; cases h2
    exact h j d d1 h3 h4
   ·rw [hk] at h1; simp at h1

theorem pubRow {H : List AObj} {ids : List Nat} {id n : Nat} {row : List V} (hid : id ∉ ids) (h1 : H[id]? = some (.arr 3 (vC row))) (hn : n = row.length) : Pub H 0 ids (.sl id n 0 n) (.list false 3 (vC row)) := by
 have h := Pub.frz (n := 0) (ids := ids) id (vC row).length 0 (vC row).length 3 (vC row) h1 rfl (pureEs_vC _) hid
 rw [List.drop_zero, List.take_length, vC_length, ← hn] at h
 exact h

theorem obSnocR {H : List AObj} {ids : List Nat} {id n : Nat} {K : List Rec} {r : Rec} (hid : id ∉ ids) (h1 : H[id]? = some (.arr 3 (vC r.row))) (hn : n = r.row.length) :
  ObP H ids (.arr 3 (rC K ++ [[.bool r.del, .int .i64 r.seq, .sl id n 0 n]])) (.arr 3 (rC (K ++ [r]))) := by
 refine obSnoc 3 _ _ _ (recC r) (rC_append ..) (pureEs_rC _) rfl fun j d d1 h2 h3 => ?_
 rcases j with _ | _ | _ | j
 ·cases h2; cases h3; exact ⟨.closed _ rfl, rfl⟩
 ·cases h2; cases h3; exact ⟨.closed _ rfl, rfl⟩
 ·cases h2; cases h3; exact ⟨pubRow hid h1 hn, rfl⟩
 ·simp at h2

abbrev fzO : AObj := .arr 3 [[.str (bs []), .str (bs []), .nil]]

def cfH (f : Fil) (K : List Rec) (H : List AObj) : Prop :=
 (K = [] ∧ H = [.arr 3 [fV f], fzO, .arr 3 [[.str f.id, .str f.src, .nil]]]) ∨
 (K ≠ [] ∧ H = [.arr 3 [fV f], fzO, .arr 3 [[.str f.id, .str f.src, .sl 3 K.length 0 K.length]], .arr 3 (rC K)])

set_option maxRecDepth 20000 in
theorem CopyFile_raw {P : Program} (F : F_z2b P) (f : Fil) (hl : f.recs.length ≤ 1000) (hr : ∀ r ∈ f.recs, r.row.length ≤ 1000) (H : List AObj) :
  ACalls P F.id [.agg (fV f)] H (fun r H' => (r = .agg (fV f) ∨ f.recs = [] ∧ r = .agg [.str f.id, .str f.src, .nil]) ∧ H' = H) := by
 refine ACalls.lift0 (by simp [fV, AVal.closed, AVal.isPure]) (acalls_of_body F.has ?_)
 conv => whnf
 refine ⟨fun m ρ H1 => ∃ (k : Nat), k + m = f.recs.length ∧ cfH f (f.recs.take k) H1 ∧ Sv 37 [(1, .ptr 0 1 0 0), (2, .ptr 1 1 0 0), (3, .ptr 2 1 0 0), (4, .int .i64 k)] ρ, f.recs.length, [], ?_, ?_⟩
 ·exact ⟨0, by omega, .inl ⟨rfl, rfl⟩, Sv.intro rfl ⟨rfl, rfl, rfl, rfl, trivial⟩⟩
 rintro m ρ H1 ⟨k, hk, hc, d, rfl⟩
 have psf : pureEs [fV f] = true := by simp [pureEs, fV, AVal.isPure]
 rcases hc with ⟨h0, rfl⟩ | ⟨hne, rfl⟩
 ·(conv => whnf); refine recA (fun hlt => ?_) (fun hlt => ?_)
  ·simp [rC_length] at hlt
   have hx : f.recs[k]? = some f.recs[k] := List.getElem?_eq_getElem hlt
   have hrl := hr _ (List.getElem_mem hlt)
   generalize f.recs[k] = r at hx hrl
   have hT : f.recs.take (k + 1) = f.recs.take k ++ [r] := take_snoc hx
   (conv => whnf); refine And.intro (by omega) ?_
   (conv => whnf); refine recO (rC_at hx) ?_
   (conv => whnf); refine And.intro (⟨roomMul (by simp [vC_length]; omega) (by omega), roomB_le (by simp [vC_length]; omega)⟩) ?_
   (conv => whnf); refine And.intro (⟨roomMul (by simp) (by omega), roomB_le (by simp)⟩) ?_
   repeat ((conv => whnf); refine And.intro rfl ?_)
   conv => whnf
   rw [h0, List.nil_append] at hT
   refine ⟨m - 1, by omega, Gp.some (H1 := [.arr 3 [fV f], fzO, .arr 3 [[.str f.id, .str f.src, .sl 3 1 0 1]], .arr 3 (rC [r])]) [0, 1, 2, 6] (by simp) ⟨⟨_, rfl, .same _ _ psf⟩, ⟨_, rfl, .same _ _ rfl⟩, ⟨_, rfl, ?_⟩, ⟨_, rfl, ?_⟩, trivial⟩ rfl ?_ fun ρ1 h => ⟨k + 1, by omega, .inr ⟨by rw [hT]; simp, by rw [hT]; rfl⟩, h⟩⟩
   ·exact ob3 (pubSl (k := 3) rfl rfl rfl rfl) rfl
   ·exact obSnocR (K := []) (id := 4) (by simp) rfl (vC_length _)
   ·exact ⟨.keepP 0 1 0 0 0 rfl, .keepP 1 1 0 0 1 rfl, .keepP 2 1 0 0 2 rfl, pub_int (wrapI _ (by omega) (by omega)), trivial⟩
  ·simp [rC_length] at hlt
   have hn : f.recs = [] := by rw [← h0, List.take_of_length_le (by omega)]
   conv => whnf
   exact ⟨_, .closed _ rfl, .inr ⟨hn, rfl⟩⟩
 ·have hkl : (f.recs.take k).length = k := by rw [List.length_take]; omega
  (conv => whnf); refine recA (fun hlt => ?_) (fun hlt => ?_)
  ·simp [rC_length] at hlt
   have hx : f.recs[k]? = some f.recs[k] := List.getElem?_eq_getElem hlt
   have hrl := hr _ (List.getElem_mem hlt)
   generalize f.recs[k] = r at hx hrl
   have hT : f.recs.take (k + 1) = f.recs.take k ++ [r] := take_snoc hx
   generalize f.recs.take k = K at hT hkl hne
   (conv => whnf); refine And.intro (by omega) ?_
   (conv => whnf); refine recO (rC_at hx) ?_
   (conv => whnf); refine And.intro (⟨roomMul (by simp [vC_length]; omega) (by omega), roomB_le (by simp [vC_length]; omega)⟩) ?_
   (conv => whnf); refine recT (by rw [rC_length]; exact Nat.beq_refl _) ?_
   (conv => whnf); refine And.intro (⟨roomMul (by simp; omega) (by omega), roomB_le (by simp; omega), rfl, by rw [rC_length]⟩) ?_
   repeat ((conv => whnf); refine And.intro rfl ?_)
   conv => whnf
   have hL : (rC K ++ [[AVal.bool r.del, AVal.int .i64 r.seq, .sl 5 (vC r.row).length 0 (vC r.row).length]]).length = (K ++ [r]).length := by rw [List.length_append, rC_length, List.length_append]; rfl
   refine ⟨m - 1, by omega, Gp.some (H1 := [.arr 3 [fV f], fzO, .arr 3 [[.str f.id, .str f.src, .sl 3 (K ++ [r]).length 0 (K ++ [r]).length]], .arr 3 (rC (K ++ [r]))]) [0, 1, 2, 3] (by simp) ⟨⟨_, rfl, .same _ _ psf⟩, ⟨_, rfl, .same _ _ rfl⟩, ⟨_, rfl, ?_⟩, ⟨_, rfl, ?_⟩, trivial⟩ rfl ?_ fun ρ1 h => ⟨k + 1, by omega, .inr ⟨by rw [hT]; simp, by rw [hT]⟩, h⟩⟩
   ·exact ob3 (pubSl (k := 3) rfl rfl hL hL) rfl
   ·exact obSnocR (K := K) (id := 5) (by simp) rfl (vC_length _)
   ·exact ⟨.keepP 0 1 0 0 0 rfl, .keepP 1 1 0 0 1 rfl, .keepP 2 1 0 0 2 rfl, pub_int (wrapI _ (by omega) (by omega)), trivial⟩
  ·simp [rC_length] at hlt
   have hn : f.recs.take k = f.recs := List.take_of_length_le (by omega)
   rw [hn]
   conv => whnf
   refine ⟨.agg (fV f), .agg _ _ rfl fun i v r h1 h2 => ?_, .inl rfl⟩
   rcases i with _ | _ | _ | i
   ·cases h1; cases h2; exact .closed _ rfl
   ·cases h1; cases h2; exact .closed _ rfl
   ·cases h1; cases h2
    exact pubFI (by simp) rfl (rC_length _).symm (rC_length _).symm (pureEs_rC _)
   ·simp at h1

end Go.AW

namespace Go.AW
variable [Draws]
attribute [local irreducible] ACalls
theorem CopyFile_spec {P : Program} (F : F_z2b P) (f : Fil) (hl : f.recs.length ≤ 1000) (hr : ∀ r ∈ f.recs, r.row.length ≤ 1000) (H : List AObj) :
  ACalls P F.id [.agg (fV f)] H (fun r H' => r = .agg (fV f) ∧ H' = H) :=
 ACalls.weakR (CopyFile_raw F f hl hr H) (by
  rintro r H' ⟨rfl | ⟨hn, rfl⟩, rfl⟩
  ·exact ⟨_, .refl _, rfl, rfl⟩
  ·refine ⟨.agg (fV f), .agg _ _ rfl fun i a b h1 h2 => ?_, rfl, rfl⟩
   rcases i with _ | _ | _ | i
   ·cases h1; cases h2; exact .refl _
   ·cases h1; cases h2; exact .refl _
   ·cases h1; cases h2; rw [hn]; exact .nil _ _
   ·simp at h1)

structure Del where
 f : Fil
 jd : List Int

def delC (d : Del) : List AVal := [.str d.f.id, .str d.f.src, .list false 3 (rC d.f.recs), .list false 1 (iC d.jd)]

def dsC (l : List Del) : List (List AVal) := l.map delC

def ledC (l : List Del) : List AVal := [.list false 4 (dsC l)]

theorem dsC_length (l : List Del) : (dsC l).length = l.length := List.length_map ..

theorem dsC_append (a b : List Del) : dsC (a ++ b) = dsC a ++ dsC b := List.map_append ..

theorem dsC_at {l : List Del} {k : Nat} {x : Del} (h : l[k]? = some x) : (dsC l)[k]? = some (delC x) := by rw [dsC, List.getElem?_map, h]; rfl

theorem pureEs_dsC (l : List Del) : pureEs (dsC l) = true := by
 rw [pureEs, List.all_eq_true]
 intro e he
 obtain ⟨x, _, rfl⟩ := List.mem_map.1 he
 rfl

def Del.ok (d : Del) : Prop := d.f.recs.length ≤ 1000 ∧ (∀ r ∈ d.f.recs, r.row.length ≤ 1000) ∧ d.jd.length ≤ 1000

set_option maxRecDepth 20000 in
theorem copyDelivery_spec {P : Program} (F : F_z2v P) (x : Del) (hx : x.ok) (H : List AObj) :
  ACalls P F.id [.agg (delC x)] H (fun r H' => r = .agg (delC x) ∧ H' = H) := by
 obtain ⟨h1, h2, h3⟩ := hx
 refine ACalls.pure (by simp [delC, AVal.closed, AVal.isPure]) (acalls_of_body F.has ?_)
 (conv => whnf); refine ⟨_, CopyFile_spec F.z2b x.f h1 h2 _, ?_⟩
 (conv => whnf); refine And.intro (⟨roomMul (by simp [iC_length]; omega) (by omega), roomB_le (by simp [iC_length]; omega)⟩) ?_
 repeat ((conv => whnf); refine And.intro rfl ?_)
 conv => whnf
 refine .agg _ _ rfl fun i v r h1 h2 => ?_
 rcases i with _ | _ | _ | _ | i
 ·cases h1; cases h2; exact .closed _ rfl
 ·cases h1; cases h2; exact .closed _ rfl
 ·cases h1; cases h2; exact .closed _ rfl
 ·cases h1; cases h2
  exact pubFI (by simp) rfl rfl rfl (pureEs_iC _)
 ·simp at h1

def clH (l : List Del) (K : List Del) (H : List AObj) : Prop :=
 (K = [] ∧ H = [.arr 1 [ledC l], .arr 1 [[.nil]], .arr 1 [[.nil]]]) ∨
 (K ≠ [] ∧ H = [.arr 1 [ledC l], .arr 1 [[.nil]], .arr 1 [[.sl 3 K.length 0 K.length]], .arr 4 (dsC K)])

theorem ob11 {H : List AObj} {ids : List Nat} {c c1 : AVal} (h : Pub H 0 ids c c1) (hc : c1.isCell = true) : ObP H ids (.arr 1 [[c]]) (.arr 1 [[c1]]) := by
 refine obSnoc 1 [] [[c1]] [c] [c1] rfl rfl rfl fun j d d1 h1 h2 => ?_
 rcases j with _ | j
 ·cases h1; cases h2; exact ⟨h, hc⟩
 ·simp at h1

set_option maxRecDepth 20000 in
theorem CopyLedger_body {P : Program} (F : F_z2p P) (l : List Del) (hl : l.length ≤ 1000) (hok : ∀ x ∈ l, x.ok) :
  ACalls P F.id [.agg (ledC l)] [] (fun r H1 => (l = [] ∧ r = .agg [.nil]) ∨ (l ≠ [] ∧ r = .agg [.sl 3 l.length 0 l.length] ∧ ∃ x y z, H1 = [x, y, z, .arr 4 (dsC l)])) := by
 refine acalls_of_body F.has ?_
 conv => whnf
 refine ⟨fun m ρ H1 => ∃ (k : Nat), k + m = l.length ∧ clH l (l.take k) H1 ∧ Sv 24 [(1, .ptr 0 1 0 0), (2, .ptr 1 1 0 0), (3, .ptr 2 1 0 0), (4, .int .i64 k)] ρ, l.length, [], ?_, ?_⟩
 ·exact ⟨0, by omega, .inl ⟨rfl, rfl⟩, Sv.intro rfl ⟨rfl, rfl, rfl, rfl, trivial⟩⟩
 rintro m ρ H1 ⟨k, hk, hc, d, rfl⟩
 have psf : pureEs [ledC l] = true := rfl
 rcases hc with ⟨h0, rfl⟩ | ⟨hne, rfl⟩
 ·(conv => whnf); refine recA (fun hlt => ?_) (fun hlt => ?_)
  ·simp [dsC_length] at hlt
   have hx : l[k]? = some l[k] := List.getElem?_eq_getElem hlt
   have hrl := hok _ (List.getElem_mem hlt)
   generalize l[k] = x at hx hrl
   have hT : l.take (k + 1) = l.take k ++ [x] := take_snoc hx
   (conv => whnf); refine And.intro (by omega) ?_
   (conv => whnf); refine recO (dsC_at hx) ?_
   (conv => whnf); refine ⟨_, _, copyDelivery_spec F.z2v x hrl _, ?_⟩
   (conv => whnf); refine And.intro (⟨roomMul (by simp) (by omega), roomB_le (by simp)⟩) ?_
   repeat ((conv => whnf); refine And.intro rfl ?_)
   conv => whnf
   rw [h0, List.nil_append] at hT
   refine ⟨m - 1, by omega, Gp.some (H1 := [.arr 1 [ledC l], .arr 1 [[.nil]], .arr 1 [[.sl 3 1 0 1]], .arr 4 (dsC [x])]) [0, 1, 2, 4] (by simp) ⟨⟨_, rfl, .same _ _ psf⟩, ⟨_, rfl, .same _ _ rfl⟩, ⟨_, rfl, ?_⟩, ⟨_, rfl, .same _ _ (pureEs_dsC [x])⟩, trivial⟩ rfl ?_ fun ρ1 h => ⟨k + 1, by omega, .inr ⟨by rw [hT]; simp, by rw [hT]; rfl⟩, h⟩⟩
   ·exact ob11 (pubSl (k := 3) rfl rfl rfl rfl) rfl
   ·exact ⟨.keepP 0 1 0 0 0 rfl, .keepP 1 1 0 0 1 rfl, .keepP 2 1 0 0 2 rfl, pub_int (wrapI _ (by omega) (by omega)), trivial⟩
  ·simp [dsC_length] at hlt
   have hn : l = [] := by rw [← h0, List.take_of_length_le (by omega)]
   conv => whnf
   exact .inl ⟨hn, rfl⟩
 ·have hkl : (l.take k).length = k := by rw [List.length_take]; omega
  (conv => whnf); refine recA (fun hlt => ?_) (fun hlt => ?_)
  ·simp [dsC_length] at hlt
   have hx : l[k]? = some l[k] := List.getElem?_eq_getElem hlt
   have hrl := hok _ (List.getElem_mem hlt)
   generalize l[k] = x at hx hrl
   have hT : l.take (k + 1) = l.take k ++ [x] := take_snoc hx
   generalize l.take k = K at hT hkl hne
   (conv => whnf); refine And.intro (by omega) ?_
   (conv => whnf); refine recO (dsC_at hx) ?_
   (conv => whnf); refine ⟨_, _, copyDelivery_spec F.z2v x hrl _, ?_⟩
   (conv => whnf); refine recT (by rw [dsC_length]; exact Nat.beq_refl _) ?_
   (conv => whnf); refine And.intro (⟨roomMul (by simp; omega) (by omega), roomB_le (by simp; omega), rfl, by rw [dsC_length]⟩) ?_
   repeat ((conv => whnf); refine And.intro rfl ?_)
   conv => whnf
   have hcn : dsC K ++ [delC x] = dsC (K ++ [x]) := by rw [dsC_append]; rfl
   have hL : (dsC K ++ [delC x]).length = (K ++ [x]).length := by rw [hcn, dsC_length]
   refine ⟨m - 1, by omega, Gp.some (H1 := [.arr 1 [ledC l], .arr 1 [[.nil]], .arr 1 [[.sl 3 (K ++ [x]).length 0 (K ++ [x]).length]], .arr 4 (dsC K ++ [delC x])]) [0, 1, 2, 3] (by simp) ⟨⟨_, rfl, .same _ _ psf⟩, ⟨_, rfl, .same _ _ rfl⟩, ⟨_, rfl, ?_⟩, ⟨_, rfl, .same _ _ (hcn ▸ pureEs_dsC _)⟩, trivial⟩ rfl ?_ fun ρ1 h => ⟨k + 1, by omega, .inr ⟨by rw [hT]; simp, by rw [hT, hcn]⟩, h⟩⟩
   ·exact ob11 (pubSl (k := 3) rfl rfl hL hL) rfl
   ·exact ⟨.keepP 0 1 0 0 0 rfl, .keepP 1 1 0 0 1 rfl, .keepP 2 1 0 0 2 rfl, pub_int (wrapI _ (by omega) (by omega)), trivial⟩
  ·simp [dsC_length] at hlt
   have hn : l.take k = l := List.take_of_length_le (by omega)
   rw [hn] at hne ⊢
   conv => whnf
   exact .inr ⟨hne, rfl, _, _, _, rfl⟩

theorem CopyLedger_own {P : Program} (F : F_z2p P) (l : List Del) (hl : l.length ≤ 1000) (hok : ∀ x ∈ l, x.ok) (H : List AObj) :
  ACalls P F.id [.agg (ledC l)] H (fun r H' => (l = [] ∧ r = .agg [.nil] ∧ H' = H) ∨ (l ≠ [] ∧ r = .agg [.sl H.length l.length 0 l.length] ∧ H' = H ++ [.arr 4 (dsC l)])) := by
 refine ACalls.lift (by simp [ledC, AVal.closed, AVal.isPure]) (CopyLedger_body F l hl hok) ?_
 rintro r H1 (⟨hn, rfl⟩ | ⟨hn, rfl, x, y, z, rfl⟩)
 ·exact ⟨[], .agg [.nil], [], .closed _ rfl, List.nodup_nil, rfl, fun k id h => by simp at h, .inl ⟨hn, rfl, by simp⟩⟩
 ·refine ⟨[3], .agg [.sl H.length l.length 0 l.length], [.arr 4 (dsC l)], .agg _ _ rfl fun i v r h1 h2 => ?_, by simp, rfl, fun k id hk => ?_, .inr ⟨hn, rfl, rfl⟩⟩
  ·rcases i with _ | i
   ·cases h1; cases h2
    exact pubSl (k := 0) rfl (Nat.add_zero _).symm rfl rfl
   ·simp at h1
  ·cases k with
   | zero => simp at hk; subst hk; exact ⟨rfl, 4, _, rfl, pureEs_dsC _⟩
   | succ k => simp at hk

set_option maxRecDepth 20000 in
theorem copyDelivery_nil {P : Program} (F : F_z2v P) (f : Fil) (h1 : f.recs.length ≤ 1000) (h2 : ∀ r ∈ f.recs, r.row.length ≤ 1000) (H : List AObj) :
  ACalls P F.id [.agg [.str f.id, .str f.src, .list false 3 (rC f.recs), .nil]] H (fun r H' => r = .agg (delC ⟨f, []⟩) ∧ H' = H) := by
 refine ACalls.pure (by simp [AVal.closed, AVal.isPure]) (acalls_of_body F.has ?_)
 (conv => whnf); refine ⟨_, CopyFile_spec F.z2b f h1 h2 _, ?_⟩
 (conv => whnf); refine And.intro (⟨roomMul (by simp) (by omega), roomB_le (by simp)⟩) ?_
 repeat ((conv => whnf); refine And.intro rfl ?_)
 conv => whnf
 refine .agg _ _ rfl fun i v r h1 h2 => ?_
 rcases i with _ | _ | _ | _ | i
 ·cases h1; cases h2; exact .closed _ rfl
 ·cases h1; cases h2; exact .closed _ rfl
 ·cases h1; cases h2; exact .closed _ rfl
 ·cases h1; cases h2
  exact pubFI (by simp) rfl rfl rfl (pureEs_iC [])
 ·simp at h1

def defC (s : Sou) : List AVal := [.list false 3 [zonC], .list false 7 [souC s], .nil, .nil, .nil, .nil]

theorem SourceOf_spec {P : Program} (F : F_z29 P) (s : Sou) (H : List AObj) :
  ACalls P F.id [.agg (defC s), .str s.name] H (fun r H' => r = .tuple [.agg (souC s), .bool true] ∧ H' = H) := by
 refine ACalls.pure rfl (acalls_of_body F.has ?_)
 conv => whnf
 refine ⟨fun m ρ H1 => H1 = [.arr 6 [defC s], .arr 7 [[.str (bs []), .nil, .nil, .str (bs []), .str (bs []), .int .i64 0, .int .i64 0]]] ∧ Sv 28 [(1, .str s.name), (2, .ptr 0 1 0 0), (4, .ptr 1 1 0 0), (6, .int .i64 0)] ρ, 0, [], ?_, ?_⟩
 ·exact ⟨rfl, Sv.intro rfl ⟨rfl, rfl, rfl, rfl, trivial⟩⟩
 rintro m ρ H1 ⟨rfl, d, rfl⟩
 (conv => whnf); refine And.intro (by decide) ?_
 (conv => whnf); refine recT (by simp) ?_
 (conv => whnf); refine And.intro (by decide) ?_
 conv => whnf
 exact pub2 (.closed _ (souC_closed s)) (.closed _ rfl)

set_option maxRecDepth 20000 in
theorem zoneOf_spec {P : Program} (F : F_z2x P) (s : Sou) (hz : s.zone = bs [122]) (H : List AObj) :
  ACalls P F.id [.agg (defC s), .str s.name] H (fun r H' => r = .tuple [.agg (souC s), .agg zonC, .bool true] ∧ H' = H) := by
 refine ACalls.pure rfl (acalls_of_body F.has ?_)
 (conv => whnf); refine ACalls.use (SourceOf_spec F.z29 s _) ?_
 conv => whnf
 refine ⟨fun m ρ H1 => H1 = [.arr 6 [defC s], .arr 7 [[.str (bs []), .nil, .nil, .str (bs []), .str (bs []), .int .i64 0, .int .i64 0]], .arr 3 [[.str (bs []), .int .i64 0, .nil]], .arr 7 [souC s]] ∧ Sv 43 [(2, .ptr 0 1 0 0), (4, .ptr 1 1 0 0), (5, .ptr 2 1 0 0), (7, .ptr 3 1 0 0), (8, .bool true), (9, .int .i64 0)] ρ, 0, [], ?_, ?_⟩
 ·exact ⟨rfl, Sv.intro rfl ⟨rfl, rfl, rfl, rfl, rfl, rfl, trivial⟩⟩
 rintro m ρ H1 ⟨rfl, d, rfl⟩
 (conv => whnf); refine And.intro (by decide) ?_
 (conv => whnf); refine recT (by rw [hz]; simp) ?_
 (conv => whnf); refine And.intro (by decide) ?_
 repeat ((conv => whnf); refine And.intro rfl ?_)
 (conv => whnf); refine And.intro (by (conv => whnf); exact ⟨by decide, rfl⟩) ?_
 repeat ((conv => whnf); refine And.intro rfl ?_)
 conv => whnf
 exact pub3 (.closed _ (souC_closed s)) (.closed _ zonC_closed) (.closed (.bool true) rfl)

end Go.AW

namespace Go.AW
variable [Draws]
attribute [local irreducible] ACalls
set_option maxRecDepth 20000 in
theorem Clone_raw {P : Program} (F : F_z11 P) (ex : Bool) (cs : List Col) (hl : cs.length ≤ 1000000) :
  ACalls P F.id [.list ex 3 (cC cs)] [] (fun r H' => (r = .nil ∧ cs = [] ∧ H' = []) ∨ (r = .sl 0 cs.length 0 cs.length ∧ H' = [.arr 3 (cC cs)])) := by
 refine acalls_of_body F.has ?_
 conv => whnf
 refine And.intro (fun h => ?_) ?_
 ·conv => whnf
  exact .inl ⟨rfl, by simpa [cC] using h, rfl⟩
 ·conv => whnf
  refine And.intro ⟨roomMul (by simp [cC_length]; omega) (by omega), roomB_le (by simp [cC_length]; omega), .inr rfl⟩ ?_
  conv => whnf
  refine .inr ⟨slEq ?_ ?_, rfl⟩
  ·simp [cC_length]
  ·simp [cC_length]

end Go.AW

namespace Go.AW
variable [Draws]
attribute [local irreducible] ACalls
def vldGo (full : List Col) : List Col → Int → Int
 | [], _ => 0
 | c :: cs, i => if nameB c.name = false then 4 else if c.kind < 1 ∨ 4 < c.kind then 7 else if colIdx full c.name < i then 6 else vldGo full cs (i + 1)

def vldC (cs : List Col) : Int := if cs.length < 1 ∨ 12 < cs.length then 2 else vldGo cs cs 0

set_option maxRecDepth 20000 in
theorem schema_Validate_spec {P : Program} (F : F_z10 P) (e1 : Bool) (cs : List Col) (hl : cs.length ≤ 1000000) (H : List AObj) :
  ACalls P F.id [.list e1 3 (cC cs)] H (fun r H' => r = .int .i64 (vldC cs) ∧ H' = H) := by
 refine ACalls.pure (by simp [AVal.closed, AVal.isPure]) (acalls_of_body F.has ?_)
 (conv => whnf); refine recA (fun h0 => ?_) (fun h0 => ?_)
 ·simp [cC_length] at h0
  conv => whnf
  exact pubI (by rw [vldC, if_pos (by omega)])
 simp [cC_length] at h0
 (conv => whnf); refine recA (fun h1 => ?_) (fun h1 => ?_)
 ·simp [cC_length] at h1
  conv => whnf
  exact pubI (by rw [vldC, if_pos (by omega)])
 simp [cC_length] at h1
 have h2 : 0 < cs.length := by omega
 have hR : vldC cs = vldGo cs cs 0 := by rw [vldC, if_neg (by omega)]
 conv => whnf
 refine ⟨fun m ρ H1 => ∃ k : Nat, k + m = cs.length ∧ vldGo cs (cs.drop k) k = vldC cs ∧ H1 = [] ∧
  Sv 42 [(0, .list e1 3 (cC cs)), (13, .list e1 3 (cC cs)), (14, .int .i64 cs.length), (15, .int .i64 k)] ρ, cs.length, [], ?_, ?_⟩
 ·exact ⟨0, by omega, hR.symm, rfl, Sv.intro rfl ⟨rfl, rfl, intEq (by rw [cC_length]), rfl, trivial⟩⟩
 rintro m ρ H1 ⟨k, hk, hr, rfl, d, rfl⟩
 (conv => whnf); refine recA (fun hlt => ?_) (fun hlt => ?_)
 ·simp at hlt
  obtain ⟨c, hc, hdc, _⟩ := get_drop (show k < cs.length by omega)
  rw [hdc, vldGo] at hr
  repeat' ((conv => whnf); first | refine And.intro (by omega) ?_ | refine recO (cC_at hc) ?_ | refine ACalls.use (schema_IsName_spec F.z0y c.name _) ?_ | refine ACalls.use (schema_Index_spec F.z0w e1 cs hl c.name _) ?_ | refine recA (fun h => ?_) (fun h => ?_))
  all_goals (conv => whnf)
  all_goals first
   | refine ⟨m - 1, by omega, Gp.none rfl ?_ fun ρ1 h => ⟨k + 1, by omega, ?_, rfl, h⟩⟩
   | refine pubI ?_
  all_goals first
   | exact ⟨.closed _ rfl, .closed _ rfl, .closed _ rfl, pub_int (wrapI ((k : Int) + 1) (by omega) (by omega)), trivial⟩
   | skip
  all_goals first
   | (rw [← hr]; simp_all; done)
   | (rw [← hr, if_neg (by simp_all), if_neg (by simp_all <;> omega), if_neg (by simp_all <;> omega)]; rfl)
 ·simp at hlt
  conv => whnf
  rw [List.drop_eq_nil_of_le (show cs.length ≤ k by omega)] at hr
  exact pubI hr

end Go.AW

namespace Go.AW
variable [Draws]
attribute [local irreducible] ACalls
theorem wname_size (n : Int) : (wname n).size ≤ 2 := by
 have h1 := Int.emod_nonneg n (show (12 : Int) ≠ 0 by decide)
 have h2 := Int.emod_lt_of_pos n (show (0 : Int) < 12 by decide)
 have : ∀ k, k < 12 → (wnames.getD k (bs [])).size ≤ 2 := by decide
 exact this _ (by omega)

end Go.AW

namespace Go.AW
variable [Draws]
attribute [local irreducible] ACalls
noncomputable def eqD {α : Type} (a b : α) : Bool := @decide (a = b) (Classical.propDecidable _)

theorem eqD_true {α : Type} {a b : α} (h : a = b) : eqD a b = true := by simp [eqD, h]

theorem eqD_false {α : Type} {a b : α} (h : a ≠ b) : eqD a b = false := by simp [eqD, h]

theorem strEq_iff {s t : ByteArray} : (s.data.toList == t.data.toList) = true ↔ s = t := by
 rw [beq_iff_eq]
 constructor
 ·intro h
  cases s; cases t
  simp only at h
  rw [Array.toList_inj] at h
  rw [h]
 ·rintro rfl; rfl

theorem vEq_iff {x y : V} : (x.kind == y.kind && (x.num == y.num && (x.str.data.toList == y.str.data.toList && true))) = true ↔ x = y := by
 rw [Bool.and_eq_true, Bool.and_eq_true, Bool.and_true, strEq_iff, beq_iff_eq, beq_iff_eq]
 constructor
 ·rintro ⟨h1, h2, h3⟩
  cases x; cases y
  simp only at h1 h2 h3
  rw [h1, h2, h3]
 ·rintro rfl; exact ⟨rfl, rfl, rfl⟩

theorem take_more {α : Type} {a b : List α} {k : Nat} {x y : α} (ht : a.take k = b.take k) (hx : a[k]? = some x) (hy : b[k]? = some y) (h : x = y) : a.take (k + 1) = b.take (k + 1) := by
 rw [List.take_add_one, List.take_add_one, hx, hy, ht, h]

theorem get_ne {α : Type} {a b : List α} {k : Nat} {x y : α} (hx : a[k]? = some x) (hy : b[k]? = some y) (h : x ≠ y) : a ≠ b := fun e => by
 rw [e, hy] at hx
 cases hx
 exact h rfl

set_option maxRecDepth 20000 in
theorem ref22_SameRow_spec {P : Program} (F : F_z27 P) (e1 e2 : Bool) (a b : List V) (ha : a.length ≤ 1000000) (H : List AObj) :
  ACalls P F.id [.list e1 3 (vC a), .list e2 3 (vC b)] H (fun r H' => r = .bool (eqD a b) ∧ H' = H) := by
 refine ACalls.pure (by simp [AVal.closed, AVal.isPure]) (acalls_of_body F.has ?_)
 (conv => whnf); refine recA (fun hn => ?_) (fun hn => ?_)
 ·simp [vC_length] at hn
  conv => whnf
  exact pubB (eqD_false (fun e => hn (by rw [e]))).symm
 simp [vC_length] at hn
 conv => whnf
 refine ⟨fun m ρ H => ∃ k : Nat, k + m = a.length ∧ a.take k = b.take k ∧ H = [] ∧ Sv 26 [(0, .list e1 3 (vC a)), (1, .list e2 3 (vC b)), (5, .int .i64 k)] ρ, a.length, [], ?_, ?_⟩
 ·exact ⟨0, by omega, rfl, rfl, Sv.intro rfl ⟨rfl, rfl, rfl, trivial⟩⟩
 rintro m ρ H ⟨k, hk, ht, rfl, d, rfl⟩
 (conv => whnf); refine recA (fun hlt => ?_) (fun hlt => ?_)
 ·simp [vC_length] at hlt
  have hx : a[k]? = some a[k] := List.getElem?_eq_getElem hlt
  have hy : b[k]? = some (b[k]'(by omega)) := List.getElem?_eq_getElem (by omega)
  (conv => whnf); refine And.intro (by omega) ?_
  (conv => whnf); refine recO (vC_at hx) ?_
  (conv => whnf); refine And.intro (by omega) ?_
  (conv => whnf); refine recO (vC_at hy) ?_
  (conv => whnf); refine recA (fun hne => ?_) (fun hne => ?_)
  ·have hv : a[k] ≠ b[k]'(by omega) := fun e => by rw [vEq_iff.2 e] at hne; cases hne
   conv => whnf
   exact pubB (eqD_false (get_ne hx hy hv)).symm
  ·have hv : a[k] = b[k]'(by omega) := vEq_iff.1 (by rw [Bool.not_eq_false'] at hne; exact hne)
   conv => whnf
   refine ⟨m - 1, by omega, Gp.keep rfl ?_ fun ρ1 h => ⟨k + 1, by omega, take_more ht hx hy hv, rfl, h⟩⟩
   exact ⟨rfl, rfl, intEq (wrapI ((k : Int) + 1) (by omega) (by omega)), trivial⟩
 ·simp [vC_length] at hlt
  have : a = b := by
   rw [List.take_of_length_le (by omega), List.take_of_length_le (by omega)] at ht
   exact ht
  conv => whnf
  exact pubB (eqD_true this).symm

theorem SameRecord_spec {P : Program} (F : F_z2e P) (r s : Rec) (ha : r.row.length ≤ 1000000) (H : List AObj) :
  ACalls P F.id [.agg (recC r), .agg (recC s)] H (fun q H' => q = .bool (eqD r s) ∧ H' = H) := by
 refine ACalls.pure (by simp [AVal.closed, recC, AVal.isPure]) (acalls_of_body F.has ?_)
 (conv => whnf); refine recA (fun h1 => ?_) (fun h1 => ?_)
 ·replace h1 : (r.del == s.del) = true := h1
  (conv => whnf); refine recA (fun h2 => ?_) (fun h2 => ?_)
  ·replace h2 : (r.seq == s.seq) = true := h2
   (conv => whnf); refine ACalls.use (ref22_SameRow_spec F.z27 false false r.row s.row ha _) ?_
   conv => whnf
   refine pubB ?_
   by_cases hr : r.row = s.row
   ·rw [eqD_true hr, eqD_true]
    rw [beq_iff_eq] at h1 h2
    cases r; cases s
    simp only at h1 h2 hr
    rw [h1, h2, hr]
   ·rw [eqD_false hr, eqD_false (fun e => hr (by rw [e]))]
  ·replace h2 : (r.seq == s.seq) = false := h2
   conv => whnf
   exact pubB (eqD_false (fun e => by rw [e, beq_self_eq_true] at h2; cases h2)).symm
 ·replace h1 : (r.del == s.del) = false := h1
  conv => whnf
  exact pubB (eqD_false (fun e => by rw [e, beq_self_eq_true] at h1; cases h1)).symm

set_option maxRecDepth 20000 in
theorem SameFile_spec {P : Program} (F : F_z2d P) (f g : Fil) (ha : f.recs.length ≤ 1000000) (hr : ∀ r ∈ f.recs, r.row.length ≤ 1000000) (H : List AObj) :
  ACalls P F.id [.agg (fV f), .agg (fV g)] H (fun q H' => q = .bool (eqD f g) ∧ H' = H) := by
 refine ACalls.pure (by simp [AVal.closed, fV, AVal.isPure]) (acalls_of_body F.has ?_)
 (conv => whnf); refine recA (fun h1 => ?_) (fun h1 => ?_)
 ·replace h1 : (!(f.id.data.toList == g.id.data.toList)) = true := h1
  conv => whnf
  exact pubB (eqD_false (fun e => by rw [e, beq_self_eq_true] at h1; cases h1)).symm
 replace h1 : (!(f.id.data.toList == g.id.data.toList)) = false := h1
 rw [Bool.not_eq_false', strEq_iff] at h1
 (conv => whnf); refine recA (fun h2 => ?_) (fun h2 => ?_)
 ·replace h2 : (!(f.src.data.toList == g.src.data.toList)) = true := h2
  conv => whnf
  exact pubB (eqD_false (fun e => by rw [e, beq_self_eq_true] at h2; cases h2)).symm
 replace h2 : (!(f.src.data.toList == g.src.data.toList)) = false := h2
 rw [Bool.not_eq_false', strEq_iff] at h2
 (conv => whnf); refine recA (fun h3 => ?_) (fun h3 => ?_)
 ·simp [rC_length] at h3
  conv => whnf
  exact pubB (eqD_false (fun e => h3 (by rw [e]))).symm
 simp [rC_length] at h3
 conv => whnf
 refine ⟨fun m ρ H => ∃ k : Nat, k + m = f.recs.length ∧ f.recs.take k = g.recs.take k ∧ H = [.arr 3 [fV f], .arr 3 [fV g]] ∧ Sv 46 [(2, .ptr 0 1 0 0), (3, .ptr 1 1 0 0), (5, .int .i64 k)] ρ, f.recs.length, [], ?_, ?_⟩
 ·exact ⟨0, by omega, rfl, rfl, Sv.intro rfl ⟨rfl, rfl, rfl, trivial⟩⟩
 rintro m ρ H ⟨k, hk, ht, rfl, d, rfl⟩
 (conv => whnf); refine recA (fun hlt => ?_) (fun hlt => ?_)
 ·simp [rC_length] at hlt
  have hx : f.recs[k]? = some f.recs[k] := List.getElem?_eq_getElem hlt
  have hy : g.recs[k]? = some (g.recs[k]'(by omega)) := List.getElem?_eq_getElem (by omega)
  (conv => whnf); refine And.intro (by omega) ?_
  (conv => whnf); refine recO (rC_at hx) ?_
  (conv => whnf); refine And.intro (by omega) ?_
  (conv => whnf); refine recO (rC_at hy) ?_
  (conv => whnf); refine ⟨_, SameRecord_spec F.z2e f.recs[k] (g.recs[k]'(by omega)) (hr _ (List.getElem_mem hlt)) _, ?_⟩
  (conv => whnf); refine recA (fun hne => ?_) (fun hne => ?_)
  ·replace hne : (!(eqD f.recs[k] (g.recs[k]'(by omega)))) = true := hne
   have hv : f.recs[k] ≠ g.recs[k]'(by omega) := fun e => by rw [eqD_true e] at hne; cases hne
   conv => whnf
   exact pubB (eqD_false (fun e => get_ne hx hy hv (by rw [e]))).symm
  ·replace hne : (!(eqD f.recs[k] (g.recs[k]'(by omega)))) = false := hne
   have hv : f.recs[k] = g.recs[k]'(by omega) := Classical.byContradiction fun hn => by rw [eqD_false hn] at hne; cases hne
   conv => whnf
   refine ⟨m - 1, by omega, Gp.keep rfl ?_ fun ρ1 h => ⟨k + 1, by omega, take_more ht hx hy hv, rfl, h⟩⟩
   exact ⟨rfl, rfl, intEq (wrapI ((k : Int) + 1) (by omega) (by omega)), trivial⟩
 ·simp [rC_length] at hlt
  have : f.recs = g.recs := by
   rw [List.take_of_length_le (by omega), List.take_of_length_le (by omega)] at ht
   exact ht
  conv => whnf
  refine pubB (eqD_true ?_).symm
  cases f; cases g
  simp only at h1 h2 this
  rw [h1, h2, this]

end Go.AW

namespace Go.AW
variable [Draws]
attribute [local irreducible] ACalls
def tO (x y z : List Int) : AObj := .arr 1 [[.list false 1 (bC x)], [.list false 1 (bC y)], [.list false 1 (bC z)]]

end Go.AW

namespace Go.AW
variable [Draws]
attribute [local irreducible] ACalls
set_option maxRecDepth 20000 in
theorem ins0_spec {P : Program} (F : F_z1d P) (X : AVal) (g : FuncId) (H : List AObj) :
  ACalls P F.id [X, .int .i64 0, .int .i64 0, .fn g []] H (fun r H' => r = .tuple [] ∧ H' = H) := by
 refine acalls_of_body F.has ?_
 conv => whnf
 refine ⟨fun m ρ H1 => H1 = H ∧ Sv 53 [(1, .int .i64 0), (2, .int .i64 0), (8, .int .i64 1)] ρ, 0, [], ?_, ?_⟩
 ·exact ⟨rfl, Sv.intro rfl ⟨rfl, rfl, rfl, trivial⟩⟩
 rintro m ρ H1 ⟨rfl, d, rfl⟩
 conv => whnf
 exact ⟨rfl, rfl⟩

set_option maxRecDepth 20000 in
theorem Len64_0 {P : Program} (F : F_z0u P) (H : List AObj) :
  ACalls P F.id [.int .u64 0] H (fun r H' => r = .int .i64 0 ∧ H' = H) := by
 refine ACalls.pure rfl (acalls_of_body F.has ?_)
 (conv => whnf); refine And.intro (by decide) ?_
 conv => whnf
 exact .closed _ rfl

theorem Len_0 {P : Program} (F : F_z0t P) (H : List AObj) :
  ACalls P F.id [.int .u64 0] H (fun r H' => r = .int .i64 0 ∧ H' = H) := by
 refine ACalls.pure rfl (acalls_of_body F.has ?_)
 (conv => whnf); refine ACalls.use (Len64_0 F.z0u _) ?_
 conv => whnf
 exact .closed _ rfl

set_option maxRecDepth 20000 in
theorem pdq0_spec {P : Program} (F : F_z1f P) (X : AVal) (g : FuncId) (H : List AObj) :
  ACalls P F.id [X, .int .i64 0, .int .i64 0, .int .i64 0, .fn g []] H (fun r H' => r = .tuple [] ∧ H' = H) := by
 refine acalls_of_body F.has ?_
 conv => whnf
 refine ⟨fun m ρ H1 => H1 = H ∧ Sv 148 [(0, X), (1, .int .i64 0), (2, .int .i64 0), (3, .int .i64 0), (4, .fn g []), (10, .bool true), (11, .bool true)] ρ, 0, [], ?_, ?_⟩
 ·exact ⟨rfl, Sv.intro rfl ⟨rfl, rfl, rfl, rfl, rfl, rfl, rfl, trivial⟩⟩
 rintro m ρ H1 ⟨rfl, d, rfl⟩
 (conv => whnf); refine ACalls.use (ins0_spec F.z1d X g _) ?_
 conv => whnf
 exact ⟨rfl, rfl⟩

theorem sort0_spec {P : Program} (F : F_z1b P) (id : Nat) (g : FuncId) (H : List AObj) (ho : H[id]? = some (.arr 2 [])) :
  ACalls P F.id [.sl id 0 0 0, .fn g []] H (fun r H' => r = .tuple [] ∧ H' = H) := by
 refine acalls_of_body F.has ?_
 (conv => whnf); refine recO (ho) ?_
 (conv => whnf); refine ACalls.use (Len_0 F.z0t _) ?_
 (conv => whnf); refine ACalls.use (pdq0_spec F.z1f (.sl id 0 0 0) g _) ?_
 conv => whnf
 exact ⟨rfl, rfl⟩

theorem sort0n_spec {P : Program} (F : F_z1b P) (g : FuncId) (H : List AObj) :
  ACalls P F.id [.nil, .fn g []] H (fun r H' => r = .tuple [] ∧ H' = H) := by
 refine acalls_of_body F.has ?_
 (conv => whnf); refine ACalls.use (Len_0 F.z0t _) ?_
 (conv => whnf); refine ACalls.use (pdq0_spec F.z1f .nil g _) ?_
 conv => whnf
 exact ⟨rfl, rfl⟩

end Go.AW

namespace Go.AW
variable [Draws]
def grpA (c : Ent) : List Ent → List Ent
 | [] => [c]
 | e :: l => if rowsCmp c.row e.row = 0 then grpA ⟨c.row, c.cnt + e.cnt⟩ l else c :: grpA e l

def grpL : List Ent → List Ent
 | [] => []
 | e :: l => grpA e l

def Asc (l : List Ent) : Prop := l.Pairwise fun x y => rowsCmp x.row y.row ≤ 0

theorem cntL_grpA : ∀ (l : List Ent) (c : Ent) (r : List V), cntL (grpA c l) r = cntL (c :: l) r
 | [], c, r => rfl
 | e :: l, c, r => by
  rw [grpA]
  split
  ·rename_i h
   have hr : c.row = e.row := (rowsCmp_zero _ _).1 h
   rw [cntL_grpA l, cntL, cntL, cntL]
   simp only [hr]
   split <;> omega
  ·rw [cntL, cntL_grpA l e r, cntL]; rfl

theorem cntL_grpL (l : List Ent) (r : List V) : cntL (grpL l) r = cntL l r := by
 cases l with
 | nil => rfl
 | cons e l => exact cntL_grpA l e r

theorem grpA_ge : ∀ (l : List Ent) (c : Ent) (x : List V), rowsCmp x c.row < 0 → (∀ e ∈ l, rowsCmp x e.row < 0) → ∀ e ∈ grpA c l, rowsCmp x e.row < 0
 | [], c, x, h, _, e, he => by rw [grpA] at he; rw [List.mem_singleton.1 he]; exact h
 | f :: l, c, x, h, hl, e, he => by
  rw [grpA] at he
  split at he
  ·exact grpA_ge l ⟨c.row, c.cnt + f.cnt⟩ x h (fun e he => hl e (List.mem_cons_of_mem _ he)) e he
  ·rcases List.mem_cons.1 he with rfl | he
   ·exact h
   ·exact grpA_ge l f x (hl f (List.mem_cons_self ..)) (fun e he => hl e (List.mem_cons_of_mem _ he)) e he

theorem asc_tail {c e : Ent} {l : List Ent} (h : Asc (c :: e :: l)) : Asc (c :: l) :=
 List.pairwise_cons.2 ⟨fun x hx => (List.pairwise_cons.1 h).1 x (List.mem_cons_of_mem _ hx), (List.pairwise_cons.1 (List.pairwise_cons.1 h).2).2⟩

theorem srt_grpA : ∀ (l : List Ent) (c : Ent), Asc (c :: l) → Srt (grpA c l)
 | [], c, _ => by rw [grpA]; exact List.pairwise_singleton _ _
 | e :: l, c, h => by
  rw [grpA]
  split
  ·refine srt_grpA l ⟨c.row, c.cnt + e.cnt⟩ ?_
   have := asc_tail h
   exact List.pairwise_cons.2 ⟨fun x hx => (List.pairwise_cons.1 this).1 x hx, (List.pairwise_cons.1 this).2⟩
  ·rename_i hne
   have h1 := (List.pairwise_cons.1 h).1
   have h2 := (List.pairwise_cons.1 h).2
   have hce : rowsCmp c.row e.row < 0 := by have := h1 e (List.mem_cons_self ..); omega
   refine List.pairwise_cons.2 ⟨grpA_ge l e c.row hce fun x hx => ?_, srt_grpA l e h2⟩
   have h3 := (List.pairwise_cons.1 h2).1 x hx
   have h4 := h1 x (List.mem_cons_of_mem _ hx)
   have h5 := rowsCmp_vals c.row x.row
   by_cases hz : rowsCmp c.row x.row = 0
   ·have hr := (rowsCmp_zero _ _).1 hz
    rw [← hr, rowsCmp_anti] at h3
    omega
   ·omega

theorem cntF_nz : ∀ (l : List Ent) (r : List V), cntL (l.filter nzB) r = cntL l r
 | [], _ => rfl
 | e :: l, r => by
  rw [List.filter_cons]
  split
  ·rw [cntL, cntL, cntF_nz l r]
  ·rename_i h
   have hz : e.cnt = 0 := by simpa [nzB] using h
   rw [cntF_nz l r, cntL, hz]
   split <;> omega

theorem small_nz (l : List Ent) : (l.all fun e => smallB e.cnt) = ((l.filter nzB).all fun e => smallB e.cnt) := by
 rw [Bool.eq_iff_iff, List.all_eq_true, List.all_eq_true]
 constructor
 ·exact fun h e he => h e (List.mem_filter.1 he).1
 ·intro h e he
  by_cases hz : e.cnt = 0
  ·rw [hz]; decide
  ·exact h e (List.mem_filter.2 ⟨he, by simpa [nzB] using hz⟩)

theorem resR_ext {a b : List Ent} (ha : Srt a) (hb : Srt b) (h : ∀ r, cntL a r = cntL b r) : resR a = resR b := by
 have e : a.filter nzB = b.filter nzB := bag_ext _ _ (ha.filter _) (hb.filter _) (fun e he => by have := (List.mem_filter.1 he).2; simpa [nzB] using this) (fun e he => by have := (List.mem_filter.1 he).2; simpa [nzB] using this) fun r => by rw [cntF_nz, cntF_nz, h r]
 rw [resR, resR, small_nz a, small_nz b, e]

end Go.AW

namespace Go.AW
variable [Draws]
attribute [local irreducible] ACalls
def srtM : Nat → List Ent → List Ent
 | 0, l => l
 | n + 1, l => if l.length < 2 then l else mrg (srtM n (l.take (l.length / 2))) (srtM n (l.drop (l.length / 2)))

theorem cntL_srtM : ∀ (n : Nat) (l : List Ent) (r : List V), cntL (srtM n l) r = cntL l r
 | 0, _, _ => rfl
 | n + 1, l, r => by
  rw [srtM]
  split
  ·rfl
  ·rw [cntL_mrg, cntL_srtM n, cntL_srtM n, ← cntL_append, List.take_append_drop]

theorem srt_short {l : List Ent} (h : l.length < 2) : Srt l := by
 match l, h with
 | [], _ => exact List.Pairwise.nil
 | [x], _ => exact List.pairwise_singleton _ _

theorem srt_srtM : ∀ (n : Nat) (l : List Ent), l.length ≤ n + 1 → Srt (srtM n l)
 | 0, l, h => by rw [srtM]; exact srt_short (by omega)
 | n + 1, l, h => by
  rw [srtM]
  split
  ·exact srt_short (by assumption)
  ·exact srt_mrg _ _ (srt_srtM n _ (by rw [List.length_take]; omega)) (srt_srtM n _ (by rw [List.length_drop]; omega))

end Go.AW

namespace Go.AW
variable [Draws]
attribute [local irreducible] ACalls
def EntB (B : Int) (e : Ent) : Prop := e.row.length ≤ 12 ∧ -B ≤ e.cnt ∧ e.cnt ≤ B

set_option maxRecDepth 20000 in
theorem ref6_mergeB_raw {P : Program} (F : F_z3f P) {B : Int} (hB0 : B ≤ 4000000000000) (e1 e2 : Bool) (a b : List Ent) (ha : a.length ≤ 100000) (hb : b.length ≤ 100000) (hA : ∀ e ∈ a, EntB B e) (hB : ∀ e ∈ b, EntB B e) :
  ACalls P F.id [.list e1 2 (eC a), .list e2 2 (eC b)] [] (fun r H' => r = .sl 0 (mrg a b).length 0 (mrg a b).length ∧ H' = [.arr 2 (eC (mrg a b))]) := by
 refine acalls_of_body F.has ?_
 conv => whnf
 refine ⟨fun m ρ H => ∃ (a' b' pre : List Ent) (f1 f2 : Bool), m = a'.length + b'.length ∧ mrg a b = pre ++ mrg a' b' ∧
   pre.length + a'.length + b'.length ≤ a.length + b.length ∧ (∀ e ∈ a', EntB B e) ∧ (∀ e ∈ b', EntB B e) ∧ H = [.arr 2 (eC pre)] ∧
   Sv 74 [(0, .list f1 2 (eC a')), (1, .list f2 2 (eC b')), (5, .sl 0 pre.length 0 pre.length)] ρ, a.length + b.length, [(5, 2)], ?_, ?_⟩
 ·exact ⟨a, b, [], e1, e2, rfl, rfl, by simp, hA, hB, by rfl, Sv.intro rfl ⟨rfl, rfl, rfl, trivial⟩⟩
 rintro m ρ H ⟨a', b', pre, f1, f2, hm, hM, hlen, hA', hB', rfl, d, rfl⟩
 (conv => whnf); refine recA (fun hz => ?_) (fun hz => ?_)
 ·replace hz : decide (((eC a').length : Int) > 0) = true := hz
  rw [eC_length] at hz
  have hzl : a'.length ≠ 0 := by simp at hz; omega
  obtain ⟨x, hx, hxd, hxm⟩ := get_drop (l := a') (k := 0) (by omega)
  obtain ⟨kx1, kx2, kx3⟩ := hA' x hxm
  rw [List.drop_zero] at hxd
  (conv => whnf); refine recF (by rw [eC_length]; simpa using hzl) ?_
  (conv => whnf); refine recA (fun hw => ?_) (fun hw => ?_)
  ·replace hw : decide (((eC b').length : Int) > 0) = true := hw
   rw [eC_length] at hw
   have hwl : b'.length ≠ 0 := by simp at hw; omega
   obtain ⟨y, hy, hyd, hym⟩ := get_drop (l := b') (k := 0) (by omega)
   obtain ⟨ky1, ky2, ky3⟩ := hB' y hym
   rw [List.drop_zero] at hyd
   (conv => whnf); refine And.intro (by decide) ?_
   (conv => whnf); refine recO (eC_at hx) ?_
   (conv => whnf); refine And.intro (by decide) ?_
   (conv => whnf); refine recO (eC_at hy) ?_
   conv => whnf
   refine ⟨_, ref1_CompareRows_spec F.z21 false false x.row y.row (by omega) _, ?_⟩
   (conv => whnf); refine recA (fun hc => ?_) (fun hc => ?_)
   ·replace hc : decide (rowsCmp x.row y.row < 0) = true := hc
    simp at hc
    (conv => whnf); refine And.intro (by decide) ?_
    (conv => whnf); refine recO (eC_at hx) ?_
    have hN : mrg a b = (pre ++ [⟨x.row, x.cnt⟩]) ++ mrg (a'.drop 1) (b') := by
     rw [hM, mrgA hxd (.inr ⟨_, _, hyd, hc⟩), List.append_assoc]; rfl
    have hlN : pre.length + 1 + (a'.drop 1).length + (b').length ≤ a.length + b.length := by simp [List.length_drop]; omega
    have hmN : (a'.drop 1).length + (b').length < m := by simp [List.length_drop]; omega
    have hAN : ∀ e ∈ (a'.drop 1), EntB B e := fun e h => hA' e (by first | exact h | exact List.mem_of_mem_drop h)
    have hBN : ∀ e ∈ (b'), EntB B e := fun e h => hB' e (by first | exact h | exact List.mem_of_mem_drop h)
    have hFl : (eC pre ++ [entC ⟨x.row, x.cnt⟩]).length = (pre ++ [(⟨x.row, x.cnt⟩ : Ent)]).length := by simp [eC_length]
    (conv => whnf); refine recT (by rw [eC_length]; exact Nat.beq_refl _) ?_
    (conv => whnf); refine And.intro ⟨roomMul (by simp; omega) (by omega), roomB_le (by simp; omega), rfl, by rw [eC_length]⟩ ?_
    (conv => whnf); refine And.intro ⟨by omega, by rw [eC_length]; omega⟩ ?_
    (conv => whnf); refine And.intro (by (conv => whnf); exact ⟨⟨by omega, by rw [eC_length]; omega⟩, rfl⟩) ?_
    conv => whnf
    refine ⟨(a'.drop 1).length + (b').length, hmN, Gp.one 0 2 (eC (pre ++ [⟨x.row, x.cnt⟩])) (by rw [eC_append]; rfl) (pureEs_eC _) rfl ?_ fun ρ1 h => ⟨a'.drop 1, b', pre ++ [⟨x.row, x.cnt⟩], (f1 && (none : Option AOpd).isNone), f2, rfl, hN, by simpa using hlN, hAN, hBN, rfl, h⟩⟩
    exact ⟨pubL (tailE a'), .closed _ rfl, pubSl (k := 0) rfl rfl hFl hFl, trivial⟩
   ·replace hc : decide (rowsCmp x.row y.row < 0) = false := hc
    simp at hc
    (conv => whnf); refine recA (fun hg => ?_) (fun hg => ?_)
    ·replace hg : decide (rowsCmp x.row y.row > 0) = true := hg
     simp at hg
     (conv => whnf); refine And.intro (by decide) ?_
     (conv => whnf); refine recO (eC_at hy) ?_
     have hN : mrg a b = (pre ++ [⟨y.row, y.cnt⟩]) ++ mrg (a') (b'.drop 1) := by
      rw [hM, mrgB hyd (.inr ⟨_, _, hxd, hg⟩), List.append_assoc]; rfl
     have hlN : pre.length + 1 + (a').length + (b'.drop 1).length ≤ a.length + b.length := by simp [List.length_drop]; omega
     have hmN : (a').length + (b'.drop 1).length < m := by simp [List.length_drop]; omega
     have hAN : ∀ e ∈ (a'), EntB B e := fun e h => hA' e (by first | exact h | exact List.mem_of_mem_drop h)
     have hBN : ∀ e ∈ (b'.drop 1), EntB B e := fun e h => hB' e (by first | exact h | exact List.mem_of_mem_drop h)
     have hFl : (eC pre ++ [entC ⟨y.row, y.cnt⟩]).length = (pre ++ [(⟨y.row, y.cnt⟩ : Ent)]).length := by simp [eC_length]
     (conv => whnf); refine recT (by rw [eC_length]; exact Nat.beq_refl _) ?_
     (conv => whnf); refine And.intro ⟨roomMul (by simp; omega) (by omega), roomB_le (by simp; omega), rfl, by rw [eC_length]⟩ ?_
     (conv => whnf); refine And.intro ⟨by omega, by rw [eC_length]; omega⟩ ?_
     (conv => whnf); refine And.intro (by (conv => whnf); exact ⟨⟨by omega, by rw [eC_length]; omega⟩, rfl⟩) ?_
     conv => whnf
     refine ⟨(a').length + (b'.drop 1).length, hmN, Gp.one 0 2 (eC (pre ++ [⟨y.row, y.cnt⟩])) (by rw [eC_append]; rfl) (pureEs_eC _) rfl ?_ fun ρ1 h => ⟨a', b'.drop 1, pre ++ [⟨y.row, y.cnt⟩], f1, (f2 && (none : Option AOpd).isNone), rfl, hN, by simpa using hlN, hAN, hBN, rfl, h⟩⟩
     exact ⟨.closed _ rfl, pubL (tailE b'), pubSl (k := 0) rfl rfl hFl hFl, trivial⟩
    ·replace hg : decide (rowsCmp x.row y.row > 0) = false := hg
     simp at hg
     (conv => whnf); refine And.intro (by decide) ?_
     (conv => whnf); refine recO (eC_at hx) ?_
     (conv => whnf); refine And.intro (by decide) ?_
     (conv => whnf); refine recO (eC_at hx) ?_
     (conv => whnf); refine And.intro (by decide) ?_
     (conv => whnf); refine recO (eC_at hy) ?_
     have em2 : IntKind.i64.wrap (x.cnt + y.cnt) = x.cnt + y.cnt := wrapI _ (by omega) (by omega)
     have hN : mrg a b = (pre ++ [⟨x.row, IntKind.i64.wrap (x.cnt + y.cnt)⟩]) ++ mrg (a'.drop 1) (b'.drop 1) := by
      rw [hM, em2, mrgC hxd hyd (by omega), List.append_assoc]; rfl
     have hlN : pre.length + 1 + (a'.drop 1).length + (b'.drop 1).length ≤ a.length + b.length := by simp [List.length_drop]; omega
     have hmN : (a'.drop 1).length + (b'.drop 1).length < m := by simp [List.length_drop]; omega
     have hAN : ∀ e ∈ (a'.drop 1), EntB B e := fun e h => hA' e (by first | exact h | exact List.mem_of_mem_drop h)
     have hBN : ∀ e ∈ (b'.drop 1), EntB B e := fun e h => hB' e (by first | exact h | exact List.mem_of_mem_drop h)
     have hFl : (eC pre ++ [entC ⟨x.row, IntKind.i64.wrap (x.cnt + y.cnt)⟩]).length = (pre ++ [(⟨x.row, IntKind.i64.wrap (x.cnt + y.cnt)⟩ : Ent)]).length := by simp [eC_length]
     (conv => whnf); refine recT (by rw [eC_length]; exact Nat.beq_refl _) ?_
     (conv => whnf); refine And.intro ⟨roomMul (by simp; omega) (by omega), roomB_le (by simp; omega), rfl, by rw [eC_length]⟩ ?_
     (conv => whnf); refine And.intro ⟨by omega, by rw [eC_length]; omega⟩ ?_
     (conv => whnf); refine And.intro ⟨by omega, by rw [eC_length]; omega⟩ ?_
     conv => whnf
     refine ⟨(a'.drop 1).length + (b'.drop 1).length, hmN, Gp.one 0 2 (eC (pre ++ [⟨x.row, IntKind.i64.wrap (x.cnt + y.cnt)⟩])) (by rw [eC_append]; rfl) (pureEs_eC _) rfl ?_ fun ρ1 h => ⟨a'.drop 1, b'.drop 1, pre ++ [⟨x.row, IntKind.i64.wrap (x.cnt + y.cnt)⟩], (f1 && (none : Option AOpd).isNone), (f2 && (none : Option AOpd).isNone), rfl, hN, by simpa using hlN, hAN, hBN, rfl, h⟩⟩
     exact ⟨pubL (tailE a'), pubL (tailE b'), pubSl (k := 0) rfl rfl hFl hFl, trivial⟩
  ·replace hw : decide (((eC b').length : Int) > 0) = false := hw
   rw [eC_length] at hw
   have hwn : b' = [] := by simp at hw; exact hw
   have hwl : b'.length = 0 := by rw [hwn]; rfl
   (conv => whnf); refine And.intro (by decide) ?_
   (conv => whnf); refine recO (eC_at hx) ?_
   have hN : mrg a b = (pre ++ [⟨x.row, x.cnt⟩]) ++ mrg (a'.drop 1) (b') := by
    rw [hM, mrgA hxd (.inl hwn), List.append_assoc]; rfl
   have hlN : pre.length + 1 + (a'.drop 1).length + (b').length ≤ a.length + b.length := by simp [List.length_drop]; omega
   have hmN : (a'.drop 1).length + (b').length < m := by simp [List.length_drop]; omega
   have hAN : ∀ e ∈ (a'.drop 1), EntB B e := fun e h => hA' e (by first | exact h | exact List.mem_of_mem_drop h)
   have hBN : ∀ e ∈ (b'), EntB B e := fun e h => hB' e (by first | exact h | exact List.mem_of_mem_drop h)
   have hFl : (eC pre ++ [entC ⟨x.row, x.cnt⟩]).length = (pre ++ [(⟨x.row, x.cnt⟩ : Ent)]).length := by simp [eC_length]
   (conv => whnf); refine recT (by rw [eC_length]; exact Nat.beq_refl _) ?_
   (conv => whnf); refine And.intro ⟨roomMul (by simp; omega) (by omega), roomB_le (by simp; omega), rfl, by rw [eC_length]⟩ ?_
   (conv => whnf); refine And.intro ⟨by omega, by rw [eC_length]; omega⟩ ?_
   (conv => whnf); refine And.intro (by (conv => whnf); exact ⟨⟨by omega, by rw [eC_length]; omega⟩, rfl⟩) ?_
   conv => whnf
   refine ⟨(a'.drop 1).length + (b').length, hmN, Gp.one 0 2 (eC (pre ++ [⟨x.row, x.cnt⟩])) (by rw [eC_append]; rfl) (pureEs_eC _) rfl ?_ fun ρ1 h => ⟨a'.drop 1, b', pre ++ [⟨x.row, x.cnt⟩], (f1 && (none : Option AOpd).isNone), f2, rfl, hN, by simpa using hlN, hAN, hBN, rfl, h⟩⟩
   exact ⟨pubL (tailE a'), .closed _ rfl, pubSl (k := 0) rfl rfl hFl hFl, trivial⟩
 ·replace hz : decide (((eC a').length : Int) > 0) = false := hz
  rw [eC_length] at hz
  have hzn : a' = [] := by simp at hz; exact hz
  have hzl : a'.length = 0 := by rw [hzn]; rfl
  (conv => whnf); refine recA (fun hw => ?_) (fun hw => ?_)
  ·replace hw : decide (((eC b').length : Int) > 0) = true := hw
   rw [eC_length] at hw
   have hwl : b'.length ≠ 0 := by simp at hw; omega
   obtain ⟨y, hy, hyd, hym⟩ := get_drop (l := b') (k := 0) (by omega)
   obtain ⟨ky1, ky2, ky3⟩ := hB' y hym
   rw [List.drop_zero] at hyd
   (conv => whnf); refine recT (by rw [eC_length]; simpa using hzl) ?_
   (conv => whnf); refine And.intro (by decide) ?_
   (conv => whnf); refine recO (eC_at hy) ?_
   have hN : mrg a b = (pre ++ [⟨y.row, y.cnt⟩]) ++ mrg (a') (b'.drop 1) := by
    rw [hM, mrgB hyd (.inl hzn), List.append_assoc]; rfl
   have hlN : pre.length + 1 + (a').length + (b'.drop 1).length ≤ a.length + b.length := by simp [List.length_drop]; omega
   have hmN : (a').length + (b'.drop 1).length < m := by simp [List.length_drop]; omega
   have hAN : ∀ e ∈ (a'), EntB B e := fun e h => hA' e (by first | exact h | exact List.mem_of_mem_drop h)
   have hBN : ∀ e ∈ (b'.drop 1), EntB B e := fun e h => hB' e (by first | exact h | exact List.mem_of_mem_drop h)
   have hFl : (eC pre ++ [entC ⟨y.row, y.cnt⟩]).length = (pre ++ [(⟨y.row, y.cnt⟩ : Ent)]).length := by simp [eC_length]
   (conv => whnf); refine recT (by rw [eC_length]; exact Nat.beq_refl _) ?_
   (conv => whnf); refine And.intro ⟨roomMul (by simp; omega) (by omega), roomB_le (by simp; omega), rfl, by rw [eC_length]⟩ ?_
   (conv => whnf); refine And.intro ⟨by omega, by rw [eC_length]; omega⟩ ?_
   (conv => whnf); refine And.intro (by (conv => whnf); exact ⟨⟨by omega, by rw [eC_length]; omega⟩, rfl⟩) ?_
   conv => whnf
   refine ⟨(a').length + (b'.drop 1).length, hmN, Gp.one 0 2 (eC (pre ++ [⟨y.row, y.cnt⟩])) (by rw [eC_append]; rfl) (pureEs_eC _) rfl ?_ fun ρ1 h => ⟨a', b'.drop 1, pre ++ [⟨y.row, y.cnt⟩], f1, (f2 && (none : Option AOpd).isNone), rfl, hN, by simpa using hlN, hAN, hBN, rfl, h⟩⟩
   exact ⟨.closed _ rfl, pubL (tailE b'), pubSl (k := 0) rfl rfl hFl hFl, trivial⟩
  ·replace hw : decide (((eC b').length : Int) > 0) = false := hw
   rw [eC_length] at hw
   have hwn : b' = [] := by simp at hw; exact hw
   have hMM : mrg a b = pre := by rw [hM, hzn, hwn, mrg_nil]; simp
   conv => whnf
   rw [hMM]
   exact ⟨rfl, rfl⟩

theorem ref6_mergeB_spec {P : Program} (F : F_z3f P) {B : Int} (hB0 : B ≤ 4000000000000) (e1 e2 : Bool) (a b : List Ent) (ha : a.length ≤ 100000) (hb : b.length ≤ 100000) (hA : ∀ e ∈ a, EntB B e) (hB : ∀ e ∈ b, EntB B e) (H : List AObj) :
  ACalls P F.id [.list e1 2 (eC a), .list e2 2 (eC b)] H (fun r H' => r = .list false 2 (eC (mrg a b)) ∧ H' = H) :=
 ACalls.frz1 (by simp [AVal.closed, AVal.isPure]) (ref6_mergeB_raw F hB0 e1 e2 a b ha hb hA hB) (eC_length _).symm (pureEs_eC _)

end Go.AW

namespace Go.AW
variable [Draws]
attribute [local irreducible] ACalls
def SortE (P : Program) (f g : FuncId) : Prop :=
 ∀ (l : List Ent), l ≠ [] → l.length ≤ 1000000 → (∀ e ∈ l, e.row.length ≤ 1000) → ∀ (H : List AObj) (i0 : Nat), H[i0]? = some (.arr 2 (eC l)) →
  ACalls P f [.sl i0 l.length 0 l.length, .fn g []] H (fun r H' => r = .tuple [] ∧ ∃ s : List Ent, s.Perm l ∧ Asc s ∧ H' = H.set i0 (.arr 2 (eC s)))

theorem bag_sum_1_spec {P : Program} (F : F_z06 P) (x y : Ent) (hx : x.row.length ≤ 1000000) (H : List AObj) :
  ACalls P F.id [.agg (entC x), .agg (entC y)] H (fun r H' => r = .int .i64 (rowsCmp x.row y.row) ∧ H' = H) := by
 refine ACalls.pure rfl (acalls_of_body F.has ?_)
 (conv => whnf); refine ACalls.use (value_CompareRows_spec F.z1p false false x.row y.row hx _) ?_
 conv => whnf
 exact .closed _ rfl

set_option maxRecDepth 20000 in
theorem put1_spec {P : Program} (F : F_z04 P) (o : AObj) (ex : Bool) (O : List Ent) (hO : O.length ≤ 100000) (row : List V) (hr : row.length ≤ 1000) (c : Int) :
  ACalls P F.id [.sl 1 O.length 0 O.length, .list ex 3 (vC row), .int .i64 c] [o, .arr 2 (eC O)]
   (fun r H' => (smallB c = false ∧ r = .tuple [.nil, .bool false] ∧ H' = [o, .arr 2 (eC O)]) ∨ (smallB c = true ∧ c = 0 ∧ r = .tuple [.sl 1 O.length 0 O.length, .bool true] ∧ H' = [o, .arr 2 (eC O)]) ∨
    (smallB c = true ∧ c ≠ 0 ∧ r = .tuple [.sl 1 (O.length + 1) 0 (O.length + 1), .bool true] ∧ H' = [o, .arr 2 (eC (O ++ [⟨row, c⟩]))])) := by
 refine acalls_of_body F.has ?_
 (conv => whnf); refine recA (fun h => ?_) (fun h => ?_)
 ·simp at h
  conv => whnf
  exact .inl ⟨by rw [smallB]; simp; omega, rfl, rfl⟩
 simp at h
 (conv => whnf); refine recA (fun h2 => ?_) (fun h2 => ?_)
 ·simp at h2
  conv => whnf
  exact .inl ⟨by rw [smallB]; simp; omega, rfl, rfl⟩
 simp at h2
 have hs : smallB c = true := by simp [smallB]; omega
 (conv => whnf); refine recA (fun hz => ?_) (fun hz => ?_)
 ·replace hz : (!(c == 0)) = true := hz
  simp at hz
  conv => whnf
  refine ACalls.use (CloneV_spec F.z13 ex row (by omega) _) ?_
  (conv => whnf); refine recT (by rw [eC_length]; exact Nat.beq_refl _) ?_
  (conv => whnf); refine And.intro (⟨roomMul (by simp; omega) (by omega), roomB_le (by simp; omega), rfl, by rw [eC_length]⟩) ?_
  conv => whnf
  have hl : (eC O ++ [[AVal.list false 3 (vC row), .int .i64 c]]).length = O.length + 1 := by rw [List.length_append, eC_length]; rfl
  refine .inr (.inr ⟨hs, hz, ?_, ?_⟩)
  ·exact congrArg (fun n => AVal.tuple [.sl 1 n 0 n, .bool true]) hl
  ·rw [eC_append]; rfl
 ·replace hz : (!(c == 0)) = false := hz
  simp at hz
  conv => whnf
  exact .inr (.inl ⟨hs, hz, rfl, rfl⟩)

set_option maxRecDepth 20000 in
theorem done1_spec {P : Program} (F : F_z02 P) (o : AObj) (O : List Ent) :
  ACalls P F.id [.sl 1 O.length 0 O.length] [o, .arr 2 (eC O)]
   (fun r H' => H' = [o, .arr 2 (eC O)] ∧ ((4096 < O.length ∧ r = .tuple [.nil, .int .i64 2]) ∨ (O.length ≤ 4096 ∧ r = .tuple [.sl 1 O.length 0 O.length, .int .i64 0]))) := by
 refine acalls_of_body F.has ?_
 (conv => whnf); refine recT (by rw [eC_length]; exact Nat.beq_refl _) ?_
 (conv => whnf); refine recA (fun h => ?_) (fun h => ?_)
 ·simp at h
  conv => whnf
  exact ⟨rfl, .inl ⟨by omega, rfl⟩⟩
 ·simp at h
  conv => whnf
  exact ⟨rfl, .inr ⟨by omega, rfl⟩⟩

theorem eC_at0 {l : List Ent} {k : Nat} {x : Ent} (h : l[k]? = some x) : (eC l)[0 + k]? = some (entC x) := by rw [Nat.zero_add]; exact eC_at h

theorem grpL_drop {S : List Ent} {i : Nat} {x : Ent} (h : S[i]? = some x) : grpL (S.drop i) = grpA x (S.drop (i + 1)) := by
 obtain ⟨hi, rfl⟩ := List.getElem?_eq_some_iff.1 h
 rw [List.drop_eq_getElem_cons hi]; rfl

theorem grpA_end {S : List Ent} {k : Nat} {c : Ent} (h : S.length ≤ k ∨ ∃ y, S[k]? = some y ∧ rowsCmp c.row y.row ≠ 0) : grpA c (S.drop k) = c :: grpL (S.drop k) := by
 rcases h with h | ⟨y, hy, hn⟩
 ·rw [List.drop_of_length_le h]; rfl
 ·obtain ⟨hk, rfl⟩ := List.getElem?_eq_some_iff.1 hy
  rw [List.drop_eq_getElem_cons hk, grpA, if_neg hn]; rfl

theorem grpA_step {S : List Ent} {k : Nat} {c y : Ent} (hy : S[k]? = some y) (h : rowsCmp c.row y.row = 0) : grpA c (S.drop k) = grpA ⟨c.row, c.cnt + y.cnt⟩ (S.drop (k + 1)) := by
 obtain ⟨hk, rfl⟩ := List.getElem?_eq_some_iff.1 hy
 rw [List.drop_eq_getElem_cons hk, grpA, if_pos h]

theorem cntL_perm {a b : List Ent} (h : a.Perm b) : ∀ r, cntL a r = cntL b r := by
 induction h with
 | nil => intro r; rfl
 | cons x _ ih => intro r; rw [cntL, cntL, ih]
 | swap x y l => intro r; rw [cntL, cntL, cntL, cntL]; split <;> split <;> omega
 | trans _ _ h1 h2 => intro r; rw [h1, h2]

theorem SortE.all {P : Program} {F : F_z1b P} {g : FuncId} (hS : SortE P F.id g) (l : List Ent) (hl : l.length ≤ 1000000) (hr : ∀ e ∈ l, e.row.length ≤ 1000) (H : List AObj) (i0 : Nat) (ho : H[i0]? = some (.arr 2 (eC l))) :
  ACalls P F.id [.sl i0 l.length 0 l.length, .fn g []] H (fun r H' => r = .tuple [] ∧ ∃ s : List Ent, s.Perm l ∧ Asc s ∧ H' = H.set i0 (.arr 2 (eC s))) := by
 cases l with
 | nil =>
  refine (sort0_spec F i0 g H ho).mono ?_
  rintro r H' ⟨rfl, rfl⟩
  refine ⟨rfl, [], List.Perm.refl _, List.Pairwise.nil, ?_⟩
  obtain ⟨h, e⟩ := List.getElem?_eq_some_iff.1 ho
  rw [← e, List.set_getElem_self]
 | cons x l => exact hS (x :: l) (by simp) hl hr H i0 ho

def sumI (S : List Ent) (n : Nat) (m : Nat) (ρ : List AVal) (H : List AObj) : Prop :=
 (∃ (i : Nat) (pre : List Ent), i + m = n ∧ grpL S = pre ++ grpL (S.drop i) ∧ (pre.all fun e => smallB e.cnt) = true ∧ pre.length ≤ i ∧ H = [.arr 2 (eC S), .arr 2 (eC (pre.filter nzB))] ∧
  Sv 66 [(0, .sl 0 n 0 n), (4, .sl 1 (pre.filter nzB).length 0 (pre.filter nzB).length), (5, .bool true), (6, .int .i64 i)] ρ) ∨
 (∃ i : Nat, ((grpL S).all fun e => smallB e.cnt) = false ∧ i ≤ n ∧ H = [.arr 2 (eC S)] ∧ Sv 66 [(0, .sl 0 n 0 n), (4, .nil), (5, .bool false), (6, .int .i64 i)] ρ)

set_option maxHeartbeats 2000000 in
set_option maxRecDepth 20000 in
theorem bag_sum_spec {P : Program} (F : F_z05 P) (hS : SortE P F.z1b.id F.z06.id) (ex : Bool) (l : List Ent) (hl : l.length ≤ 100000) (hE : ∀ e ∈ l, EntOk e) (H : List AObj) :
  ACalls P F.id [.list ex 2 (eC l)] H (fun r H' => r = resR (srtM l.length l) ∧ H' = H) := by
 have hN : ∀ S : List Ent, S.Perm l → Asc S → resR (srtM l.length l) = resR (grpL S) ∧ (∀ e ∈ S, EntOk e) ∧ S.length = l.length := fun S hp hs =>
  ⟨resR_ext (srt_srtM _ _ (by omega)) (by cases S with | nil => exact List.Pairwise.nil | cons x S => exact srt_grpA S x hs) fun r => by rw [cntL_srtM, cntL_grpL, cntL_perm hp], fun e h => hE e (hp.mem_iff.1 h), hp.length_eq⟩
 refine ACalls.pure (by simp [AVal.closed, AVal.isPure]) (acalls_of_body F.has ?_)
 (conv => whnf); refine ACalls.mono (CloneE_raw F.z12 ex l (by omega)) ?_
 rintro r H1 (⟨rfl, h0, rfl⟩ | ⟨rfl, rfl⟩)
 ·subst h0
  (conv => whnf); refine ACalls.use (sort0n_spec F.z1b _ _) ?_
  conv => whnf
  refine ⟨fun m ρ H1 => H1 = [.arr 2 []] ∧ Sv 66 [(0, .nil), (4, .sl 0 0 0 0), (5, .bool true), (6, .int .i64 0)] ρ, 0, [(4, 2)], ?_, ?_⟩
  ·exact ⟨rfl, Sv.intro rfl ⟨rfl, rfl, rfl, rfl, trivial⟩⟩
  rintro m ρ H1 ⟨rfl, d, rfl⟩
  conv => whnf
  refine (done_spec F.z02 []).mono ?_
  rintro r H1 ⟨rfl, ⟨h, rfl⟩ | ⟨h, rfl⟩⟩
  ·cases h
  ·conv => whnf
   exact pub2 (pubF rfl rfl rfl rfl) (.closed _ rfl)
 ·(conv => whnf); refine ACalls.mono (hS.all l (by omega) (fun e h => by have := (hE e h).1; omega) _ 0 rfl) ?_
  rintro r H1 ⟨rfl, S, hp, hs, rfl⟩
  obtain ⟨hR, hA, hSl⟩ := hN S hp hs
  replace hA : ∀ e ∈ S, EntOk e := hA
  clear hN hE
  have hl2 : S.length ≤ 100000 := by omega
  rw [hR, ← hSl]
  clear hR hSl hl
  conv => whnf
  refine ⟨sumI S S.length, S.length, [(4, 2)], ?_, ?_⟩
  ·exact .inl ⟨0, [], by omega, rfl, rfl, Nat.le_refl _, rfl, Sv.intro rfl ⟨rfl, rfl, rfl, rfl, trivial⟩⟩
  rintro m ρ H1 (⟨i, pre, hm, hG, hP, hpl, rfl, d, rfl⟩ | ⟨i, hbad, hi, rfl, d, rfl⟩)
  ·have hO : (pre.filter nzB).length ≤ pre.length := List.length_filter_le _ _
   (conv => whnf); refine recT (by rw [eC_length]; exact Nat.beq_refl _) ?_
   (conv => whnf); refine recA (fun hlt => ?_) (fun hlt => ?_)
   ·simp at hlt
    obtain ⟨x, hx⟩ : ∃ x, S[i]? = some x := ⟨S[i], List.getElem?_eq_getElem hlt⟩
    obtain ⟨hx1, hx2, hx3⟩ := hA x (List.mem_of_getElem? hx)
    conv => whnf
    refine ⟨fun m1 ρ1 H2 => ∃ (k : Nat) (acc : Int), k + m1 = S.length ∧ ((k = i ∧ acc = 0) ∨ (i < k ∧ grpL (S.drop i) = grpA ⟨x.row, acc⟩ (S.drop k))) ∧ -(65536 * ((k : Int) - i)) ≤ acc ∧ acc ≤ 65536 * ((k : Int) - i) ∧
     H2 = [.arr 2 (eC S), .arr 2 (eC (pre.filter nzB))] ∧ Sv 66 [(0, .sl 0 S.length 0 S.length), (4, .sl 1 (pre.filter nzB).length 0 (pre.filter nzB).length), (6, .int .i64 i), (7, .int .i64 acc), (8, .int .i64 k)] ρ1, S.length - i, [], ?_, ?_⟩
    ·exact ⟨i, 0, by omega, .inl ⟨rfl, rfl⟩, by omega, by omega, rfl, Sv.intro rfl ⟨rfl, rfl, rfl, rfl, rfl, trivial⟩⟩
    rintro m1 ρ1 H2 ⟨k, acc, hk, hc, hb1, hb2, rfl, d1, rfl⟩
    (conv => whnf); refine recT (by rw [eC_length]; exact Nat.beq_refl _) ?_
    (conv => whnf); refine recA (fun hkl => ?_) (fun hkl => ?_)
    ·simp at hkl
     obtain ⟨y, hy⟩ : ∃ y, S[k]? = some y := ⟨S[k], List.getElem?_eq_getElem hkl⟩
     obtain ⟨hy1, hy2, hy3⟩ := hA y (List.mem_of_getElem? hy)
     (conv => whnf); refine recT (by rw [eC_length]; exact Nat.beq_refl _) ?_
     (conv => whnf); refine And.intro (by omega) ?_
     (conv => whnf); refine recT (by rw [eC_length]; exact Nat.beq_refl _) ?_
     (conv => whnf); refine recO (eC_at0 hx) ?_
     (conv => whnf); refine recT (by rw [eC_length]; exact Nat.beq_refl _) ?_
     (conv => whnf); refine And.intro (by omega) ?_
     (conv => whnf); refine recT (by rw [eC_length]; exact Nat.beq_refl _) ?_
     (conv => whnf); refine recO (eC_at0 hy) ?_
     (conv => whnf); refine ⟨_, value_CompareRows_spec F.z1p false false x.row y.row (by omega) _, ?_⟩
     (conv => whnf); refine recA (fun hc2 => ?_) (fun hc2 => ?_)
     ·replace hc2 : (rowsCmp x.row y.row == 0) = true := hc2
      have hc3 : rowsCmp x.row y.row = 0 := by simpa using hc2
      (conv => whnf); refine recT (by rw [eC_length]; exact Nat.beq_refl _) ?_
      (conv => whnf); refine And.intro (by omega) ?_
      (conv => whnf); refine recT (by rw [eC_length]; exact Nat.beq_refl _) ?_
      (conv => whnf); refine recO (eC_at0 hy) ?_
      conv => whnf
      have ew := wrapI (acc + y.cnt) (by omega) (by omega)
      refine ⟨m1 - 1, by omega, Gp.two 0 1 (by decide) 2 2 (eC S) (eC (pre.filter nzB)) rfl rfl (pureEs_eC _) (pureEs_eC _) rfl ?_ fun ρ2 h => ⟨k + 1, acc + y.cnt, by omega, .inr ⟨by omega, ?_⟩, by omega, by omega, rfl, h⟩⟩
      ·exact ⟨pubSl (k := 0) rfl rfl rfl rfl, pubSl (k := 1) rfl rfl rfl rfl, .closed _ rfl, pub_int ew, pub_int (wrapI _ (by omega) (by omega)), trivial⟩
      ·rcases hc with ⟨h1, h2⟩ | ⟨h1, h2⟩
       ·subst h1 h2
        rw [hx] at hy
        cases hy
        rw [grpL_drop hx, Int.zero_add]
       ·exact h2.trans (grpA_step (c := ⟨x.row, acc⟩) hy hc3)
     ·replace hc2 : (rowsCmp x.row y.row == 0) = false := hc2
      have hc3 : rowsCmp x.row y.row ≠ 0 := by simpa using hc2
      have hik : i < k ∧ grpL (S.drop i) = grpA ⟨x.row, acc⟩ (S.drop k) := by
       rcases hc with ⟨h1, h2⟩ | h
       ·subst h1
        rw [hx] at hy
        cases hy
        exact absurd ((rowsCmp_zero _ _).2 rfl) hc3
       ·exact h
      have hend := hik.2.trans (grpA_end (.inr ⟨y, hy, hc3⟩))
      conv => whnf
      have hN : grpL S = (pre ++ [⟨x.row, acc⟩]) ++ grpL (S.drop k) := by rw [hG, hend, List.append_assoc]; rfl
      (conv => whnf); refine recT (by rw [eC_length]; exact Nat.beq_refl _) ?_
      (conv => whnf); refine And.intro (by omega) ?_
      (conv => whnf); refine recT (by rw [eC_length]; exact Nat.beq_refl _) ?_
      (conv => whnf); refine recO (eC_at0 hx) ?_
      (conv => whnf); refine ACalls.mono (put1_spec F.z04 (.arr 2 (eC S)) false (pre.filter nzB) (by omega) x.row (by omega) acc) ?_
      rintro r H1 (⟨hsm, rfl, rfl⟩ | ⟨hsm, hz0, rfl, rfl⟩ | ⟨hsm, hz0, rfl, rfl⟩)
      ·conv => whnf
       refine ⟨m - 1, by omega, Gp.one 0 2 (eC S) rfl (pureEs_eC _) rfl ?_ fun ρ2 h => .inr ⟨k, by rw [hN]; simp [hsm], by omega, rfl, h⟩⟩
       exact ⟨pubSl (k := 0) rfl rfl rfl rfl, .closed _ rfl, .closed _ rfl, .closed _ rfl, trivial⟩
      ·have hPN : ((pre ++ [(⟨x.row, acc⟩ : Ent)]).all fun e => smallB e.cnt) = true := by rw [List.all_append, hP]; simp [hsm]
       have hF : (pre ++ [(⟨x.row, acc⟩ : Ent)]).filter nzB = pre.filter nzB := by rw [List.filter_append]; simp [nzB, hz0]
       conv => whnf
       refine ⟨S.length - k, by omega, Gp.two 0 1 (by decide) 2 2 (eC S) (eC ((pre ++ [(⟨x.row, acc⟩ : Ent)]).filter nzB)) rfl (by rw [hF]; rfl) (pureEs_eC _) (pureEs_eC _) rfl ?_ fun ρ2 h => .inl ⟨k, pre ++ [⟨x.row, acc⟩], by omega, hN, hPN, by simp; omega, rfl, h⟩⟩
       exact ⟨pubSl (k := 0) rfl rfl rfl rfl, by rw [hF]; exact pubSl (k := 1) rfl rfl rfl rfl, .closed _ rfl, .closed _ rfl, trivial⟩
      ·have hPN : ((pre ++ [(⟨x.row, acc⟩ : Ent)]).all fun e => smallB e.cnt) = true := by rw [List.all_append, hP]; simp [hsm]
       have hF : (pre ++ [(⟨x.row, acc⟩ : Ent)]).filter nzB = pre.filter nzB ++ [⟨x.row, acc⟩] := by rw [List.filter_append]; simp [nzB, hz0]
       have hFl : ((pre ++ [(⟨x.row, acc⟩ : Ent)]).filter nzB).length = (pre.filter nzB).length + 1 := by rw [hF, List.length_append]; rfl
       conv => whnf
       refine ⟨S.length - k, by omega, Gp.two 0 1 (by decide) 2 2 (eC S) (eC ((pre ++ [(⟨x.row, acc⟩ : Ent)]).filter nzB)) rfl (by rw [hF]; rfl) (pureEs_eC _) (pureEs_eC _) rfl ?_ fun ρ2 h => .inl ⟨k, pre ++ [⟨x.row, acc⟩], by omega, hN, hPN, by simp; omega, rfl, h⟩⟩
       exact ⟨pubSl (k := 0) rfl rfl rfl rfl, pubSl (k := 1) rfl rfl hFl.symm hFl.symm, .closed _ rfl, .closed _ rfl, trivial⟩
    ·simp at hkl
     have hik : i < k ∧ grpL (S.drop i) = grpA ⟨x.row, acc⟩ (S.drop k) := by
      rcases hc with ⟨h1, h2⟩ | h
      ·omega
      ·exact h
     have hend := hik.2.trans (grpA_end (.inl hkl))
     conv => whnf
     have hN : grpL S = (pre ++ [⟨x.row, acc⟩]) ++ grpL (S.drop k) := by rw [hG, hend, List.append_assoc]; rfl
     (conv => whnf); refine recT (by rw [eC_length]; exact Nat.beq_refl _) ?_
     (conv => whnf); refine And.intro (by omega) ?_
     (conv => whnf); refine recT (by rw [eC_length]; exact Nat.beq_refl _) ?_
     (conv => whnf); refine recO (eC_at0 hx) ?_
     (conv => whnf); refine ACalls.mono (put1_spec F.z04 (.arr 2 (eC S)) false (pre.filter nzB) (by omega) x.row (by omega) acc) ?_
     rintro r H1 (⟨hsm, rfl, rfl⟩ | ⟨hsm, hz0, rfl, rfl⟩ | ⟨hsm, hz0, rfl, rfl⟩)
     ·conv => whnf
      refine ⟨m - 1, by omega, Gp.one 0 2 (eC S) rfl (pureEs_eC _) rfl ?_ fun ρ2 h => .inr ⟨k, by rw [hN]; simp [hsm], by omega, rfl, h⟩⟩
      exact ⟨pubSl (k := 0) rfl rfl rfl rfl, .closed _ rfl, .closed _ rfl, .closed _ rfl, trivial⟩
     ·have hPN : ((pre ++ [(⟨x.row, acc⟩ : Ent)]).all fun e => smallB e.cnt) = true := by rw [List.all_append, hP]; simp [hsm]
      have hF : (pre ++ [(⟨x.row, acc⟩ : Ent)]).filter nzB = pre.filter nzB := by rw [List.filter_append]; simp [nzB, hz0]
      conv => whnf
      refine ⟨S.length - k, by omega, Gp.two 0 1 (by decide) 2 2 (eC S) (eC ((pre ++ [(⟨x.row, acc⟩ : Ent)]).filter nzB)) rfl (by rw [hF]; rfl) (pureEs_eC _) (pureEs_eC _) rfl ?_ fun ρ2 h => .inl ⟨k, pre ++ [⟨x.row, acc⟩], by omega, hN, hPN, by simp; omega, rfl, h⟩⟩
      exact ⟨pubSl (k := 0) rfl rfl rfl rfl, by rw [hF]; exact pubSl (k := 1) rfl rfl rfl rfl, .closed _ rfl, .closed _ rfl, trivial⟩
     ·have hPN : ((pre ++ [(⟨x.row, acc⟩ : Ent)]).all fun e => smallB e.cnt) = true := by rw [List.all_append, hP]; simp [hsm]
      have hF : (pre ++ [(⟨x.row, acc⟩ : Ent)]).filter nzB = pre.filter nzB ++ [⟨x.row, acc⟩] := by rw [List.filter_append]; simp [nzB, hz0]
      have hFl : ((pre ++ [(⟨x.row, acc⟩ : Ent)]).filter nzB).length = (pre.filter nzB).length + 1 := by rw [hF, List.length_append]; rfl
      conv => whnf
      refine ⟨S.length - k, by omega, Gp.two 0 1 (by decide) 2 2 (eC S) (eC ((pre ++ [(⟨x.row, acc⟩ : Ent)]).filter nzB)) rfl (by rw [hF]; rfl) (pureEs_eC _) (pureEs_eC _) rfl ?_ fun ρ2 h => .inl ⟨k, pre ++ [⟨x.row, acc⟩], by omega, hN, hPN, by simp; omega, rfl, h⟩⟩
      exact ⟨pubSl (k := 0) rfl rfl rfl rfl, pubSl (k := 1) rfl rfl hFl.symm hFl.symm, .closed _ rfl, .closed _ rfl, trivial⟩
   ·simp at hlt
    have hi : S.drop i = [] := List.drop_of_length_le hlt
    rw [hi] at hG
    have hGG : grpL S = pre := by rw [hG]; simp [grpL]
    conv => whnf
    refine (done1_spec F.z02 _ (pre.filter nzB)).mono ?_
    rintro r H1 ⟨rfl, ⟨h, rfl⟩ | ⟨h, rfl⟩⟩
    ·conv => whnf
     rw [hGG, resR, if_neg (by omega)]
     exact pub2 (.closed _ rfl) (.closed _ rfl)
    ·conv => whnf
     rw [hGG, resR, if_pos ⟨hP, h⟩]
     exact pub2 (pubF rfl (eC_length _).symm (eC_length _).symm (pureEs_eC _)) (.closed _ rfl)
  ·(conv => whnf); refine recT (by rw [eC_length]; exact Nat.beq_refl _) ?_
   (conv => whnf); refine recA (fun hlt => ?_) (fun hlt => ?_)
   all_goals
    conv => whnf
    rw [resR_bad _ hbad]
    exact pub2 (.closed _ rfl) (.closed _ rfl)

end Go.AW

namespace Go.AW
variable [Draws]
attribute [local irreducible] ACalls
theorem mrg_bnd {A B : Int} (hA0 : 0 ≤ A) (hB0 : 0 ≤ B) : ∀ (a b : List Ent), (∀ e ∈ a, EntB A e) → (∀ e ∈ b, EntB B e) → ∀ e ∈ mrg a b, EntB (A + B) e
 | [], b, ha, hb, e, he => by
  rw [mrg_nil] at he
  obtain ⟨h1, h2, h3⟩ := hb e he
  exact ⟨h1, by omega, by omega⟩
 | x :: a, [], ha, hb, e, he => by
  rw [mrg_nil2] at he
  obtain ⟨h1, h2, h3⟩ := ha e he
  exact ⟨h1, by omega, by omega⟩
 | x :: a, y :: b, ha, hb, e, he => by
  obtain ⟨h1, h2, h3⟩ := ha x (List.mem_cons_self ..)
  obtain ⟨k1, k2, k3⟩ := hb y (List.mem_cons_self ..)
  have ha' : ∀ e ∈ a, EntB A e := fun e h => ha e (List.mem_cons_of_mem _ h)
  have hb' : ∀ e ∈ b, EntB B e := fun e h => hb e (List.mem_cons_of_mem _ h)
  rw [mrg_cons] at he
  split at he
  ·rcases List.mem_cons.1 he with rfl | he
   ·exact ⟨h1, by omega, by omega⟩
   ·exact mrg_bnd hA0 hB0 a (y :: b) ha' hb e he
  split at he
  ·rcases List.mem_cons.1 he with rfl | he
   ·exact ⟨k1, by omega, by omega⟩
   ·exact mrg_bnd hA0 hB0 (x :: a) b ha hb' e he
  ·rcases List.mem_cons.1 he with rfl | he
   ·exact ⟨h1, by simp only []; omega, by simp only []; omega⟩
   ·exact mrg_bnd hA0 hB0 a b ha' hb' e he
termination_by a b => a.length + b.length

theorem entB_mono {A B : Int} (h : A ≤ B) {e : Ent} (he : EntB A e) : EntB B e := ⟨he.1, by have := he.2.1; omega, by have := he.2.2; omega⟩

theorem srtM_bnd : ∀ (n : Nat) (l : List Ent), (∀ e ∈ l, EntOk e) → ∀ e ∈ srtM n l, EntB (65536 * (l.length : Int)) e
 | 0, l, h, e, he => by
  rw [srtM] at he
  have := List.length_pos_of_mem he
  exact entB_mono (A := 65536) (by omega) (h e he)
 | n + 1, l, h, e, he => by
  rw [srtM] at he
  split at he
  ·have := List.length_pos_of_mem he
   exact entB_mono (A := 65536) (by omega) (h e he)
  ·refine entB_mono ?_ (mrg_bnd (by omega) (by omega) _ _ (srtM_bnd n _ fun e h1 => h e (List.mem_of_mem_take h1)) (srtM_bnd n _ fun e h1 => h e (List.mem_of_mem_drop h1)) e he)
   rw [List.length_take, List.length_drop]; omega

theorem srtM_length : ∀ (n : Nat) (l : List Ent), (srtM n l).length ≤ l.length
 | 0, l => Nat.le_refl _
 | n + 1, l => by
  rw [srtM]
  split
  ·exact Nat.le_refl _
  ·have h := mrg_length (srtM n (l.take (l.length / 2))) (srtM n (l.drop (l.length / 2)))
   have h1 := srtM_length n (l.take (l.length / 2))
   have h2 := srtM_length n (l.drop (l.length / 2))
   rw [List.length_take] at h1
   rw [List.length_drop] at h2
   omega

set_option maxRecDepth 20000 in
theorem ref6_sorted_spec {P : Program} (F : F_z3i P) : ∀ (n : Nat) (ex : Bool) (l : List Ent), l.length ≤ n → l.length ≤ 100000 → (∀ e ∈ l, EntOk e) → ∀ (H : List AObj),
  ACalls P F.id [.list ex 2 (eC l)] H (fun r H' => r = .list false 2 (eC (srtM n l)) ∧ H' = H) := by
 intro n
 induction n with
 | zero =>
  intro ex l hl _ hE H
  have : l = [] := List.length_eq_zero_iff.1 (by omega)
  subst this
  refine ACalls.pure rfl (acalls_of_body F.has ?_)
  (conv => whnf); refine And.intro (by decide) ?_
  conv => whnf
  exact pubF rfl rfl rfl rfl
 | succ n ih =>
  intro ex l hl hl2 hE H
  refine ACalls.pure (by simp [AVal.closed, AVal.isPure]) (acalls_of_body F.has ?_)
  (conv => whnf); refine recA (fun h => ?_) (fun h => ?_)
  ·simp [eC_length] at h
   (conv => whnf); refine And.intro (⟨roomMul (by simp [eC_length]; omega) (by omega), roomB_le (by simp [eC_length]; omega)⟩) ?_
   conv => whnf
   rw [srtM, if_pos (by omega)]
   exact pubF rfl rfl rfl (pureEs_eC _)
  ·simp [eC_length] at h
   have ew : IntKind.i64.wrap (((eC l).length : Int).tdiv 2) = ((l.length / 2 : Nat) : Int) := by
    rw [eC_length, Int.tdiv_eq_ediv_of_nonneg (by omega), wrapI _ (by omega) (by omega)]; omega
   have es1 : List.drop 0 (List.take (IntKind.i64.wrap (((eC l).length : Int).tdiv 2)).toNat (eC l)) = eC (l.take (l.length / 2)) := by rw [ew, Int.toNat_natCast, List.drop_zero, eC, eC, List.map_take]
   have es2 : List.drop (IntKind.i64.wrap (((eC l).length : Int).tdiv 2)).toNat (List.take (eC l).length (eC l)) = eC (l.drop (l.length / 2)) := by rw [ew, Int.toNat_natCast, List.take_length, eC, eC, List.map_drop]
   (conv => whnf); refine And.intro (by decide) ?_
   (conv => whnf); refine And.intro (⟨by rw [ew]; omega, by rw [ew, eC_length]; omega⟩) ?_
   conv => whnf
   rw [es1]
   (conv => whnf); refine ⟨_, ih _ (l.take (l.length / 2)) (by rw [List.length_take]; omega) (by rw [List.length_take]; omega) (fun e h => hE e (List.mem_of_mem_take h)) _, ?_⟩
   (conv => whnf); refine And.intro (by decide) ?_
   (conv => whnf); refine And.intro (⟨by rw [ew]; omega, by rw [ew, eC_length]; omega⟩) ?_
   conv => whnf
   rw [es2]
   (conv => whnf); refine ⟨_, ih _ (l.drop (l.length / 2)) (by rw [List.length_drop]; omega) (by rw [List.length_drop]; omega) (fun e h => hE e (List.mem_of_mem_drop h)) _, ?_⟩
   have b1 := srtM_bnd n (l.take (l.length / 2)) fun e h => hE e (List.mem_of_mem_take h)
   have b2 := srtM_bnd n (l.drop (l.length / 2)) fun e h => hE e (List.mem_of_mem_drop h)
   have c1 := srtM_length n (l.take (l.length / 2))
   have c2 := srtM_length n (l.drop (l.length / 2))
   rw [List.length_take] at b1 c1
   rw [List.length_drop] at b2 c2
   (conv => whnf); refine ⟨_, ref6_mergeB_spec F.z3f (B := 65536 * 100000) (by decide) false false _ _ (by omega) (by omega) (fun e h => entB_mono (by omega) (b1 e h)) (fun e h => entB_mono (by omega) (b2 e h)) _, ?_⟩
   conv => whnf
   rw [srtM, if_neg (by omega)]
   exact .closed _ (by simp [AVal.closed, AVal.isPure])

set_option maxRecDepth 20000 in
theorem ref6_Sum_spec {P : Program} (F : F_z3d P) (ex : Bool) (l : List Ent) (hl : l.length ≤ 100000) (hE : ∀ e ∈ l, EntOk e) (H : List AObj) :
  ACalls P F.id [.list ex 2 (eC l)] H (fun r H' => r = resR (srtM l.length l) ∧ H' = H) := by
 refine ACalls.pure (by simp [AVal.closed, AVal.isPure]) (acalls_of_body F.has ?_)
 (conv => whnf); refine ACalls.use (ref6_sorted_spec F.z3i l.length ex l (Nat.le_refl _) hl hE _) ?_
 have hb := srtM_bnd l.length l hE
 have hc := srtM_length l.length l
 (conv => whnf); refine ACalls.use (ref6_result_spec F.z3g false (srtM l.length l) (by omega) (fun e h => by have := (hb e h).1; omega) _) ?_
 rcases resR_cases (srtM l.length l) with h | h
 all_goals
  rw [h]
  conv => whnf
  exact pub2 (.closed _ rfl) (.closed _ rfl)

def frmE : List Ent → Int
 | [] => 0
 | e :: l => if fitB e ≠ 0 then fitB e else frmE l

def norR (l : List Ent) : AVal := if frmE l ≠ 0 then .tuple [.nil, .int .i64 (frmE l)] else resR (srtM l.length l)

theorem frmE_ok : ∀ (l : List Ent), frmE l = 0 → ∀ e ∈ l, fitB e = 0
 | [], _, e, he => by cases he
 | x :: l, h, e, he => by
  rw [frmE] at h
  by_cases hx : fitB x = 0
  ·rw [if_neg (by simp [hx])] at h
   rcases List.mem_cons.1 he with rfl | he
   ·exact hx
   ·exact frmE_ok l h e he
  ·rw [if_pos hx] at h; exact absurd h hx

theorem fit_ok {e : Ent} (h : fitB e = 0) : EntOk e := by
 obtain ⟨h1, h2, h3, _⟩ := fitB_zero e h
 exact ⟨h1, h2, h3⟩

set_option maxRecDepth 20000 in
theorem ref6_Normalize_spec {P : Program} (F : F_z3c P) (ex : Bool) (l : List Ent) (hl : l.length ≤ 100000) (H : List AObj) :
  ACalls P F.id [.list ex 2 (eC l)] H (fun r H' => r = norR l ∧ H' = H) := by
 refine ACalls.pure (by simp [AVal.closed, AVal.isPure]) (acalls_of_body F.has ?_)
 conv => whnf
 refine ⟨fun m ρ H1 => ∃ k : Nat, k + m = l.length ∧ frmE l = frmE (l.drop k) ∧ H1 = [] ∧ Sv 24 [(0, .list ex 2 (eC l)), (4, .int .i64 k)] ρ, l.length, [], ?_, ?_⟩
 ·exact ⟨0, by omega, rfl, rfl, Sv.intro rfl ⟨rfl, rfl, trivial⟩⟩
 rintro m ρ H1 ⟨k, hk, hr, rfl, d, rfl⟩
 (conv => whnf); refine recA (fun hlt => ?_) (fun hlt => ?_)
 ·simp [eC_length] at hlt
  have hx : l[k]? = some l[k] := List.getElem?_eq_getElem hlt
  rw [List.drop_eq_getElem_cons hlt, frmE] at hr
  (conv => whnf); refine And.intro (by omega) ?_
  (conv => whnf); refine recO (eC_at hx) ?_
  (conv => whnf); refine ACalls.use (fits_spec F.z3e l[k] _) ?_
  (conv => whnf); refine recA (fun h1 => ?_) (fun h1 => ?_)
  ·replace h1 : (!(fitB l[k] == 0)) = true := h1
   have h2 : fitB l[k] ≠ 0 := by simpa using h1
   rw [if_pos h2] at hr
   conv => whnf
   rw [norR, hr, if_pos h2]
   exact pub2 (.closed _ rfl) (.closed _ rfl)
  ·replace h1 : (!(fitB l[k] == 0)) = false := h1
   have h2 : fitB l[k] = 0 := by simpa using h1
   rw [if_neg (by simp [h2])] at hr
   conv => whnf
   refine ⟨m - 1, by omega, Gp.keep rfl ?_ fun ρ1 h => ⟨k + 1, by omega, hr, rfl, h⟩⟩
   exact ⟨rfl, intEq (wrapI _ (by omega) (by omega)), trivial⟩
 ·simp [eC_length] at hlt
  rw [List.drop_of_length_le (by omega), frmE] at hr
  (conv => whnf); refine ACalls.use (ref6_Sum_spec F.z3d ex l hl (fun e h => fit_ok (frmE_ok l hr e h)) _) ?_
  rw [norR, if_neg (by simp [hr])]
  rcases resR_cases (srtM l.length l) with h | h
  all_goals
   rw [h]
   conv => whnf
   exact pub2 (.closed _ rfl) (.closed _ rfl)

set_option maxRecDepth 20000 in
theorem bag_Normalize_spec {P : Program} (F : F_z00 P) (hS : SortE P F.z05.z1b.id F.z05.z06.id) (ex : Bool) (l : List Ent) (hl : l.length ≤ 100000) (H : List AObj) :
  ACalls P F.id [.list ex 2 (eC l)] H (fun r H' => r = norR l ∧ H' = H) := by
 refine ACalls.pure (by simp [AVal.closed, AVal.isPure]) (acalls_of_body F.has ?_)
 conv => whnf
 refine ⟨fun m ρ H1 => ∃ k : Nat, k + m = l.length ∧ frmE l = frmE (l.drop k) ∧ H1 = [] ∧ Sv 23 [(0, .list ex 2 (eC l)), (7, .list ex 2 (eC l)), (8, .int .i64 l.length), (9, .int .i64 k)] ρ, l.length, [], ?_, ?_⟩
 ·exact ⟨0, by omega, rfl, rfl, Sv.intro rfl ⟨rfl, rfl, intEq (by rw [eC_length]), rfl, trivial⟩⟩
 rintro m ρ H1 ⟨k, hk, hr, rfl, d, rfl⟩
 (conv => whnf); refine recA (fun hlt => ?_) (fun hlt => ?_)
 ·simp at hlt
  have hx : l[k]? = some l[k] := List.getElem?_eq_getElem hlt
  rw [List.drop_eq_getElem_cons hlt, frmE] at hr
  (conv => whnf); refine And.intro (by omega) ?_
  (conv => whnf); refine recO (eC_at hx) ?_
  (conv => whnf); refine ACalls.use (formed_spec F.z03 l[k] _) ?_
  (conv => whnf); refine recA (fun h1 => ?_) (fun h1 => ?_)
  ·replace h1 : (!(fitB l[k] == 0)) = true := h1
   have h2 : fitB l[k] ≠ 0 := by simpa using h1
   rw [if_pos h2] at hr
   conv => whnf
   rw [norR, hr, if_pos h2]
   exact pub2 (.closed _ rfl) (.closed _ rfl)
  ·replace h1 : (!(fitB l[k] == 0)) = false := h1
   have h2 : fitB l[k] = 0 := by simpa using h1
   rw [if_neg (by simp [h2])] at hr
   conv => whnf
   refine ⟨m - 1, by omega, Gp.none rfl ?_ fun ρ1 h => ⟨k + 1, by omega, hr, rfl, h⟩⟩
   exact ⟨.closed (.list ex 2 (eC l)) rfl, .closed (.list ex 2 (eC l)) rfl, .closed _ rfl, pub_int (wrapI _ (by omega) (by omega)), trivial⟩
 ·simp at hlt
  rw [List.drop_of_length_le (by omega), frmE] at hr
  (conv => whnf); refine ACalls.use (bag_sum_spec F.z05 hS ex l hl (fun e h => fit_ok (frmE_ok l hr e h)) _) ?_
  rw [norR, if_neg (by simp [hr])]
  rcases resR_cases (srtM l.length l) with h | h
  all_goals
   rw [h]
   conv => whnf
   exact pub2 (.closed _ rfl) (.closed _ rfl)

end Go.AW

namespace Go.AW
variable [Draws]
attribute [local irreducible] ACalls
def mx0 (l : List Ent) : List Ent := l.map fun e => ⟨e.row, max 0 e.cnt⟩

end Go.AW

namespace Go.AW
variable [Draws]
attribute [local irreducible] ACalls
def lx (M : List Ent) (k : Nat) : List Ent := mx0 (M.take k) ++ M.drop k

end Go.AW

namespace Go.AW
variable [Draws]
attribute [local irreducible] ACalls
instance lawfulBytes : LawfulBEq ByteArray where
 rfl {a} := by rw [beq_bytes]; simp
 eq_of_beq {a b} h := by
  rw [beq_bytes] at h
  obtain ⟨⟨a⟩⟩ := a
  obtain ⟨⟨b⟩⟩ := b
  simp at h
  subst h; rfl

end Go.AW

namespace Go.AW
variable [Draws]
attribute [local irreducible] ACalls
theorem CloneV_own {P : Program} (F : F_z13 P) (ex : Bool) (cs : List V) (hl : cs.length ≤ 1000000) (H : List AObj) :
  ACalls P F.id [.list ex 3 (vC cs)] H (fun r H' => (r = .nil ∧ cs = [] ∧ H' = H) ∨ (r = .sl H.length cs.length 0 cs.length ∧ H' = H ++ [.arr 3 (vC cs)])) := by
 have h0 : ACalls P F.id [.list ex 3 (vC cs)] [] (fun r H1 => (r = .nil ∧ cs = [] ∧ H1 = []) ∨ (r = .sl 0 cs.length 0 cs.length ∧ H1 = [.arr 3 (vC cs)])) := by
  refine acalls_of_body F.has ?_
  conv => whnf
  refine And.intro (fun h => ?_) ?_
  ·conv => whnf
   exact .inl ⟨rfl, by simpa [vC] using h, rfl⟩
  ·conv => whnf
   refine And.intro ⟨roomMul (by simp [vC_length]; omega) (by omega), roomB_le (by simp [vC_length]; omega), .inr rfl⟩ ?_
   conv => whnf
   have key : List.replicate 0 [AVal.int .i64 0, .int .i64 0, .str (bs [])] ++ vC cs = vC cs := by simp
   have kl : (List.replicate 0 [AVal.int .i64 0, .int .i64 0, .str (bs [])] ++ vC cs).length = cs.length := by rw [key, vC_length]
   refine .inr ⟨slEq kl kl, ?_⟩
   show [AObj.arr 3 (List.replicate 0 [AVal.int .i64 0, .int .i64 0, .str (bs [])] ++ vC cs)] = _
   rw [key]
 refine ACalls.lift (by simp [AVal.closed, AVal.isPure]) h0 ?_
 rintro r H1 (⟨rfl, h1, rfl⟩ | ⟨rfl, rfl⟩)
 ·exact ⟨[], .nil, [], .closed _ rfl, List.nodup_nil, rfl, fun k id h => by simp at h, .inl ⟨rfl, h1, by simp⟩⟩
 ·exact ⟨[0], _, [.arr 3 (vC cs)], pubSl (k := 0) rfl (Nat.add_zero _).symm rfl rfl, by simp, rfl, fun k id hk => by
   cases k with
   | zero => simp at hk; subst hk; exact ⟨rfl, 3, _, rfl, pureEs_vC _⟩
   | succ k => simp at hk, .inr ⟨rfl, rfl⟩⟩

theorem obPushI (O : List Ent) (row : List V) (c : Int) (n id : Nat) (ids : List Nat) (H : List AObj) (hid : id ∉ ids) (h1 : H[id]? = some (.arr 3 (vC row))) (hn : n = row.length) :
  ObP H ids (.arr 2 (eC O ++ [[.sl id n 0 n, .int .i64 c]])) (.arr 2 (eC (O ++ [⟨row, c⟩]))) := by
 have hp : Pub H 0 ids (.sl id n 0 n) (.list false 3 (vC row)) := by
  have h := Pub.frz (n := 0) (ids := ids) id (vC row).length 0 (vC row).length 3 (vC row) h1 rfl (pureEs_vC _) hid
  rw [List.drop_zero, List.take_length, vC_length, ← hn] at h
  exact h
 rw [eC_append]
 refine .map 2 _ _ (by simp [eC]) (fun i e e1 h1 h2 => ?_) (fun i j e e1 d d1 h1 h2 h3 h4 => ?_)
 ·by_cases hi : i < (eC O).length
  ·rw [List.getElem?_append_left hi] at h1 h2
   rw [h1] at h2; cases h2; rfl
  ·rw [List.getElem?_append_right (by omega)] at h1 h2
   rcases hk : i - (eC O).length with _ | q
   ·rw [hk] at h1 h2
    cases h1; cases h2; rfl
   ·rw [hk] at h1; simp at h1
 ·by_cases hi : i < (eC O).length
  ·rw [List.getElem?_append_left hi] at h1 h2
   rw [h1] at h2; cases h2
   rw [h3] at h4; cases h4
   have := pureEs_get (pureEs_eC O) h1 h3
   exact ⟨.closed _ (by cases d <;> first | rfl | exact this | (simp [AVal.isPure] at this)), AVal.isCell_of_isPure this⟩
  ·rw [List.getElem?_append_right (by omega)] at h1 h2
   rcases hk : i - (eC O).length with _ | q
   ·rw [hk] at h1 h2
    cases h1; cases h2
    rcases j with _ | _ | j
    ·cases h3; cases h4; exact ⟨hp, rfl⟩
    ·cases h3; cases h4; exact ⟨.closed _ rfl, rfl⟩
    ·simp at h3
   ·rw [hk] at h1; simp at h1

end Go.AW

namespace Go.AW
variable [Draws]
attribute [local irreducible] ACalls
theorem pubFxH {H1 : List AObj} {n : Nat} {id ep len sz : Nat} {es es' : List (List AVal)} (ho : H1[id]? = some (.arr sz es')) (hx : es' = es) (he : ep = es.length) (hl : len = es.length) (hp : pureEs es = true) : Pub H1 n [] (.sl id ep 0 len) (.list false sz es) := by
 subst hx; exact pubF ho he hl hp

theorem CloneC_own {P : Program} (F : F_z11 P) (ex : Bool) (cs : List Col) (h0 : cs ≠ []) (hl : cs.length ≤ 1000000) (H : List AObj) :
  ACalls P F.id [.list ex 3 (cC cs)] H (fun r H' => r = .sl H.length cs.length 0 cs.length ∧ H' = H ++ [.arr 3 (cC cs)]) := by
 refine ACalls.lift (by simp [AVal.closed, AVal.isPure]) (Clone_raw F ex cs hl) ?_
 rintro r H1 (⟨rfl, h1, rfl⟩ | ⟨rfl, rfl⟩)
 ·exact absurd h1 h0
 ·exact ⟨[0], _, [.arr 3 (cC cs)], pubSl (k := 0) rfl (Nat.add_zero _).symm rfl rfl, by simp, rfl, fun k id hk => by
   cases k with
   | zero => simp at hk; subst hk; exact ⟨rfl, 3, _, rfl, pureEs_cC _⟩
   | succ k => simp at hk, rfl, rfl⟩

set_option maxRecDepth 20000 in
theorem IndexFuncS_spec {P : Program} (F : F_z19 P) (g : FuncId) (caps : List AVal) (p : ByteArray → Bool) (H : List AObj) (hg : ∀ c : ByteArray, ACalls P g ([.str c] ++ caps) H (fun r H' => r = .bool (p c) ∧ H' = H))
  (ex : Bool) (cs : List ByteArray) (hl : cs.length ≤ 1000000) :
  ACalls P F.id [.list ex 1 (sC cs), .fn g caps] H (fun r H' => r = .int .i64 (idxOf p cs 0) ∧ H' = H) := by
 refine acalls_of_body F.has ?_
 conv => whnf
 refine ⟨fun m ρ H1 => ∃ k : Nat, k + m = cs.length ∧ idxOf p (cs.drop k) k = idxOf p cs 0 ∧ H1 = H ∧
  Sv 19 [(0, .list ex 1 (sC cs)), (1, .fn g caps), (7, .int .i64 cs.length), (8, .int .i64 k)] ρ, cs.length, [], ?_, ?_⟩
 ·exact ⟨0, by omega, rfl, rfl, Sv.intro rfl ⟨rfl, rfl, intEq (by rw [sC_length]), rfl, trivial⟩⟩
 rintro m ρ H1 ⟨k, hk, hr, rfl, d, rfl⟩
 (conv => whnf); refine recA (fun hlt => ?_) (fun hlt => ?_)
 ·simp at hlt
  obtain ⟨c, hc, hd, _⟩ := get_drop hlt
  rw [hd] at hr
  (conv => whnf); refine And.intro (by omega) ?_
  (conv => whnf); refine recO (sC_at hc) ?_
  (conv => whnf); refine ACalls.use (hg c) ?_
  (conv => whnf); refine recA (fun hp => ?_) (fun hp => ?_)
  ·conv => whnf
   refine ⟨intEq ?_, rfl⟩
   rw [← hr, idxOf, if_pos (show p c = true from hp)]
  ·conv => whnf
   refine ⟨m - 1, by omega, Gp.keep rfl ?_ fun ρ1 h => ⟨k + 1, by omega, ?_, rfl, h⟩⟩
   ·exact ⟨rfl, rfl, rfl, intEq (wrapI ((k : Int) + 1) (by omega) (by omega)), trivial⟩
   ·rw [← hr, idxOf, if_neg (by rw [show p c = false from hp]; simp)]; rfl
 ·simp at hlt
  conv => whnf
  rw [List.drop_eq_nil_of_le hlt] at hr
  exact ⟨intEq hr, rfl⟩

theorem ContainsFuncS_spec {P : Program} (F : F_z16 P) (g : FuncId) (caps : List AVal) (p : ByteArray → Bool) (H : List AObj) (hg : ∀ c : ByteArray, ACalls P g ([.str c] ++ caps) H (fun r H' => r = .bool (p c) ∧ H' = H))
  (ex : Bool) (cs : List ByteArray) (hl : cs.length ≤ 1000000) :
  ACalls P F.id [.list ex 1 (sC cs), .fn g caps] H (fun r H' => r = .bool (cs.any p) ∧ H' = H) := by
 refine acalls_of_body F.has ?_
 (conv => whnf); refine ACalls.use (IndexFuncS_spec F.z19 g caps p H hg ex cs hl) ?_
 conv => whnf
 refine ⟨?_, rfl⟩
 have h := idxOf_any p cs 0 (Int.le_refl _)
 congr 1
 rw [Bool.eq_iff_iff, ← h]; simp

def vfrom : ByteArray := bs [118, 97, 108, 105, 100, 95, 102, 114, 111, 109]

def vto : ByteArray := bs [118, 97, 108, 105, 100, 95, 116, 111]

def hcols (s : Sou) : List Col := s.cols ++ [⟨vfrom, 4, false⟩, ⟨vto, 4, true⟩]

structure Sou.good (s : Sou) : Prop where
 vld : vldC s.cols = 0
 at0 : 0 ≤ colIdx s.cols s.att
 keys : s.key.any (fun n => decide (colIdx s.cols n < 0)) = false
 kind : ∃ c, s.cols[(colIdx s.cols s.att).toNat]? = some c ∧ c.kind = 4 ∧ c.nul = false
 ten : s.cols.length ≤ 10
 vf : colIdx s.cols vfrom < 0
 vt : colIdx s.cols vto < 0
 klen : s.key.length ≤ 1000

theorem Sou.good.ok {s : Sou} (h : s.good) : s.ok := ⟨by have := h.ten; omega, h.klen⟩

theorem Sou.good.ne {s : Sou} (h : s.good) : s.cols ≠ [] := by
 intro e
 have := h.vld
 rw [e] at this
 simp [vldC] at this

set_option maxRecDepth 20000 in
theorem hColumns_1_spec {P : Program} (F : F_z0i P) (s : Sou) (hs : s.ok) (n : ByteArray) :
  ACalls P F.id [.str n, .ptr 0 1 0 0] [.arr 7 [souC s]] (fun r H' => r = .bool (decide (colIdx s.cols n < 0)) ∧ H' = [.arr 7 [souC s]]) := by
 refine acalls_of_body F.has ?_
 (conv => whnf); refine ACalls.use (schema_Index_spec F.z0w false s.cols (by have := hs.1; omega) n _) ?_
 conv => whnf
 exact ⟨rfl, rfl⟩

set_option maxHeartbeats 1000000 in
set_option maxRecDepth 20000 in
theorem hColumns_spec {P : Program} (F : F_z0h P) (s : Sou) (hs : s.good) (H : List AObj) :
  ACalls P F.id [.agg (souC s)] H (fun r H' => r = .tuple [.list false 3 (cC (hcols s)), .int .i64 0] ∧ H' = H) := by
 have hok := hs.ok
 have hlen := hs.ten
 have hlt := colIdx_lt s.cols s.att hs.at0
 obtain ⟨c, hc, hk, hn⟩ := hs.kind
 refine ACalls.pure (by simp [souC_closed]) (acalls_of_body F.has ?_)
 (conv => whnf); refine ACalls.use (schema_Validate_spec F.z10 false s.cols (by omega) _) ?_
 (conv => whnf); refine recF (by rw [hs.vld]; rfl) ?_
 (conv => whnf); refine ACalls.use (schema_Index_spec F.z0w false s.cols (by omega) s.att _) ?_
 (conv => whnf); refine recF (by have := hs.at0; simp; omega) ?_
 (conv => whnf); refine ACalls.use (ContainsFuncS_spec F.z16 F.z0i.id [.ptr 0 1 0 0] (fun n => decide (colIdx s.cols n < 0)) [.arr 7 [souC s]] (fun n => hColumns_1_spec F.z0i s hok n) false s.key (by have := hs.klen; omega)) ?_
 (conv => whnf); refine recF (hs.keys) ?_
 (conv => whnf); refine And.intro (hs.at0) ?_
 (conv => whnf); refine recO (cC_at hc) ?_
 (conv => whnf); refine recF (by rw [hk]; rfl) ?_
 (conv => whnf); refine And.intro (hs.at0) ?_
 (conv => whnf); refine recO (cC_at hc) ?_
 (conv => whnf); refine recF (hn) ?_
 (conv => whnf); refine recF (by rw [cC_length]; simp; omega) ?_
 (conv => whnf); refine ACalls.use (schema_Index_spec F.z0w false s.cols (by omega) vfrom _) ?_
 (conv => whnf); refine recF (by have := hs.vf; simp; omega) ?_
 (conv => whnf); refine ACalls.use (schema_Index_spec F.z0w false s.cols (by omega) vto _) ?_
 (conv => whnf); refine recF (by have := hs.vt; simp; omega) ?_
 (conv => whnf); refine ACalls.mono (CloneC_own F.z11 false s.cols hs.ne (by omega) _) ?_
 rintro r H' ⟨rfl, rfl⟩
 (conv => whnf); refine recT (by rw [cC_length]; exact Nat.beq_refl _) ?_
 (conv => whnf); refine And.intro (⟨roomMul (by simp; omega) (by omega), roomB_le (by simp; omega), rfl, by rw [cC_length]⟩) ?_
 conv => whnf
 have hcn : cC s.cols ++ [colC ⟨vfrom, 4, false⟩, colC ⟨vto, 4, true⟩] = cC (hcols s) := by rw [hcols, cC_append]; rfl
 have hl2 := congrArg List.length hcn
 refine pub2 (pubFxH (es := cC (hcols s)) (es' := cC s.cols ++ [colC ⟨vfrom, 4, false⟩, colC ⟨vto, 4, true⟩]) rfl hcn hl2 hl2 (pureEs_cC _)) (.closed _ rfl)

end Go.AW

namespace Go.AW
variable [Draws]
attribute [local irreducible] ACalls
theorem blk_eq {α : Type} {L X M Y R : List α} {k : Nat} {x y : α} (hx : X[k]? = some x) (hy : Y[k]? = some y) :
  L ++ (Y.take k ++ X.drop k) ++ M ++ (X.take k ++ Y.drop k) ++ R = (L ++ Y.take k) ++ x :: ((X.drop (k + 1) ++ M ++ X.take k) ++ y :: (Y.drop (k + 1) ++ R)) := by
 rw [drop_cons hx, drop_cons hy]; simp

theorem blk_eq2 {α : Type} {L X M Y R : List α} {k : Nat} {x y : α} (hx : X[k]? = some x) (hy : Y[k]? = some y) :
  L ++ (Y.take (k + 1) ++ X.drop (k + 1)) ++ M ++ (X.take (k + 1) ++ Y.drop (k + 1)) ++ R = (L ++ Y.take k) ++ y :: ((X.drop (k + 1) ++ M ++ X.take k) ++ x :: (Y.drop (k + 1) ++ R)) := by
 rw [take_snoc hx, take_snoc hy]; simp

set_option maxHeartbeats 1000000 in
set_option maxRecDepth 20000 in
theorem swapRange_spec {P : Program} (F : F_z1i P) {H : List AObj} {i0 : Nat} (hi0 : i0 < H.length) (f : AVal) (L X M Y R : List Ver) {a b n d : Nat} (ha : a = L.length) (hn : n = X.length) (hn2 : n = Y.length) (hb : b = L.length + X.length + M.length)
  (hd : d = (L ++ X ++ M ++ Y ++ R).length) (hmax : d ≤ 1000000) :
  ACalls P F.id [.sl i0 d 0 d, .int .i64 a, .int .i64 b, .int .i64 n, f] (H.set i0 (vO (L ++ X ++ M ++ Y ++ R))) (fun r H' => r = .tuple [] ∧ H' = H.set i0 (vO (L ++ Y ++ M ++ X ++ R))) := by
 simp only [List.length_append] at hd
 refine acalls_of_body F.has ?_
 conv => whnf
 refine ⟨fun m ρ H1 => ∃ k : Nat, k + m = n ∧ H1 = H.set i0 (vO (L ++ (Y.take k ++ X.drop k) ++ M ++ (X.take k ++ Y.drop k) ++ R)) ∧ Sv 38 [(0, .sl i0 d 0 d), (1, .int .i64 a), (2, .int .i64 b), (3, .int .i64 n), (10, .int .i64 k)] ρ, n, [], ?_, ?_⟩
 ·exact ⟨0, by omega, by simp, Sv.intro rfl ⟨rfl, rfl, rfl, rfl, rfl, trivial⟩⟩
 rintro m ρ H1 ⟨k, hkm, rfl, c, rfl⟩
 (conv => whnf); refine recA (fun hlt => ?_) (fun hlt => ?_)
 ·simp at hlt
  have hx : X[k]? = some X[k] := List.getElem?_eq_getElem (by omega)
  have hy : Y[k]? = some Y[k] := List.getElem?_eq_getElem (by omega)
  generalize X[k] = x at hx
  generalize Y[k] = y at hy
  have hD := blk_eq (L := L) (M := M) (R := R) hx hy
  have hD2 := blk_eq2 (L := L) (M := M) (R := R) hx hy
  have hdl : d = (L ++ (Y.take k ++ X.drop k) ++ M ++ (X.take k ++ Y.drop k) ++ R).length := by simp only [List.length_append, List.length_take, List.length_drop]; omega
  have ea : IntKind.i64.wrap ((a : Int) + (k : Int)) = ((a + k : Nat) : Int) := by rw [wrapI _ (by omega) (by omega)]; omega
  have eb : IntKind.i64.wrap ((b : Int) + (k : Int)) = ((b + k : Nat) : Int) := by rw [wrapI _ (by omega) (by omega)]; omega
  have ek : IntKind.i64.wrap ((k : Int) + 1) = ((k + 1 : Nat) : Int) := by rw [wrapI _ (by omega) (by omega)]; omega
  have ia : a + k = (L ++ Y.take k).length := by simp only [List.length_append, List.length_take]; omega
  have ib : b + k = (L ++ Y.take k).length + 1 + (X.drop (k + 1) ++ M ++ X.take k).length := by simp only [List.length_append, List.length_take, List.length_drop]; omega
  have ga := sw_i hD ia
  have gb := sw_j hD ib
  have gs := sw_ij hD ia ib
  rw [← hD2] at gs
  generalize (L ++ (Y.take k ++ X.drop k) ++ M ++ (X.take k ++ Y.drop k) ++ R) = D at *
  have hob : ∀ o : AObj, (H.set i0 o)[i0]? = some o := hset hi0
  have tl : Nat.beq d (vsC D).length = true := by rw [vsC_length, ← hdl]; exact Nat.beq_refl _
  have xa : (vsC D)[0 + (IntKind.i64.wrap ((a : Int) + (k : Int))).toNat]? = some (verC x) := by rw [ea, Int.toNat_natCast, Nat.zero_add]; exact vsC_at ga
  have xb : (vsC D)[0 + (IntKind.i64.wrap ((b : Int) + (k : Int))).toNat]? = some (verC y) := by rw [eb, Int.toNat_natCast, Nat.zero_add]; exact vsC_at gb
  have s1 : (H.set i0 (vO D)).set i0 (.arr 5 (setEs (vsC D) (0 + (IntKind.i64.wrap ((a : Int) + (k : Int))).toNat) (verC y))) = H.set i0 (vO (D.set (a + k) y)) := by rw [ea, Int.toNat_natCast, Nat.zero_add, vsC_set, hset2]
  have tl2 : Nat.beq d (vsC (D.set (a + k) y)).length = true := by rw [vsC_length, List.length_set, ← hdl]; exact Nat.beq_refl _
  have xb2 : (vsC (D.set (a + k) y))[0 + (IntKind.i64.wrap ((b : Int) + (k : Int))).toNat]? = some (verC y) := by
   rw [eb, Int.toNat_natCast, Nat.zero_add]
   exact vsC_at (by rw [List.getElem?_set_ne (by omega)]; exact gb)
  have s2 : (H.set i0 (vO (D.set (a + k) y))).set i0 (.arr 5 (setEs (vsC (D.set (a + k) y)) (0 + (IntKind.i64.wrap ((b : Int) + (k : Int))).toNat) (verC x))) = H.set i0 (vO (L ++ (Y.take (k + 1) ++ X.drop (k + 1)) ++ M ++ (X.take (k + 1) ++ Y.drop (k + 1)) ++ R)) := by
   rw [eb, Int.toNat_natCast, Nat.zero_add, vsC_set, hset2, gs]
  (conv => whnf); refine recO (hob _) ?_
  (conv => whnf); refine recT (tl) ?_
  (conv => whnf); refine And.intro (by rw [eb]; omega) ?_
  (conv => whnf); refine recO (hob _) ?_
  (conv => whnf); refine recT (tl) ?_
  (conv => whnf); refine recO (xb) ?_
  (conv => whnf); refine recO (hob _) ?_
  (conv => whnf); refine recT (tl) ?_
  (conv => whnf); refine And.intro (by rw [ea]; omega) ?_
  (conv => whnf); refine recO (hob _) ?_
  (conv => whnf); refine recT (tl) ?_
  (conv => whnf); refine recO (xa) ?_
  (conv => whnf); refine recO (hob _) ?_
  (conv => whnf); refine recT (tl) ?_
  (conv => whnf); refine And.intro (by rw [ea]; omega) ?_
  (conv => whnf); refine recO (hob _) ?_
  (conv => whnf); refine recT (tl) ?_
  (conv => whnf); refine recO (xa) ?_
  conv => whnf
  refine setOv s1 ?_
  (conv => whnf); refine recO (hob _) ?_
  (conv => whnf); refine recT (tl2) ?_
  (conv => whnf); refine And.intro (by rw [eb]; omega) ?_
  (conv => whnf); refine recO (hob _) ?_
  (conv => whnf); refine recT (tl2) ?_
  (conv => whnf); refine recO (xb2) ?_
  conv => whnf
  refine setOv s2 ?_
  conv => whnf
  refine ⟨m - 1, by omega, Gp.keep rfl ?_ fun ρ1 h => ⟨k + 1, by omega, rfl, h⟩⟩
  exact ⟨rfl, rfl, rfl, rfl, intEq ek, trivial⟩
 ·simp at hlt
  have hkn : k = n := by omega
  conv => whnf
  refine ⟨rfl, ?_⟩
  rw [hkn, hn, List.take_of_length_le (Nat.le_refl _), List.drop_of_length_le (Nat.le_refl _), ← hn, hn2, List.take_of_length_le (Nat.le_refl _), List.drop_of_length_le (Nat.le_refl _), List.append_nil, List.append_nil]

theorem swapRange_i {P : Program} (F : F_z1i P) {H : List AObj} {i0 : Nat} (hi0 : i0 < H.length) (f : AVal) (L X M Y R : List Ver) {a b n : Int} {d : Nat} (ha : a = L.length) (hn : n = X.length) (hn2 : n = Y.length) (hb : b = L.length + X.length + M.length)
  (hd : d = (L ++ X ++ M ++ Y ++ R).length) (hmax : d ≤ 1000000) {D : List Ver} (hD : D = L ++ X ++ M ++ Y ++ R) :
  ACalls P F.id [.sl i0 d 0 d, .int .i64 a, .int .i64 b, .int .i64 n, f] (H.set i0 (vO D)) (fun r H' => r = .tuple [] ∧ H' = H.set i0 (vO (L ++ Y ++ M ++ X ++ R))) := by
 have h := swapRange_spec F hi0 f L X M Y R (a := L.length) (b := L.length + X.length + M.length) (n := X.length) rfl rfl (by omega) rfl hd hmax
 rw [ha, hn, hb, hD]
 have e : ((L.length + X.length + M.length : Nat) : Int) = (L.length : Int) + X.length + M.length := by omega
 rw [e] at h
 exact h

set_option maxHeartbeats 1000000 in
set_option maxRecDepth 20000 in
theorem rotate_spec {P : Program} (F : F_z1g P) {H : List AObj} {i0 : Nat} (hi0 : i0 < H.length) (f : AVal) (L X Y R : List Ver) {a m b : Int} {d : Nat} (ha : a = L.length) (hm : m = L.length + X.length) (hb : b = L.length + X.length + Y.length)
  (hX : X ≠ []) (hY : Y ≠ []) (hd : d = (L ++ X ++ Y ++ R).length) (hmax : d ≤ 1000000) {D : List Ver} (hD : D = L ++ X ++ Y ++ R) :
  ACalls P F.id [.sl i0 d 0 d, .int .i64 a, .int .i64 m, .int .i64 b, f] (H.set i0 (vO D)) (fun r H' => r = .tuple [] ∧ H' = H.set i0 (vO (L ++ Y ++ X ++ R))) := by
 simp only [List.length_append] at hd
 have lpos : ∀ {l : List Ver}, l ≠ [] → 0 < l.length := fun h => List.length_pos_iff.2 h
 have e1 : IntKind.i64.wrap (m - a) = (X.length : Int) := by rw [wrapI _ (by omega) (by omega)]; omega
 have e2 : IntKind.i64.wrap (b - m) = (Y.length : Int) := by rw [wrapI _ (by omega) (by omega)]; omega
 refine acalls_of_body F.has ?_
 conv => whnf
 rw [e1, e2]
 refine ⟨fun q ρ H1 => ∃ L1 X1 Y1 R1 : List Ver, X1.length + Y1.length = q ∧ X1 ≠ [] ∧ Y1 ≠ [] ∧ (L1.length : Int) + X1.length = m ∧ L1 ++ Y1 ++ X1 ++ R1 = L ++ Y ++ X ++ R ∧ d = L1.length + X1.length + Y1.length + R1.length ∧
  H1 = H.set i0 (vO (L1 ++ X1 ++ Y1 ++ R1)) ∧ Sv 58 [(0, .sl i0 d 0 d), (2, .int .i64 m), (4, f), (10, .int .i64 X1.length), (11, .int .i64 Y1.length)] ρ, X.length + Y.length, [], ?_, ?_⟩
 ·exact ⟨L, X, Y, R, rfl, hX, hY, by omega, rfl, by omega, by rw [hD], Sv.intro rfl ⟨rfl, rfl, rfl, rfl, rfl, trivial⟩⟩
 rintro q ρ H1 ⟨L1, X1, Y1, R1, hq, hX1, hY1, hm1, ht, hd1, rfl, c, rfl⟩
 have px := lpos hX1
 have py := lpos hY1
 (conv => whnf); refine recA (fun hne => ?_) (fun hne => ?_)
 ·simp at hne
  (conv => whnf); refine recA (fun hgt => ?_) (fun hgt => ?_)
  ·simp at hgt
   have f1 : IntKind.i64.wrap (m - (X1.length : Int)) = (L1.length : Int) := by rw [wrapI _ (by omega) (by omega)]; omega
   have f2 : IntKind.i64.wrap ((X1.length : Int) - (Y1.length : Int)) = ((X1.drop Y1.length).length : Int) := by rw [wrapI _ (by omega) (by omega), List.length_drop]; omega
   (conv => whnf); refine ACalls.mono (swapRange_i F.z1i hi0 f L1 (X1.take Y1.length) (X1.drop Y1.length) Y1 R1 f1 (by rw [List.length_take]; omega) rfl (by rw [List.length_take, List.length_drop]; omega) (by simp only [List.length_append, List.length_take, List.length_drop]; omega) hmax (by rw [List.append_assoc L1 (X1.take _), List.take_append_drop])) ?_
   rintro r H' ⟨rfl, rfl⟩
   conv => whnf
   refine ⟨(X1.drop Y1.length).length + (X1.take Y1.length).length, by rw [List.length_drop, List.length_take]; omega, Gp.keep rfl ?_ fun ρ1 h => ⟨L1 ++ Y1, X1.drop Y1.length, X1.take Y1.length, R1, rfl, ?_, ?_, ?_, ?_, ?_, by simp only [List.append_assoc], h⟩⟩
   ·exact ⟨rfl, rfl, rfl, intEq f2, intEq (by rw [List.length_take]; omega), trivial⟩
   ·intro h; have := congrArg List.length h; rw [List.length_drop, List.length_nil] at this; omega
   ·intro h; have := congrArg List.length h; rw [List.length_take, List.length_nil] at this; omega
   ·simp only [List.length_append, List.length_drop]; omega
   ·rw [← ht]; simp only [List.append_assoc]; rw [← List.append_assoc (X1.take _), List.take_append_drop]
   ·simp only [List.length_append, List.length_drop, List.length_take]; omega
  ·simp at hgt
   have f1 : IntKind.i64.wrap (m - (X1.length : Int)) = (L1.length : Int) := by rw [wrapI _ (by omega) (by omega)]; omega
   have f2 : IntKind.i64.wrap (IntKind.i64.wrap (m + (Y1.length : Int)) - (X1.length : Int)) = (L1.length : Int) + X1.length + ((Y1.take (Y1.length - X1.length)).length : Int) := by rw [wrapI (m + _) (by omega) (by omega), wrapI _ (by omega) (by omega), List.length_take]; omega
   have f3 : IntKind.i64.wrap ((Y1.length : Int) - (X1.length : Int)) = ((Y1.take (Y1.length - X1.length)).length : Int) := by rw [wrapI _ (by omega) (by omega), List.length_take]; omega
   (conv => whnf); refine ACalls.mono (swapRange_i F.z1i hi0 f L1 X1 (Y1.take (Y1.length - X1.length)) (Y1.drop (Y1.length - X1.length)) R1 f1 rfl (by rw [List.length_drop]; omega) f2 (by simp only [List.length_append, List.length_take, List.length_drop]; omega) hmax (by rw [List.append_assoc (L1 ++ X1) (Y1.take _), List.take_append_drop])) ?_
   rintro r H' ⟨rfl, rfl⟩
   conv => whnf
   refine ⟨(Y1.drop (Y1.length - X1.length)).length + (Y1.take (Y1.length - X1.length)).length, by rw [List.length_drop, List.length_take]; omega, Gp.keep rfl ?_ fun ρ1 h => ⟨L1, Y1.drop (Y1.length - X1.length), Y1.take (Y1.length - X1.length), X1 ++ R1, rfl, ?_, ?_, ?_, ?_, ?_, by simp only [List.append_assoc], h⟩⟩
   ·exact ⟨rfl, rfl, rfl, intEq (by rw [List.length_drop]; omega), intEq f3, trivial⟩
   ·intro h; have := congrArg List.length h; rw [List.length_drop, List.length_nil] at this; omega
   ·intro h; have := congrArg List.length h; rw [List.length_take, List.length_nil] at this; omega
   ·simp only [List.length_drop]; omega
   ·rw [← ht]; simp only [List.append_assoc]; rw [← List.append_assoc (Y1.take _), List.take_append_drop]
   ·simp only [List.length_append, List.length_drop, List.length_take]; omega
 ·simp at hne
  have f1 : IntKind.i64.wrap (m - (X1.length : Int)) = (L1.length : Int) := by rw [wrapI _ (by omega) (by omega)]; omega
  (conv => whnf); refine ACalls.mono (swapRange_i F.z1i hi0 f L1 X1 [] Y1 R1 f1 rfl (by omega) (by simp; omega) (by simp only [List.length_append, List.append_nil]; omega) hmax (by simp)) ?_
  rintro r H' ⟨rfl, rfl⟩
  conv => whnf
  refine ⟨rfl, ?_⟩
  rw [← ht]; simp

end Go.AW

namespace Go.AW
variable [Draws]
attribute [local irreducible] ACalls
theorem swIJ {H : List AObj} {i0 : Nat} {Pr Q S D : List Ver} {x y : Ver} {p q : Int} {d : Nat} (hD : D = Pr ++ x :: (Q ++ y :: S)) (hp : p = Pr.length) (hq : q = Pr.length + 1 + Q.length) (hd : d = D.length) :
  Nat.beq d (vsC D).length = true ∧ (0 ≤ p ∧ p < d) ∧ (0 ≤ q ∧ q < d) ∧ (vsC D)[0 + p.toNat]? = some (verC x) ∧ (vsC D)[0 + q.toNat]? = some (verC y) ∧
  (H.set i0 (vO D)).set i0 (.arr 5 (setEs (vsC D) (0 + p.toNat) (verC y))) = H.set i0 (vO (D.set Pr.length y)) ∧ Nat.beq d (vsC (D.set Pr.length y)).length = true ∧
  (vsC (D.set Pr.length y))[0 + q.toNat]? = some (verC y) ∧
  (H.set i0 (vO (D.set Pr.length y))).set i0 (.arr 5 (setEs (vsC (D.set Pr.length y)) (0 + q.toNat) (verC x))) = H.set i0 (vO (Pr ++ y :: (Q ++ x :: S))) := by
 have hl := congrArg List.length hD
 simp only [List.length_append, List.length_cons] at hl
 have ep : p.toNat = Pr.length := by omega
 have eq : q.toNat = Pr.length + 1 + Q.length := by omega
 have ga := sw_i hD rfl
 have gb := sw_j hD rfl
 rw [ep, eq, Nat.zero_add, Nat.zero_add]
 refine ⟨by rw [vsC_length, ← hd]; exact Nat.beq_refl _, by omega, by omega, vsC_at ga, vsC_at gb, by rw [vsC_set, hset2], by rw [vsC_length, List.length_set, ← hd]; exact Nat.beq_refl _, ?_, ?_⟩
 ·exact vsC_at (by rw [List.getElem?_set_ne (by omega)]; exact gb)
 ·rw [vsC_set, hset2, sw_ij hD rfl rfl]

theorem swJI {H : List AObj} {i0 : Nat} {Pr Q S D : List Ver} {x y : Ver} {p q : Int} {d : Nat} (hD : D = Pr ++ x :: (Q ++ y :: S)) (hp : p = Pr.length) (hq : q = Pr.length + 1 + Q.length) (hd : d = D.length) :
  Nat.beq d (vsC D).length = true ∧ (0 ≤ p ∧ p < d) ∧ (0 ≤ q ∧ q < d) ∧ (vsC D)[0 + p.toNat]? = some (verC x) ∧ (vsC D)[0 + q.toNat]? = some (verC y) ∧
  (H.set i0 (vO D)).set i0 (.arr 5 (setEs (vsC D) (0 + q.toNat) (verC x))) = H.set i0 (vO (D.set (Pr.length + 1 + Q.length) x)) ∧ Nat.beq d (vsC (D.set (Pr.length + 1 + Q.length) x)).length = true ∧
  (vsC (D.set (Pr.length + 1 + Q.length) x))[0 + p.toNat]? = some (verC x) ∧
  (H.set i0 (vO (D.set (Pr.length + 1 + Q.length) x))).set i0 (.arr 5 (setEs (vsC (D.set (Pr.length + 1 + Q.length) x)) (0 + p.toNat) (verC y))) = H.set i0 (vO (Pr ++ y :: (Q ++ x :: S))) := by
 have hl := congrArg List.length hD
 simp only [List.length_append, List.length_cons] at hl
 have ep : p.toNat = Pr.length := by omega
 have eq : q.toNat = Pr.length + 1 + Q.length := by omega
 have ga := sw_i hD rfl
 have gb := sw_j hD rfl
 rw [ep, eq, Nat.zero_add, Nat.zero_add]
 refine ⟨by rw [vsC_length, ← hd]; exact Nat.beq_refl _, by omega, by omega, vsC_at ga, vsC_at gb, by rw [vsC_set, hset2], by rw [vsC_length, List.length_set, ← hd]; exact Nat.beq_refl _, ?_, ?_⟩
 ·exact vsC_at (by rw [List.getElem?_set_ne (by omega)]; exact ga)
 ·rw [vsC_set, hset2, sw_ji hD rfl rfl]

def CmpV (P : Program) (g : FuncId) (caps : List AVal) (ok : Ver → Prop) (cmp : Ver → Ver → Int) : Prop :=
 ∀ x y, ok x → ok y → ∀ H, ACalls P g ([.agg (verC x), .agg (verC y)] ++ caps) H (fun r H' => r = .int .i64 (cmp x y) ∧ H' = H)

set_option maxHeartbeats 1000000 in
set_option maxRecDepth 20000 in
theorem insertion_spec {P : Program} (F : F_z1e P) {H : List AObj} {i0 : Nat} (hi0 : i0 < H.length) {g : FuncId} {caps : List AVal} {ok : Ver → Prop} {cmp : Ver → Ver → Int} (hg : CmpV P g caps ok cmp) (O : Orders cmp) (L X R : List Ver) {a b : Int} {d : Nat} (ha : a = L.length) (hb : b = L.length + X.length)
  (hok : ∀ x ∈ X, ok x) (hd : d = (L ++ X ++ R).length) (hmax : d ≤ 1000000) {D : List Ver} (hD : D = L ++ X ++ R) :
  ACalls P F.id [.sl i0 d 0 d, .int .i64 a, .int .i64 b, .fn g caps] (H.set i0 (vO D)) (fun r H' => r = .tuple [] ∧ ∃ Z : List Ver, Z.Perm X ∧ AscO cmp Z ∧ H' = H.set i0 (vO (L ++ Z ++ R))) := by
 subst hD
 have hob : ∀ o : AObj, (H.set i0 o)[i0]? = some o := hset hi0
 have hdl := hd
 simp only [List.length_append] at hdl
 have e1 : IntKind.i64.wrap (a + 1) = a + 1 := wrapI _ (by omega) (by omega)
 refine acalls_of_body F.has ?_
 conv => whnf
 rw [e1]
 refine ⟨fun m ρ H1 => ∃ (t : Nat) (Z : List Ver), t + m = X.length ∧ Z.Perm (X.take (t + 1)) ∧ AscO cmp Z ∧ H1 = H.set i0 (vO (L ++ Z ++ (X.drop (t + 1) ++ R))) ∧ Sv 53 [(0, .sl i0 d 0 d), (1, .int .i64 a), (2, .int .i64 b), (3, .fn g caps), (8, .int .i64 (a + 1 + t))] ρ, X.length, [], ?_, ?_⟩
 ·refine ⟨0, X.take 1, by omega, .refl _, ?_, by rw [Nat.zero_add]; simp only [List.append_assoc]; rw [← List.append_assoc (X.take 1), List.take_append_drop], Sv.intro rfl ⟨rfl, rfl, rfl, rfl, intEq (by omega), trivial⟩⟩
  match X with
  | [] => exact List.Pairwise.nil
  | x :: _ => exact List.pairwise_singleton _ _
 rintro m ρ H1 ⟨t, Z, htm, hp, hs, rfl, c, rfl⟩
 (conv => whnf); refine recA (fun hlt => ?_) (fun hlt => ?_)
 ·simp at hlt
  have htl : t + 1 < X.length := by omega
  have hv : X[t + 1]? = some X[t + 1] := List.getElem?_eq_getElem htl
  have hvo : ok X[t + 1] := hok _ (List.getElem_mem htl)
  generalize X[t + 1] = v at hv hvo
  have hzl : Z.length = t + 1 := by rw [hp.length_eq, List.length_take]; omega
  have hzo : ∀ z ∈ Z, ok z := fun z hz => hok z (List.mem_of_mem_take (hp.mem_iff.1 hz))
  conv => whnf
  refine ⟨fun q ρ H1 => ∃ Z1 Z2 : List Ver, Z1.length = q ∧ Z = Z1 ++ Z2 ∧ (∀ z ∈ Z2, cmp v z < 0) ∧ H1 = H.set i0 (vO (L ++ Z1 ++ (v :: (Z2 ++ (X.drop (t + 2) ++ R))))) ∧ Sv 53 [(0, .sl i0 d 0 d), (1, .int .i64 a), (2, .int .i64 b), (3, .fn g caps), (8, .int .i64 (a + 1 + t)), (9, .int .i64 (a + Z1.length))] ρ, Z.length, [], ?_, ?_⟩
  ·refine ⟨Z, [], rfl, by simp, by simp, ?_, Sv.intro rfl ⟨rfl, rfl, rfl, rfl, rfl, intEq (by omega), trivial⟩⟩
   rw [drop_cons hv]; rfl
  rintro q ρ H1 ⟨Z1, Z2, hq, hZ, hlt2, rfl, c, rfl⟩
  have hzl2 := congrArg List.length hZ
  rw [List.length_append] at hzl2
  have stop : (∀ z ∈ Z1, 0 ≤ cmp v z) → (Z1 ++ v :: Z2).Perm (X.take (t + 1 + 1)) ∧ AscO cmp (Z1 ++ v :: Z2) := by
   intro h1
   rw [hZ] at hp hs
   obtain ⟨s1, s2, s3⟩ := asc_app.1 hs
   refine ⟨?_, asc_app.2 ⟨s1, List.pairwise_cons.2 ⟨fun z hz => O.anti _ _ (hlt2 z hz), s2⟩, fun x hx y hy => ?_⟩⟩
   ·rw [take_snoc hv]
    exact (List.perm_middle.trans (hp.cons v)).trans (List.perm_append_comm (l₁ := [v]))
   ·rcases List.mem_cons.1 hy with rfl | hy
    ·exact h1 x hx
    ·exact s3 x hx y hy
  have ed : d = (L ++ Z1 ++ (v :: (Z2 ++ (X.drop (t + 2) ++ R)))).length := by simp only [List.length_append, List.length_cons, List.length_drop]; omega
  have en : IntKind.i64.wrap (a + 1 + (t : Int) + 1) = a + 1 + ((t + 1 : Nat) : Int) := by rw [wrapI _ (by omega) (by omega)]; omega
  (conv => whnf); refine recA (fun hj => ?_) (fun hj => ?_)
  ·simp at hj
   obtain ⟨Z0, u, hz⟩ : ∃ Z0 u, Z1 = Z0 ++ [u] := by
    rcases List.eq_nil_or_concat Z1 with h | ⟨Z0, u, h⟩
    ·rw [h] at hj; simp at hj
    ·exact ⟨Z0, u, by rw [h, List.concat_eq_append]⟩
   subst hz
   have hz0 : (Z0 ++ [u]).length = Z0.length + 1 := by rw [List.length_append]; rfl
   rw [hz0] at hzl2 hq
   have hDe : L ++ (Z0 ++ [u]) ++ (v :: (Z2 ++ (X.drop (t + 2) ++ R))) = (L ++ Z0) ++ u :: ([] ++ v :: (Z2 ++ (X.drop (t + 2) ++ R))) := by simp
   have huo : ok u := hzo u (by rw [hZ]; simp)
   have ej : IntKind.i64.wrap (a + ((Z0 ++ [u]).length : Int) - 1) = a + (Z0.length : Int) := by rw [hz0, wrapI _ (by omega) (by omega)]; omega
   obtain ⟨tl, bA, bB, xa, xb, s1, tl2, x2, s2⟩ := swJI (H := H) (i0 := i0) (p := IntKind.i64.wrap (a + ((Z0 ++ [u]).length : Int) - 1)) (q := a + ((Z0 ++ [u]).length : Int)) (d := d) hDe (by rw [ej, List.length_append]; omega) (by rw [hz0, List.length_append, List.length_nil]; omega) ed
   (conv => whnf); refine recO (hob _) ?_
   (conv => whnf); refine recT (tl) ?_
   (conv => whnf); refine And.intro (bB) ?_
   (conv => whnf); refine recO (hob _) ?_
   (conv => whnf); refine recT (tl) ?_
   (conv => whnf); refine recO (xb) ?_
   (conv => whnf); refine recO (hob _) ?_
   (conv => whnf); refine recT (tl) ?_
   (conv => whnf); refine And.intro (bA) ?_
   (conv => whnf); refine recO (hob _) ?_
   (conv => whnf); refine recT (tl) ?_
   (conv => whnf); refine recO (xa) ?_
   (conv => whnf); refine ⟨_, hg v u hvo huo _, ?_⟩
   (conv => whnf); refine recA (fun hc => ?_) (fun hc => ?_)
   ·simp at hc
    (conv => whnf); refine recO (hob _) ?_
    (conv => whnf); refine recT (tl) ?_
    (conv => whnf); refine And.intro (bA) ?_
    (conv => whnf); refine recO (hob _) ?_
    (conv => whnf); refine recT (tl) ?_
    (conv => whnf); refine recO (xa) ?_
    (conv => whnf); refine recO (hob _) ?_
    (conv => whnf); refine recT (tl) ?_
    (conv => whnf); refine And.intro (bB) ?_
    (conv => whnf); refine recO (hob _) ?_
    (conv => whnf); refine recT (tl) ?_
    (conv => whnf); refine recO (xb) ?_
    (conv => whnf); refine recO (hob _) ?_
    (conv => whnf); refine recT (tl) ?_
    (conv => whnf); refine And.intro (bB) ?_
    (conv => whnf); refine recO (hob _) ?_
    (conv => whnf); refine recT (tl) ?_
    (conv => whnf); refine recO (xb) ?_
    conv => whnf
    refine setOv s1 ?_
    (conv => whnf); refine recO (hob _) ?_
    (conv => whnf); refine recT (tl2) ?_
    (conv => whnf); refine And.intro (bA) ?_
    (conv => whnf); refine recO (hob _) ?_
    (conv => whnf); refine recT (tl2) ?_
    (conv => whnf); refine recO (x2) ?_
    conv => whnf
    refine setOv s2 ?_
    conv => whnf
    refine ⟨Z0.length, by omega, Gp.keep rfl ?_ fun ρ1 h => ⟨Z0, u :: Z2, rfl, by simp [hZ], ?_, by simp, h⟩⟩
    ·exact ⟨rfl, rfl, rfl, rfl, rfl, intEq ej, trivial⟩
    ·intro z hz
     rcases List.mem_cons.1 hz with rfl | hz
     ·exact hc
     ·exact hlt2 z hz
   ·simp at hc
    conv => whnf
    rw [hZ] at hs
    obtain ⟨g1, g2⟩ := stop (fun z hz => by
     rcases List.mem_append.1 hz with hz | hz
     ·have := (asc_app.1 (asc_app.1 hs).1).2.2 z hz u (List.mem_singleton.2 rfl)
      exact O.trans _ _ _ this hc
     ·rw [List.mem_singleton.1 hz]; exact hc)
    refine ⟨m - 1, by omega, Gp.keep rfl ?_ fun ρ1 h => ⟨t + 1, Z0 ++ [u] ++ v :: Z2, by omega, g1, g2, by simp, h⟩⟩
    exact ⟨rfl, rfl, rfl, rfl, intEq en, trivial⟩
  ·simp at hj
   have hz0 : Z1 = [] := List.eq_nil_of_length_eq_zero (by omega)
   conv => whnf
   obtain ⟨g1, g2⟩ := stop (fun z hz => by rw [hz0] at hz; simp at hz)
   refine ⟨m - 1, by omega, Gp.keep rfl ?_ fun ρ1 h => ⟨t + 1, Z1 ++ v :: Z2, by omega, g1, g2, by simp, h⟩⟩
   exact ⟨rfl, rfl, rfl, rfl, intEq en, trivial⟩
 ·simp at hlt
  conv => whnf
  refine ⟨rfl, Z, ?_, hs, ?_⟩
  ·rwa [List.take_of_length_le (by omega)] at hp
  ·rw [List.drop_of_length_le (by omega)]; rfl

end Go.AW

