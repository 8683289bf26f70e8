/-
  An abstract machine over the model, the code of functions on it, and their contracts: what the claim needs.
  No condition: definitions, plain laws, contracts over any program that has this code.
-/
import Derived.Test.YtdffiibjghcobaaGreatZ6
set_option linter.all false
namespace Go.AW
variable [Draws]
attribute [local irreducible] ACalls
def wfNI (l : List Int) (i : Nat) : Nat := (nx l i 7).1.toNat
def wfRI (s : Src) (l : List Int) (i : Nat) : List Rec × Nat := wf s l (wfNI l i) (nx l i 7).2 []
set_option maxRecDepth 20000 in
theorem File_rawI {P : Program} (F : F_z3t P) (id : ByteArray) (s : Src) (hc : s.cols ≠ []) (hcl : s.cols.length ≤ 1000) (hk : s.key.length ≤ 1000) (l : List Int) (i : Nat) (hi : i ≤ l.length) (hl : l.length ≤ 1000000) :
  ACalls P F.id [.str id, .agg (srcC s), .ptr 0 1 0 0, .int .i64 6] [gO l i] (fun r H' => ∃ c x y z, r = .agg [.str id, .str sName, c] ∧
   (((wfRI s l i).1 = [] ∧ c = .nil ∧ H' = [gO l (wfRI s l i).2, x, y, z]) ∨ ((wfRI s l i).1 ≠ [] ∧ c = .sl 4 (wfRI s l i).1.length 0 (wfRI s l i).1.length ∧ H' = [gO l (wfRI s l i).2, x, y, z, .arr 3 (rC (wfRI s l i).1)]))) := by
 have ps : pureEs [srcC s] = true := by simp [pureEs, srcC, srcX, AVal.isPure]
 refine acalls_of_body F.has ?_
 (conv => whnf); refine ACalls.mono (Next_spec F.z3x l i 7 hi hl (by decide) _ 0 rfl) ?_
 rintro r H' ⟨rfl, rfl⟩
 have hb := nx_bnd l i 7 (by decide)
 have hj := nx_le l i 7 hi
 conv => whnf
 refine ⟨fun m ρ H1 => ∃ (k j : Nat) (L : List Rec), k = m ∧ j ≤ l.length ∧ L.length + k = wfNI l i ∧ wf s l k j L = wfRI s l i ∧ fileH s id l L j H1 ∧
  Sv 32 [(2, .ptr 0 1 0 0), (5, .ptr 1 1 0 0), (8, .ptr 2 1 0 0), (9, .ptr 3 1 0 0), (10, .int .i64 k)] ρ, wfNI l i, [], ?_, ?_⟩
 ·exact ⟨wfNI l i, _, [], rfl, hj, by simp, rfl, .inl ⟨rfl, rfl⟩, Sv.intro rfl ⟨rfl, rfl, rfl, rfl, intEq (by rw [wfNI]; omega), trivial⟩⟩
 have h7 : wfNI l i ≤ 6 := by rw [wfNI]; omega
 rintro m ρ H1 ⟨k, j, L, rfl, hj, hlen, hr, ⟨rfl, rfl⟩ | ⟨hL, rfl⟩, d, rfl⟩
 ·(conv => whnf); refine recA (fun hgt => ?_) (fun hgt => ?_)
  ·simp at hgt
   obtain ⟨k, rfl⟩ : ∃ k', k = k' + 1 := ⟨k - 1, by omega⟩
   rw [wf] at hr
   (conv => whnf); refine ⟨_, _, Record_spec F.z3z s hc hcl hk l j hj hl _ 0 rfl, ?_⟩
   (conv => whnf); refine And.intro (⟨roomMul (by simp) (by omega), roomB_le (by simp)⟩) ?_
   (conv => whnf); refine And.intro (rfl) ?_
   conv => whnf
   refine ⟨k, by omega, Gp.keep (n := 32) (live := [(2, .ptr 0 1 0 0), (5, .ptr 1 1 0 0), (8, .ptr 2 1 0 0), (9, .ptr 3 1 0 0), (10, .int .i64 k)]) rfl ⟨rfl, rfl, rfl, rfl, intEq (by have := wrapI (((k + 1 : Nat) : Int) - 1) (by omega) (by omega); show IntKind.i64.wrap (((k + 1 : Nat) : Int) - 1) = _; omega), trivial⟩ fun ρ1 h => ⟨k, _, _, rfl, wrec_le s l j hj, by simp; simp at hlen; omega, hr, .inr ⟨by simp, rfl⟩, h⟩⟩
  ·simp at hgt
   have hk0 : k = 0 := by omega
   subst hk0
   rw [wf] at hr
   conv => whnf
   rw [← hr]
   exact ⟨_, _, _, _, rfl, .inl ⟨rfl, rfl, rfl⟩⟩
 ·have hrl := rC_length L
  (conv => whnf); refine recA (fun hgt => ?_) (fun hgt => ?_)
  ·simp at hgt
   obtain ⟨k, rfl⟩ : ∃ k', k = k' + 1 := ⟨k - 1, by omega⟩
   rw [wf] at hr
   (conv => whnf); refine ⟨_, _, Record_spec F.z3z s hc hcl hk l j hj hl _ 0 rfl, ?_⟩
   (conv => whnf); refine recT (by rw [hrl]; exact Nat.beq_refl _) ?_
   (conv => whnf); refine And.intro (⟨roomMul (by simp; omega) (by omega), roomB_le (by simp; omega), rfl, by rw [hrl]⟩) ?_
   (conv => whnf); refine And.intro (rfl) ?_
   conv => whnf
   have hcn : rC L ++ [recC (wrec s l j).1] = rC (L ++ [(wrec s l j).1]) := by rw [rC_append]; rfl
   have hcl2 := (congrArg List.length hcn).trans (rC_length _)
   refine ⟨k, by omega, Gp.keep (n := 32) (live := [(2, .ptr 0 1 0 0), (5, .ptr 1 1 0 0), (8, .ptr 2 1 0 0), (9, .ptr 3 1 0 0), (10, .int .i64 k)]) rfl ⟨rfl, rfl, rfl, rfl, intEq (by have := wrapI (((k + 1 : Nat) : Int) - 1) (by omega) (by omega); show IntKind.i64.wrap (((k + 1 : Nat) : Int) - 1) = _; omega), trivial⟩ fun ρ1 h => ⟨k, _, L ++ [(wrec s l j).1], rfl, wrec_le s l j hj, by simp; omega, hr, .inr ⟨by simp, ?_⟩, h⟩⟩
   rw [← hcl2, ← hcn]
   rfl
  ·simp at hgt
   have hk0 : k = 0 := by omega
   subst hk0
   rw [wf] at hr
   conv => whnf
   rw [← hr]
   exact ⟨_, _, _, _, rfl, .inr ⟨hL, rfl, rfl⟩⟩
theorem File_nilI {P : Program} (F : F_z3t P) (id : ByteArray) (s : Src) (hc : s.cols ≠ []) (hcl : s.cols.length ≤ 1000) (hk : s.key.length ≤ 1000) (l : List Int) (i : Nat) (hi : i ≤ l.length) (hl : l.length ≤ 1000000) (hn : (wfRI s l i).1 = []) (H : List AObj) (g : Nat) (ho : H[g]? = some (gO l i)) :
  ACalls P F.id [.str id, .agg (srcC s), .ptr g 1 0 0, .int .i64 6] H (fun r H' => r = .agg [.str id, .str sName, .nil] ∧ H' = H.set g (gO l (wfRI s l i).2)) := by
 refine ACalls.fr (args0 := [.str id, .agg (srcC s), .ptr 0 1 0 0, .int .i64 6]) (o1 := gO l (wfRI s l i).2) ?_ ho rfl rfl (.cl rfl (.cl (by simp [AVal.closed, srcC, srcX, AVal.isPure]) (.pt (.cl rfl trivial)))) (.closed _ rfl)
 refine (File_rawI F id s hc hcl hk l i hi hl).gp ?_
 rintro r H' ⟨c, x, y, z, rfl, ⟨_, rfl, rfl⟩ | ⟨h, _⟩⟩
 ·exact Gp.res [0] (by simp) (keepB_hd rfl) (H1 := [gO l (wfRI s l i).2]) ⟨⟨_, rfl, .same _ _ rfl⟩, trivial⟩ (.closed _ rfl) ⟨_, rfl, rfl, rfl⟩
 ·exact absurd hn h
theorem File_someI {P : Program} (F : F_z3t P) (id : ByteArray) (s : Src) (hc : s.cols ≠ []) (hcl : s.cols.length ≤ 1000) (hk : s.key.length ≤ 1000) (l : List Int) (i : Nat) (hi : i ≤ l.length) (hl : l.length ≤ 1000000) (hn : (wfRI s l i).1 ≠ []) (H : List AObj) (g : Nat) (ho : H[g]? = some (gO l i)) :
  ACalls P F.id [.str id, .agg (srcC s), .ptr g 1 0 0, .int .i64 6] H (fun r H' => r = .agg [.str id, .str sName, .sl H.length (wfRI s l i).1.length 0 (wfRI s l i).1.length] ∧ H' = H.set g (gO l (wfRI s l i).2) ++ [.arr 3 (rC (wfRI s l i).1)]) := by
 refine ACalls.frG (args0 := [.str id, .agg (srcC s), .ptr 0 1 0 0, .int .i64 6]) (o1 := gO l (wfRI s l i).2) (G := [.arr 3 (rC (wfRI s l i).1)]) (R := .agg [.str id, .str sName, .sl 1 (wfRI s l i).1.length 0 (wfRI s l i).1.length]) ?_ ho rfl rfl ?_ (.cl rfl (.cl (by simp [AVal.closed, srcC, srcX, AVal.isPure]) (.pt (.cl rfl trivial)))) ?_
 ·refine (File_rawI F id s hc hcl hk l i hi hl).gp ?_
  rintro r H' ⟨c, x, y, z, rfl, ⟨h, _⟩ | ⟨_, rfl, rfl⟩⟩
  ·exact absurd h hn
  ·refine Gp.res [0, 4] (by simp) (keepB_one rfl rfl rfl) (H1 := [gO l (wfRI s l i).2, .arr 3 (rC (wfRI s l i).1)]) (r' := .agg [.str id, .str sName, .sl 1 (wfRI s l i).1.length 0 (wfRI s l i).1.length]) ⟨⟨_, rfl, .same _ _ rfl⟩, ⟨_, rfl, .same _ _ (pureEs_rC _)⟩, trivial⟩ ?_ ⟨_, rfl, rfl, rfl⟩
   refine .agg _ _ rfl fun i v r h1 h2 => ?_
   rcases i with _ | _ | _ | i
   ·cases h1; cases h2; exact .closed _ rfl
   ·cases h1; cases h2; exact .closed _ rfl
   ·cases h1; cases h2; exact .keep 4 _ _ _ 1 rfl
   ·simp at h1
 ·intro x hx
  rw [List.mem_singleton.1 hx]
  exact pureEs_rC _
 ·refine .agg _ _ rfl fun i v r h1 h2 => ?_
  rcases i with _ | _ | _ | i
  ·cases h1; cases h2; exact .closed _ rfl
  ·cases h1; cases h2; exact .closed _ rfl
  ·cases h1; cases h2; exact .sl 1 _ _ _
  ·simp at h1
theorem nx_le4 (l : List Int) (i : Nat) : (nx l i 4).1 ≤ 3 := by have := nx_bnd l i 4 (by decide); omega
theorem wrec_okI (s : Src) (l : List Int) (i : Nat) : (wrec s l i).1.row.length ≤ s.cols.length ∧ (wrec s l i).1.seq ≤ 3 := by
 have h := wrow_len s l i
 have h4 := nx_le4 l i
 unfold wrec
 repeat' split
 all_goals refine ⟨?_, ?_⟩
 all_goals first
  | exact h4
  | decide
  | (simp only []; rw [delR_len _ _ _ h]; omega)
  | (simp only []; rw [List.length_take]; omega)
  | (simp only []; rw [List.length_set]; omega)
  | (simp only []; omega)
theorem wf_okI (s : Src) (l : List Int) : ∀ (k i : Nat) (L : List Rec), (∀ r ∈ L, r.row.length ≤ s.cols.length ∧ r.seq ≤ 3) → ∀ r ∈ (wf s l k i L).1, r.row.length ≤ s.cols.length ∧ r.seq ≤ 3
 | 0, _, _, h => h
 | k + 1, i, L, h => by
  rw [wf]
  refine wf_okI s l k _ _ fun r hr => ?_
  rcases List.mem_append.1 hr with hr | hr
  ·exact h r hr
  ·rw [List.mem_singleton.1 hr]; exact wrec_okI s l i
theorem wfRI_ok (s : Src) (l : List Int) (i : Nat) : (wfRI s l i).1.length ≤ 6 ∧ ∀ r ∈ (wfRI s l i).1, r.row.length ≤ s.cols.length ∧ r.seq ≤ 3 := by
 refine ⟨?_, wf_okI s l _ _ [] fun r h => by cases h⟩
 have := nx_bnd l i 7 (by decide)
 rw [wfRI, wf_len, wfNI]
 simp; omega
theorem wfRI_le (s : Src) (l : List Int) (i : Nat) (h : i ≤ l.length) : (wfRI s l i).2 ≤ l.length := wf_le s l _ _ _ (nx_le l i 7 h)
noncomputable def accOk (s : Sou) (l : List Del) (f : Fil) : Option (List Del) :=
 if encFE f ≠ 0 then none else match dupGo f l 0 (-1) with
  | none => none
  | some q => if 0 ≤ q then some l else some (l ++ [newD s l f])
theorem accX_cases (s : Sou) (l : List Del) (f : Fil) : (accOk s l f = none ∧ ∃ e : Int, e ≠ 0 ∧ ∀ jv, accX s l f jv = .tuple [.agg [.nil], .agg zDelC, .bool false, .int .i64 e]) ∨
  (∃ x, accOk s l f = some l ∧ ∀ jv, accX s l f jv = .tuple [.agg (ledC l), .agg (delC x), .bool false, .int .i64 0]) ∨
  (accOk s l f = some (l ++ [newD s l f]) ∧ ∀ jv, accX s l f jv = .tuple [.agg (ledC (l ++ [newD s l f])), .agg [.str f.id, .str f.src, .list false 3 (rC f.recs), jv], .bool true, .int .i64 0]) := by
 unfold accOk accX
 by_cases he : encFE f ≠ 0
 ·exact .inl ⟨if_pos he, _, he, fun jv => if_pos he⟩
 rw [if_neg he]
 simp only [if_neg he]
 cases hd : dupGo f l 0 (-1) with
 | none => exact .inl ⟨rfl, 6, by decide, fun jv => rfl⟩
 | some q =>
  simp only []
  by_cases hq : 0 ≤ q
  ·rw [if_pos hq]; exact .inr (.inl ⟨_, rfl, fun jv => if_pos hq⟩)
  ·rw [if_neg hq]; exact .inr (.inr ⟨rfl, fun jv => if_neg hq⟩)
def AccR (s : Sou) (l : List Del) (f : Fil) (r : AVal) : Prop :=
 (accOk s l f = none ∧ ∃ e : Int, e ≠ 0 ∧ r = .tuple [.agg [.nil], .agg zDelC, .int .i64 e]) ∨ (∃ l' a b c d, accOk s l f = some l' ∧ (d = .nil ∨ ∃ J : List Int, d = .list false 1 (iC J)) ∧ r = .tuple [.agg (ledC l'), .agg [.str a, .str b, .list false 3 (rC c), d], .int .i64 0])
set_option maxRecDepth 20000 in
theorem Accept_spec {P : Program} (F : F_z2y P) (s : Sou) (hs : s.ok) (hz : s.zone = bs [122]) (hnm : s.name.size ≤ 50000) (l : List Del) (hl : l.length ≤ 50) (hok : ∀ x ∈ l, x.ok) (id : ByteArray) (hid : id.size ≤ 50000) (recs : List Rec) (hf : recs.length ≤ 1000) (hr : ∀ r ∈ recs, r.row.length ≤ 1000) (H : List AObj) :
  ACalls P F.id [.agg (ledC l), .agg (defC s), .agg (fV ⟨id, s.name, recs⟩)] H (fun r H' => AccR s l ⟨id, s.name, recs⟩ r ∧ H' = H) := by
 refine ACalls.lift0 (by simp [ledC, defC, fV, AVal.closed, AVal.isPure]) (acalls_of_body F.has ?_)
 (conv => whnf); refine ACalls.mono (accept_raw F.z31 s hs hz hnm l hl hok id hid recs hf hr _) ?_
 rintro r H' ⟨hR, rfl⟩
 have key : ∃ jv : AVal, (jv = .nil ∨ ∃ J : List Int, jv = .list false 1 (iC J)) ∧ r = accX s l ⟨id, s.name, recs⟩ jv := hR.elim (fun h => ⟨_, .inr ⟨_, rfl⟩, h⟩) (fun h => ⟨_, .inl rfl, h.2⟩)
 obtain ⟨jv, hjv, rfl⟩ := key
 rcases accX_cases s l ⟨id, s.name, recs⟩ with ⟨h1, e, he, h2⟩ | ⟨x, h1, h2⟩ | ⟨h1, h2⟩
 ·rw [h2]
  conv => whnf
  repeat ((conv => whnf); refine And.intro rfl ?_)
  conv => whnf
  exact ⟨_, pub3 (.closed (.agg [.nil]) rfl) (.closed (.agg zDelC) rfl) (.closed (.int .i64 e) rfl), .inl ⟨h1, e, he, rfl⟩⟩
 ·rw [h2]
  conv => whnf
  repeat ((conv => whnf); refine And.intro rfl ?_)
  conv => whnf
  exact ⟨_, pub3 (.closed (.agg (ledC l)) rfl) (.closed (.agg (delC x)) rfl) (.closed (.int .i64 0) rfl), .inr ⟨l, _, _, _, _, h1, .inr ⟨_, rfl⟩, rfl⟩⟩
 ·rw [h2]
  rcases hjv with rfl | ⟨J, rfl⟩
  ·conv => whnf
   repeat ((conv => whnf); refine And.intro rfl ?_)
   conv => whnf
   exact ⟨_, pub3 (.closed (.agg (ledC (l ++ [newD s l ⟨id, s.name, recs⟩]))) rfl) (.closed (.agg [.str id, .str s.name, .list false 3 (rC recs), .nil]) rfl) (.closed (.int .i64 0) rfl), .inr ⟨_, _, _, _, _, h1, .inl rfl, rfl⟩⟩
  ·conv => whnf
   repeat ((conv => whnf); refine And.intro rfl ?_)
   conv => whnf
   exact ⟨_, pub3 (.closed (.agg (ledC (l ++ [newD s l ⟨id, s.name, recs⟩]))) rfl) (.closed (.agg [.str id, .str s.name, .list false 3 (rC recs), .list false 1 (iC J)]) rfl) (.closed (.int .i64 0) rfl), .inr ⟨_, _, _, _, _, h1, .inr ⟨_, rfl⟩, rfl⟩⟩
def souS (s : Src) : Sou := ⟨sName, s.cols, s.key, bs [97, 116], bs [122], s.late, s.reopen⟩
noncomputable def delivV (s : Src) (ls : List Int) (i : Nat) (id : ByteArray) (l : List Del) : List Del × Nat :=
 (match accOk (souS s) l ⟨id, sName, (wfRI s ls (nx ls i 1).2).1⟩ with | some l' => l' | none => l, (wfRI s ls (nx ls i 1).2).2)
theorem wkFile {a b : ByteArray} : ∀ (i : Nat) (x y : AVal), ([.str a, .str b, .nil] : List AVal)[i]? = some x → ([.str a, .str b, .list false 3 (rC [])] : List AVal)[i]? = some y → Wk x y := fun i x y h1 h2 => by
 rcases i with _ | _ | _ | i
 ·cases h1; cases h2; exact .refl _
 ·cases h1; cases h2; exact .refl _
 ·cases h1; cases h2; exact .nil _ _
 ·simp at h1
set_option maxHeartbeats 1000000 in
set_option maxRecDepth 20000 in
theorem Deliver_raw {P : Program} (F : F_z3s P) (s : Src) (hc : s.cols ≠ []) (hcl : s.cols.length ≤ 900) (hk : s.key.length ≤ 900) (ls : List Int) (i : Nat) (hi : i ≤ ls.length) (hl : ls.length ≤ 1000000) (id : ByteArray) (hid : id.size ≤ 50000) (l : List Del) (hll : l.length ≤ 50) (hok : ∀ x ∈ l, x.ok) :
  ACalls P F.id [.agg (ledC l), .agg (defC (souS s)), .str id, .ptr 0 1 0 0, .int .i64 6] [gO ls i] (fun r H' => r = .agg (ledC (delivV s ls i id l).1) ∧ ∃ t, H' = gO ls (delivV s ls i id l).2 :: t) := by
 refine acalls_of_body F.has ?_
 have hb := nx_bnd ls i 1 (by decide)
 have h0 : (nx ls i 1).1 = 0 := by omega
 have hsn := Next_spec F.z3x ls i 1 hi hl (by decide)
 rw [h0] at hsn
 (conv => whnf); refine ⟨_, _, hsn _ 0 rfl, ?_⟩
 (conv => whnf); refine And.intro (by decide) ?_
 have hi1 : (nx ls i 1).2 ≤ ls.length := nx_le _ _ _ hi
 obtain ⟨hw6, hwr⟩ := wfRI_ok s ls (nx ls i 1).2
 have hacc := Accept_spec F.z2y (souS s) ⟨by show s.cols.length ≤ 1000; omega, by show s.key.length ≤ 1000; omega⟩ rfl (show sName.size ≤ 50000 by decide) l hll hok id hid (wfRI s ls (nx ls i 1).2).1 (by omega) (fun r h => by have := (hwr r h).1; omega)
 have hD : delivV s ls i id l = (match accOk (souS s) l ⟨id, sName, (wfRI s ls (nx ls i 1).2).1⟩ with | some l' => l' | none => l, (wfRI s ls (nx ls i 1).2).2) := rfl
 by_cases hn : (wfRI s ls (nx ls i 1).2).1 = []
 ·(conv => whnf); refine ⟨_, _, File_nilI F.z3t id s hc (by omega) (by omega) ls (nx ls i 1).2 hi1 hl hn _ 0 rfl, ?_⟩
  repeat ((conv => whnf); refine And.intro rfl ?_)
  conv => whnf
  refine ⟨Gp.keepL (n := 45) (live := [(5, .ptr 1 1 0 0), (6, .ptr 2 1 0 0), (10, .ptr 3 1 0 0), (11, .ptr 4 1 0 0)]) (H1 := [gO ls (wfRI s ls (nx ls i 1).2).2, .arr 1 [ledC l], .arr 6 [defC (souS s)], .arr 1 [[.nil]], .arr 3 [[.str id, .str sName, .nil]]]) [0, 1, 2, 3, 4] (by simp) (keepB_one rfl rfl rfl)
   ⟨⟨_, rfl, .same _ _ rfl⟩, ⟨_, rfl, .same _ _ rfl⟩, ⟨_, rfl, .same _ _ rfl⟩, ⟨_, rfl, .same _ _ rfl⟩, ⟨_, rfl, .same _ _ rfl⟩, trivial⟩ rfl ⟨.keepP 1 1 0 0 1 rfl, .keepP 2 1 0 0 2 rfl, .keepP 3 1 0 0 3 rfl, .keepP 4 1 0 0 4 rfl, trivial⟩ ?_⟩
  rintro ρ ⟨d, rfl⟩
  rw [hn] at hacc
  (conv => whnf); refine ACalls.mono (ACalls.weak (hacc _) (.cons (.refl _) (.cons (.refl _) (.cons (.agg _ _ rfl wkFile) .nil)))) ?_
  rintro r H' ⟨hR, rfl⟩
  rw [hD, hn]
  rcases hR with ⟨h1, e, he, rfl⟩ | ⟨l', a, b, c, d, h1, rfl | ⟨J, rfl⟩, rfl⟩
  ·rw [show accOk (souS s) l ⟨id, sName, []⟩ = none from h1]
   (conv => whnf); refine recF (by simpa using he) ?_
   conv => whnf
   exact ⟨rfl, _, rfl⟩
  ·rw [show accOk (souS s) l ⟨id, sName, []⟩ = some l' from h1]
   conv => whnf
   exact ⟨rfl, _, rfl⟩
  ·rw [show accOk (souS s) l ⟨id, sName, []⟩ = some l' from h1]
   conv => whnf
   exact ⟨rfl, _, rfl⟩
 ·(conv => whnf); refine ⟨_, _, File_someI F.z3t id s hc (by omega) (by omega) ls (nx ls i 1).2 hi1 hl hn _ 0 rfl, ?_⟩
  repeat ((conv => whnf); refine And.intro rfl ?_)
  conv => whnf
  refine ⟨Gp.keepL (n := 45) (live := [(5, .ptr 1 1 0 0), (6, .ptr 2 1 0 0), (10, .ptr 3 1 0 0), (11, .ptr 4 1 0 0)]) (H1 := [gO ls (wfRI s ls (nx ls i 1).2).2, .arr 1 [ledC l], .arr 6 [defC (souS s)], .arr 1 [[.nil]], .arr 3 [[.str id, .str sName, .list false 3 (rC (wfRI s ls (nx ls i 1).2).1)]]]) [0, 1, 2, 3, 5] (by simp) (keepB_one rfl rfl rfl)
   ⟨⟨_, rfl, .same _ _ rfl⟩, ⟨_, rfl, .same _ _ rfl⟩, ⟨_, rfl, .same _ _ rfl⟩, ⟨_, rfl, .same _ _ rfl⟩, ⟨_, rfl, ob3 (pubFI (id := 4) (by simp) rfl (rC_length _).symm (rC_length _).symm (pureEs_rC _)) rfl⟩, trivial⟩ rfl ⟨.keepP 1 1 0 0 1 rfl, .keepP 2 1 0 0 2 rfl, .keepP 3 1 0 0 3 rfl, .keepP 5 1 0 0 4 rfl, trivial⟩ ?_⟩
  rintro ρ ⟨d, rfl⟩
  (conv => whnf); refine ACalls.mono (hacc _) ?_
  rintro r H' ⟨hR, rfl⟩
  rw [hD]
  rcases hR with ⟨h1, e, he, rfl⟩ | ⟨l', a, b, c, d, h1, rfl | ⟨J, rfl⟩, rfl⟩
  ·rw [show accOk (souS s) l ⟨id, sName, (wfRI s ls (nx ls i 1).2).1⟩ = none from h1]
   (conv => whnf); refine recF (by simpa using he) ?_
   conv => whnf
   exact ⟨rfl, _, rfl⟩
  ·rw [show accOk (souS s) l ⟨id, sName, (wfRI s ls (nx ls i 1).2).1⟩ = some l' from h1]
   conv => whnf
   exact ⟨rfl, _, rfl⟩
  ·rw [show accOk (souS s) l ⟨id, sName, (wfRI s ls (nx ls i 1).2).1⟩ = some l' from h1]
   conv => whnf
   exact ⟨rfl, _, rfl⟩
def LOk (s : Src) (x : Del) : Prop := x.f.src = sName ∧ x.f.recs.length ≤ 6 ∧ (∀ r ∈ x.f.recs, r.row.length ≤ s.cols.length ∧ r.seq ≤ 3) ∧ x.jd.length ≤ 6
theorem LOk.ok {s : Src} (hc : s.cols.length ≤ 900) {x : Del} (h : LOk s x) : x.ok := ⟨by have := h.2.1; omega, fun r hr => by have := (h.2.2.1 r hr).1; omega, by have := h.2.2.2; omega⟩
theorem delivV_ok (s : Src) (ls : List Int) (i : Nat) (id : ByteArray) (l : List Del) (h : ∀ x ∈ l, LOk s x) : (∀ x ∈ (delivV s ls i id l).1, LOk s x) ∧ (delivV s ls i id l).1.length ≤ l.length + 1 := by
 obtain ⟨h6, hr⟩ := wfRI_ok s ls (nx ls i 1).2
 show (∀ x ∈ (match accOk (souS s) l ⟨id, sName, (wfRI s ls (nx ls i 1).2).1⟩ with | some l' => l' | none => l : List Del), LOk s x) ∧ (match accOk (souS s) l ⟨id, sName, (wfRI s ls (nx ls i 1).2).1⟩ with | some l' => l' | none => l : List Del).length ≤ l.length + 1
 generalize (wfRI s ls (nx ls i 1).2).1 = R at h6 hr
 rcases accX_cases (souS s) l ⟨id, sName, R⟩ with ⟨h1, _⟩ | ⟨x, h1, _⟩ | ⟨h1, _⟩
 ·rw [h1]; exact ⟨h, Nat.le_succ _⟩
 ·rw [h1]; exact ⟨h, Nat.le_succ _⟩
 ·rw [h1]
  refine ⟨fun x hx => ?_, by simp⟩
  rcases List.mem_append.1 hx with hx | hx
  ·exact h x hx
  ·rw [List.mem_singleton.1 hx]
   exact ⟨rfl, h6, hr, by show (R.map _).length ≤ 6; rw [List.length_map]; exact h6⟩
theorem delivV_le (s : Src) (ls : List Int) (i : Nat) (id : ByteArray) (l : List Del) (h : i ≤ ls.length) : (delivV s ls i id l).2 ≤ ls.length := wfRI_le s ls _ (nx_le _ _ _ h)
theorem Deliver_spec {P : Program} (F : F_z3s P) (s : Src) (hc : s.cols ≠ []) (hcl : s.cols.length ≤ 900) (hk : s.key.length ≤ 900) (ls : List Int) (i : Nat) (hi : i ≤ ls.length) (hl : ls.length ≤ 1000000) (id : ByteArray) (hid : id.size ≤ 50000) (l : List Del) (hll : l.length ≤ 50) (hok : ∀ x ∈ l, x.ok) (H : List AObj) (g : Nat) (ho : H[g]? = some (gO ls i)) :
  ACalls P F.id [.agg (ledC l), .agg (defC (souS s)), .str id, .ptr g 1 0 0, .int .i64 6] H (fun r H' => r = .agg (ledC (delivV s ls i id l).1) ∧ H' = H.set g (gO ls (delivV s ls i id l).2)) := by
 refine ACalls.fr (args0 := [.agg (ledC l), .agg (defC (souS s)), .str id, .ptr 0 1 0 0, .int .i64 6]) (o1 := gO ls (delivV s ls i id l).2) ?_ ho rfl rfl (.cl rfl (.cl rfl (.cl rfl (.pt (.cl rfl trivial))))) (.closed _ rfl)
 refine (Deliver_raw F s hc hcl hk ls i hi hl id hid l hll hok).gp ?_
 rintro r H' ⟨rfl, t, rfl⟩
 exact Gp.res [0] (by simp) (keepB_hd rfl) (H1 := [gO ls (delivV s ls i id l).2]) ⟨⟨_, rfl, .same _ _ rfl⟩, trivial⟩ (.closed _ rfl) ⟨_, rfl, rfl, rfl⟩
noncomputable def ledGo (s : Src) (ls : List Int) : Nat → Nat → Nat → List Del → List Del × Nat
 | 0, _, i, l => (l, i)
 | m + 1, k, i, l => ledGo s ls m (k + 1) (delivV s ls (nx ls i 8).2 (wname (IntKind.i64.wrap ((k : Int) - IntKind.i64.wrap ((nx ls i 8).1.tdiv 7)))) l).2
   (delivV s ls (nx ls i 8).2 (wname (IntKind.i64.wrap ((k : Int) - IntKind.i64.wrap ((nx ls i 8).1.tdiv 7)))) l).1
noncomputable def ledV (s : Src) (ls : List Int) : List Del × Nat := ledGo s ls 4 0 0 []
theorem ledGo_ok (s : Src) (ls : List Int) : ∀ (m k i : Nat) (l : List Del), (∀ x ∈ l, LOk s x) → (∀ x ∈ (ledGo s ls m k i l).1, LOk s x) ∧ (ledGo s ls m k i l).1.length ≤ l.length + m
 | 0, _, _, l, h => ⟨h, by simp [ledGo]⟩
 | m + 1, k, i, l, h => by
  have h1 := delivV_ok s ls (nx ls i 8).2 (wname (IntKind.i64.wrap ((k : Int) - IntKind.i64.wrap ((nx ls i 8).1.tdiv 7)))) l h
  have h2 := ledGo_ok s ls m (k + 1) (delivV s ls (nx ls i 8).2 (wname (IntKind.i64.wrap ((k : Int) - IntKind.i64.wrap ((nx ls i 8).1.tdiv 7)))) l).2 _ h1.1
  rw [ledGo]
  exact ⟨h2.1, by have := h1.2; have := h2.2; omega⟩
theorem ledV_ok (s : Src) (ls : List Int) : (∀ x ∈ (ledV s ls).1, LOk s x) ∧ (ledV s ls).1.length ≤ 4 := by
 have := ledGo_ok s ls 4 0 0 [] fun x h => by cases h
 exact ⟨this.1, this.2⟩
def ledW (l : List Del) (c : AVal) : Prop := (l = [] ∧ c = .nil) ∨ c = .list false 4 (dsC l)
theorem wkLed {l : List Del} {c : AVal} (h : ledW l c) : Wk (.agg [c]) (.agg (ledC l)) := by
 refine .agg _ _ rfl fun i x y h1 h2 => ?_
 rcases i with _ | i
 ·cases h1; cases h2
  rcases h with ⟨rfl, rfl⟩ | rfl
  ·exact .nil _ _
  ·exact .refl _
 ·simp at h1
set_option maxHeartbeats 1000000 in
set_option maxRecDepth 20000 in
theorem Ledger_raw {P : Program} (F : F_z3v P) (s : Src) (hc : s.cols ≠ []) (hcl : s.cols.length ≤ 900) (hk : s.key.length ≤ 900) (ls : List Int) (hl : ls.length ≤ 1000000) :
  ACalls P F.id [.agg (defC (souS s)), .ptr 0 1 0 0, .int .i64 4, .int .i64 6] [gO ls 0] (fun r H' => (∃ c, r = .agg [c] ∧ ledW (ledV s ls).1 c) ∧ ∃ t, H' = gO ls (ledV s ls).2 :: t) := by
 refine acalls_of_body F.has ?_
 conv => whnf
 refine ⟨fun m ρ H1 => ∃ (k i : Nat) (l : List Del) (c : AVal), k + m = 4 ∧ i ≤ ls.length ∧ l.length ≤ k ∧ (∀ x ∈ l, LOk s x) ∧ ledGo s ls m k i l = ledV s ls ∧ ledW l c ∧ H1 = [gO ls i, .arr 6 [defC (souS s)], .arr 1 [[.nil]], .arr 1 [[c]]] ∧ Sv 34 [(1, .ptr 0 1 0 0), (2, .int .i64 4), (3, .int .i64 6), (4, .ptr 1 1 0 0), (8, .ptr 2 1 0 0), (9, .ptr 3 1 0 0), (10, .int .i64 k)] ρ, 4, [], ?_, ?_⟩
 ·exact ⟨0, 0, [], .nil, by omega, by omega, by simp, fun x h => (by cases h), rfl, .inl ⟨rfl, rfl⟩, rfl, Sv.intro rfl ⟨rfl, rfl, rfl, rfl, rfl, rfl, rfl, trivial⟩⟩
 rintro m ρ H1 ⟨k, i, l, c, hkm, hi, hlk, hlo, hr, hw, rfl, d, rfl⟩
 (conv => whnf); refine recA (fun hlt => ?_) (fun hlt => ?_)
 ·simp at hlt
  obtain ⟨m, rfl⟩ : ∃ m', m = m' + 1 := ⟨m - 1, by omega⟩
  rw [ledGo] at hr
  have hn8 := nx_le ls i 8 hi
  have hsz := wname_size (IntKind.i64.wrap ((k : Int) - IntKind.i64.wrap ((nx ls i 8).1.tdiv 7)))
  have hd1 := delivV_ok s ls (nx ls i 8).2 (wname (IntKind.i64.wrap ((k : Int) - IntKind.i64.wrap ((nx ls i 8).1.tdiv 7)))) l hlo
  have hd2 := delivV_le s ls (nx ls i 8).2 (wname (IntKind.i64.wrap ((k : Int) - IntKind.i64.wrap ((nx ls i 8).1.tdiv 7)))) l hn8
  have hD := fun H g ho => Deliver_spec F.z3s s hc hcl hk ls (nx ls i 8).2 hn8 hl (wname (IntKind.i64.wrap ((k : Int) - IntKind.i64.wrap ((nx ls i 8).1.tdiv 7)))) (by omega) l (by omega) (fun x hx => (hlo x hx).ok hcl) H g ho
  rcases hw with ⟨rfl, rfl⟩ | rfl
  ·(conv => whnf); refine ⟨_, _, Next_spec F.z3x ls i 8 hi hl (by decide) _ 0 rfl, ?_⟩
   (conv => whnf); refine And.intro (by decide) ?_
   (conv => whnf); refine ⟨_, wName_spec F.z3w _ _, ?_⟩
   (conv => whnf); refine ⟨_, _, ACalls.weak (hD _ 0 rfl) (.cons (wkLed (.inl ⟨rfl, rfl⟩)) (.cons (.refl _) (.cons (.refl _) (.cons (.refl _) (.cons (.refl _) .nil))))), ?_⟩
   repeat ((conv => whnf); refine And.intro rfl ?_)
   conv => whnf
   refine ⟨m, by omega, Gp.keep rfl ?_ fun ρ1 h => ⟨k + 1, _, _, _, by omega, hd2, by have := hd1.2; simp at this ⊢; omega, hd1.1, hr, .inr rfl, rfl, h⟩⟩
   exact ⟨rfl, rfl, rfl, rfl, rfl, rfl, intEq (wrapI _ (by omega) (by omega)), trivial⟩
  ·(conv => whnf); refine ⟨_, _, Next_spec F.z3x ls i 8 hi hl (by decide) _ 0 rfl, ?_⟩
   (conv => whnf); refine And.intro (by decide) ?_
   (conv => whnf); refine ⟨_, wName_spec F.z3w _ _, ?_⟩
   (conv => whnf); refine ⟨_, _, hD _ 0 rfl, ?_⟩
   repeat ((conv => whnf); refine And.intro rfl ?_)
   conv => whnf
   refine ⟨m, by omega, Gp.keep rfl ?_ fun ρ1 h => ⟨k + 1, _, _, _, by omega, hd2, by have := hd1.2; omega, hd1.1, hr, .inr rfl, rfl, h⟩⟩
   exact ⟨rfl, rfl, rfl, rfl, rfl, rfl, intEq (wrapI _ (by omega) (by omega)), trivial⟩
 ·simp at hlt
  have hm : m = 0 := by omega
  subst hm
  rw [ledGo] at hr
  conv => whnf
  rw [← hr]
  rcases hw with ⟨rfl, rfl⟩ | rfl
  ·exact ⟨⟨_, rfl, .inl ⟨rfl, rfl⟩⟩, _, rfl⟩
  ·exact ⟨⟨_, rfl, .inr rfl⟩, _, rfl⟩
def cmpE (a b : Ent) : Int := rowsCmp a.row b.row
def srtE (l : List Ent) : List Ent := isort cmpE l
theorem orders_E : Orders cmpE where
 anti x y h := by have := rowsCmp_anti x.row y.row; unfold cmpE at *; omega
 trans x y z h1 h2 := rows_tr x.row y.row z.row h1 h2
theorem asc_E {l : List Ent} (h : Asc l) : AscO cmpE l := h.imp fun {a b} h => by
 have := rowsCmp_anti a.row b.row
 unfold cmpE; omega
theorem srtE_eq {l t : List Ent} (hp : t.Perm l) (ha : Asc t) (h1 : ∀ x ∈ l, ∀ y ∈ l, x.row = y.row → x = y) : t = srtE l :=
 isort_eq orders_E hp (asc_E ha) fun x hx y hy a b => h1 x hx y hy ((rowsCmp_zero _ _).1 (by have := rowsCmp_anti x.row y.row; unfold cmpE at a b; omega))
def tmV (n : Int) : V := ⟨4, n, bs []⟩
def endV (s : Sou) (v : Ver) (vs : List Ver) : V :=
 match vs.head? with
 | some w => if rowsCmp (keyV s v.rc.row) (keyV s w.rc.row) = 0 then tmV (timeV s w.rc) else zV
 | none => zV
def ivR (s : Sou) (v : Ver) (vs : List Ver) : List V := v.rc.row ++ [tmV (timeV s v.rc), endV s v vs]
def ivsG (s : Sou) : List Ver → List Ent
 | [] => []
 | v :: vs => if v.rc.del then ivsG s vs else ⟨ivR s v vs, 1⟩ :: ivsG s vs
def ivsV (s : Sou) (vs : List Ver) : List Ent := srtE (ivsG s (usedV s (srtV s vs)))
theorem ivsG_len (s : Sou) : ∀ vs, (ivsG s vs).length ≤ vs.length
 | [] => Nat.le_refl _
 | v :: vs => by
  have := ivsG_len s vs
  rw [ivsG]
  split
  ·simp; omega
  ·simp; omega
theorem ivsG_one (s : Sou) : ∀ vs, ∀ e ∈ ivsG s vs, e.cnt = 1
 | [], e, h => by cases h
 | v :: vs, e, h => by
  rw [ivsG] at h
  split at h
  ·exact ivsG_one s vs e h
  ·rcases List.mem_cons.1 h with rfl | h
   ·rfl
   ·exact ivsG_one s vs e h
theorem ivsG_row (s : Sou) (hs : s.good) : ∀ vs : List Ver, (∀ v ∈ vs, okV s v) → ∀ e ∈ ivsG s vs, e.row.length ≤ 12
 | [], _, e, h => by cases h
 | v :: vs, hv, e, h => by
  rw [ivsG] at h
  have hvs := fun w hw => hv w (List.mem_cons_of_mem _ hw)
  split at h
  ·exact ivsG_row s hs vs hvs e h
  ·rcases List.mem_cons.1 h with rfl | h
   ·have := (okV_len hs (hv v (List.mem_cons_self ..))).1
    simp [ivR]; omega
   ·exact ivsG_row s hs vs hvs e h
theorem cloneV_ex {P : Program} (F : F_z1e P) (ex : Bool) (cs : List V) (hn : cs ≠ []) (hl : cs.length ≤ 1000000) (H : List AObj) :
  ACalls P F.id [.list ex 3 (vC cs)] H (fun r H' => r = .sl H.length cs.length 0 cs.length ∧ H' = H ++ [.arr 3 (vC cs)]) :=
 (CloneV_own F ex cs hl H).mono fun r H' h => h.resolve_left fun h => hn h.2.1
set_option maxHeartbeats 1000000 in
set_option maxRecDepth 20000 in
theorem Intervals_spec {P : Program} (F : F_z0l P) (hS : SortE P F.z1m.id F.z0m.id) (s : Sou) (hs : s.good) (ex : Bool) (vs : List Ver) (h40 : vs.length < 40) (hok : ∀ v ∈ vs, okV s v) (hU : Uq s vs) (H : List AObj) :
  ACalls P F.id [.agg (souC s), .list ex 5 (vsC vs)] H (fun r H' => r = .tuple [.list false 2 (eC (ivsV s vs)), .int .i64 0] ∧ H' = H) := by
 refine ACalls.pure (by simp [souC, AVal.closed, AVal.isPure]) (acalls_of_body F.has ?_)
 (conv => whnf); refine ACalls.use (hColumns_spec F.z0h s hs _) ?_
 conv => whnf
 refine ⟨fun m ρ H1 => ∃ q : Nat, q + m = vs.length ∧ H1 = [.arr 7 [souC s]] ∧ Sv 106 [(1, .list ex 5 (vsC vs)), (2, .ptr 0 1 0 0), (25, .list ex 5 (vsC vs)), (26, .int .i64 vs.length), (27, .int .i64 q)] ρ, vs.length, [], ?_, ?_⟩
 ·exact ⟨0, by omega, rfl, Sv.intro rfl ⟨rfl, rfl, rfl, intEq (by rw [vsC_length]), rfl, trivial⟩⟩
 rintro m ρ H1 ⟨q, hk, rfl, d, rfl⟩
 (conv => whnf); refine recA (fun hlt => ?_) (fun hlt => ?_)
 ·simp at hlt
  have hx : vs[q]? = some vs[q] := List.getElem?_eq_getElem hlt
  have ho := hok _ (List.getElem_mem hlt)
  have hv := okV_len hs ho
  generalize vs[q] = v at hx hv ho
  (conv => whnf); refine And.intro (by omega) ?_
  (conv => whnf); refine recO (vsC_at hx) ?_
  (conv => whnf); refine ACalls.use (wFits_spec F.z43 s hs.ok v.rc (by omega) _) ?_
  (conv => whnf); refine recF (by rw [show fitsV s v.rc = 0 from ho]; rfl) ?_
  refine ⟨m - 1, by omega, Gp.first 1 [.arr 7 [souC s]] rfl rfl (by rw [List.all_cons, pureS]; rfl) rfl ?_ fun ρ1 h => ⟨q + 1, by omega, rfl, h⟩⟩
  exact ⟨.closed _ rfl, .keepP 0 1 0 0 0 rfl, .closed _ rfl, .closed _ rfl, pub_int (wrapI _ (by omega) (by omega)), trivial⟩
 simp at hlt
 clear hlt hk
 have hokS : ∀ v ∈ srtV s vs, okV s v := fun v hv => hok v ((isort_perm _).mem_iff.1 hv)
 have hokU : ∀ v ∈ usedV s (srtV s vs), okV s v := fun v hv => hokS v ((usedV_sub s _).subset hv)
 have hls : (srtV s vs).length = vs.length := isort_length _
 have hlu : (usedV s (srtV s vs)).length ≤ vs.length := hls ▸ (usedV_sub s _).length_le
 (conv => whnf); refine ⟨_, sorted_spec F.z0q s hs ex vs h40 hok hU _, ?_⟩
 (conv => whnf); refine ⟨_, hused_spec F.z0s s hs false (srtV s vs) (by omega) hokS _, ?_⟩
 repeat ((conv => whnf); refine And.intro rfl ?_)
 have hI : ivsV s vs = srtE (ivsG s (usedV s (srtV s vs))) := rfl
 rw [hI]
 clear hI
 generalize usedV s (srtV s vs) = l at hokU hlu
 conv => whnf
 refine ⟨fun m ρ H1 => ∃ (k : Nat) (E : List Ent), k + m = l.length ∧ E.length ≤ k ∧ E ++ ivsG s (l.drop k) = ivsG s l ∧ H1 = [.arr 7 [souC s], .arr 2 (eC E)] ∧ Sv 106 [(2, .ptr 0 1 0 0), (11, .list false 5 (vsC l)), (12, .sl 1 E.length 0 E.length), (44, .list false 5 (vsC l)), (45, .int .i64 l.length), (46, .int .i64 k)] ρ, l.length, [(12, 2)], ?_, ?_⟩
 ·exact ⟨0, [], by omega, by simp, rfl, rfl, Sv.intro rfl ⟨rfl, rfl, rfl, rfl, intEq (by rw [vsC_length]), rfl, trivial⟩⟩
 rintro m ρ H1 ⟨k, E, hk, hE, hr, rfl, d, rfl⟩
 (conv => whnf); refine recA (fun hlt => ?_) (fun hlt => ?_)
 ·simp at hlt
  have hx : l[k]? = some l[k] := List.getElem?_eq_getElem hlt
  have hv := okV_len hs (hokU _ (List.getElem_mem hlt))
  generalize l[k] = v at hx hv
  rw [drop_cons hx, ivsG] at hr
  have ek : IntKind.i64.wrap ((k : Int) + 1) = ((k + 1 : Nat) : Int) := by rw [wrapI _ (by omega) (by omega)]; omega
  (conv => whnf); refine And.intro (by omega) ?_
  (conv => whnf); refine recO (vsC_at hx) ?_
  (conv => whnf); refine recA (fun hd => ?_) (fun hd => ?_)
  ·rw [if_pos (show v.rc.del = true from hd)] at hr
   conv => whnf
   refine ⟨m - 1, by omega, Gp.first 2 [.arr 7 [souC s], .arr 2 (eC E)] rfl rfl (all2 (pureS s) (pureEs_eC _)) rfl ?_ fun ρ1 h => ⟨k + 1, E, by omega, by omega, hr, rfl, h⟩⟩
   exact ⟨.keepP 0 1 0 0 0 rfl, .closed _ rfl, .keep 1 _ _ _ 1 rfl, .closed _ rfl, .closed _ rfl, pub_int ek, trivial⟩
  rw [if_neg (by rw [show v.rc.del = false from hd]; simp)] at hr
  (conv => whnf); refine recA (fun h1 => ?_) (fun h1 => ?_)
  ·simp [ek, vsC_length] at h1
   have h1' : k + 1 < l.length := by omega
   have hy : l[k + 1]? = some l[k + 1] := List.getElem?_eq_getElem h1'
   have hw := okV_len hs (hokU _ (List.getElem_mem h1'))
   generalize l[k + 1] = w at hy hw
   have hhd : (l.drop (k + 1)).head? = some w := by rw [drop_cons hy]; rfl
   have hidx : (vsC l)[(IntKind.i64.wrap ((k : Int) + 1)).toNat]? = some (verC w) := by rw [ek, Int.toNat_natCast]; exact vsC_at hy
   (conv => whnf); refine ⟨_, hkey_spec F.z0o s hs v hv.2 _, ?_⟩
   (conv => whnf); refine And.intro (by rw [ek]; omega) ?_
   (conv => whnf); refine recO (hidx) ?_
   (conv => whnf); refine ⟨_, hkey_spec F.z0o s hs w hw.2 _, ?_⟩
   (conv => whnf); refine ⟨_, value_CompareRows_spec F.z22 false false (keyV s v.rc.row) (keyV s w.rc.row) (by rw [keyV_length]; have := hs.klen; omega) _, ?_⟩
   repeat ((conv => whnf); refine And.intro rfl ?_)
   (conv => whnf); refine recA (fun hb => ?_) (fun hb => ?_)
   ·simp at hb
    (conv => whnf); refine And.intro (by rw [ek]; omega) ?_
    (conv => whnf); refine recO (hidx) ?_
    (conv => whnf); refine ⟨_, wTime_spec F.z44 s hs.ok w.rc (by omega) _, ?_⟩
    repeat ((conv => whnf); refine And.intro rfl ?_)
    have hen : endV s v (l.drop (k + 1)) = tmV (timeV s w.rc) := by simp only [endV, hhd]; exact if_pos hb
    (conv => whnf); refine ⟨_, _, cloneV_ex F.z1e false v.rc.row (fun h => by rw [h] at hv; simp at hv; exact hs.ne hv) (by omega) _, ?_⟩
    (conv => whnf); refine ⟨_, wTime_spec F.z44 s hs.ok v.rc (by omega) _, ?_⟩
    (conv => whnf); refine recT (by rw [vC_length]; exact Nat.beq_refl _) ?_
    (conv => whnf); refine And.intro (⟨roomMul (by simp; omega) (by omega), roomB_le (by simp; omega), rfl, by rw [vC_length]⟩) ?_
    repeat ((conv => whnf); refine And.intro rfl ?_)
    conv => whnf
    (conv => whnf); refine recT (by rw [eC_length]; exact Nat.beq_refl _) ?_
    (conv => whnf); refine And.intro (⟨roomMul (by simp; omega) (by omega), roomB_le (by simp; omega), rfl, by rw [eC_length]⟩) ?_
    conv => whnf
    have hrw : vC v.rc.row ++ [valC (tmV (timeV s v.rc)), valC (tmV (timeV s w.rc))] = vC (ivR s v (l.drop (k + 1))) := by rw [ivR, hen, vC_append]; rfl
    have hrl : (vC v.rc.row ++ [valC (tmV (timeV s v.rc)), valC (tmV (timeV s w.rc))]).length = (ivR s v (l.drop (k + 1))).length := by rw [hrw, vC_length]
    have hOl : (eC E ++ [[AVal.sl 4 (vC v.rc.row ++ [valC (tmV (timeV s v.rc)), valC (tmV (timeV s w.rc))]).length 0 (vC v.rc.row ++ [valC (tmV (timeV s v.rc)), valC (tmV (timeV s w.rc))]).length, .int .i64 1]]).length = (E ++ [(⟨ivR s v (l.drop (k + 1)), 1⟩ : Ent)]).length := by simp [eC_length]
    refine ⟨m - 1, by omega, Gp.some (H1 := [.arr 7 [souC s], .arr 2 (eC (E ++ [⟨ivR s v (l.drop (k + 1)), 1⟩]))]) [0, 1] (by simp) ⟨⟨_, rfl, .same _ _ (pureS s)⟩, ⟨⟨_, rfl, ?_⟩, trivial⟩⟩ rfl ?_ fun ρ1 h => ⟨k + 1, E ++ [⟨ivR s v (l.drop (k + 1)), 1⟩], by omega, by simp; omega, by rw [← hr]; simp, rfl, h⟩⟩
    ·exact obPushI E (ivR s v (l.drop (k + 1))) 1 _ 4 [0, 1] _ (by simp) (by rw [← hrw]; rfl) hrl
    exact ⟨.keepP 0 1 0 0 0 rfl, .closed _ rfl, pubSl (k := 1) rfl rfl hOl hOl, .closed _ rfl, .closed _ rfl, pub_int ek, trivial⟩
   ·simp at hb
    have hen : endV s v (l.drop (k + 1)) = zV := by simp only [endV, hhd]; exact if_neg hb
    (conv => whnf); refine ⟨_, _, cloneV_ex F.z1e false v.rc.row (fun h => by rw [h] at hv; simp at hv; exact hs.ne hv) (by omega) _, ?_⟩
    (conv => whnf); refine ⟨_, wTime_spec F.z44 s hs.ok v.rc (by omega) _, ?_⟩
    (conv => whnf); refine recT (by rw [vC_length]; exact Nat.beq_refl _) ?_
    (conv => whnf); refine And.intro (⟨roomMul (by simp; omega) (by omega), roomB_le (by simp; omega), rfl, by rw [vC_length]⟩) ?_
    repeat ((conv => whnf); refine And.intro rfl ?_)
    conv => whnf
    (conv => whnf); refine recT (by rw [eC_length]; exact Nat.beq_refl _) ?_
    (conv => whnf); refine And.intro (⟨roomMul (by simp; omega) (by omega), roomB_le (by simp; omega), rfl, by rw [eC_length]⟩) ?_
    conv => whnf
    have hrw : vC v.rc.row ++ [valC (tmV (timeV s v.rc)), valC (zV)] = vC (ivR s v (l.drop (k + 1))) := by rw [ivR, hen, vC_append]; rfl
    have hrl : (vC v.rc.row ++ [valC (tmV (timeV s v.rc)), valC (zV)]).length = (ivR s v (l.drop (k + 1))).length := by rw [hrw, vC_length]
    have hOl : (eC E ++ [[AVal.sl 4 (vC v.rc.row ++ [valC (tmV (timeV s v.rc)), valC (zV)]).length 0 (vC v.rc.row ++ [valC (tmV (timeV s v.rc)), valC (zV)]).length, .int .i64 1]]).length = (E ++ [(⟨ivR s v (l.drop (k + 1)), 1⟩ : Ent)]).length := by simp [eC_length]
    refine ⟨m - 1, by omega, Gp.some (H1 := [.arr 7 [souC s], .arr 2 (eC (E ++ [⟨ivR s v (l.drop (k + 1)), 1⟩]))]) [0, 1] (by simp) ⟨⟨_, rfl, .same _ _ (pureS s)⟩, ⟨⟨_, rfl, ?_⟩, trivial⟩⟩ rfl ?_ fun ρ1 h => ⟨k + 1, E ++ [⟨ivR s v (l.drop (k + 1)), 1⟩], by omega, by simp; omega, by rw [← hr]; simp, rfl, h⟩⟩
    ·exact obPushI E (ivR s v (l.drop (k + 1))) 1 _ 4 [0, 1] _ (by simp) (by rw [← hrw]; rfl) hrl
    exact ⟨.keepP 0 1 0 0 0 rfl, .closed _ rfl, pubSl (k := 1) rfl rfl hOl hOl, .closed _ rfl, .closed _ rfl, pub_int ek, trivial⟩
  ·simp [ek, vsC_length] at h1
   repeat ((conv => whnf); refine And.intro rfl ?_)
   have hhd : (l.drop (k + 1)).head? = none := by rw [List.drop_of_length_le (by omega)]; rfl
   have hen : endV s v (l.drop (k + 1)) = zV := by simp only [endV, hhd]
   (conv => whnf); refine ⟨_, _, cloneV_ex F.z1e false v.rc.row (fun h => by rw [h] at hv; simp at hv; exact hs.ne hv) (by omega) _, ?_⟩
   (conv => whnf); refine ⟨_, wTime_spec F.z44 s hs.ok v.rc (by omega) _, ?_⟩
   (conv => whnf); refine recT (by rw [vC_length]; exact Nat.beq_refl _) ?_
   (conv => whnf); refine And.intro (⟨roomMul (by simp; omega) (by omega), roomB_le (by simp; omega), rfl, by rw [vC_length]⟩) ?_
   repeat ((conv => whnf); refine And.intro rfl ?_)
   conv => whnf
   (conv => whnf); refine recT (by rw [eC_length]; exact Nat.beq_refl _) ?_
   (conv => whnf); refine And.intro (⟨roomMul (by simp; omega) (by omega), roomB_le (by simp; omega), rfl, by rw [eC_length]⟩) ?_
   conv => whnf
   have hrw : vC v.rc.row ++ [valC (tmV (timeV s v.rc)), valC (zV)] = vC (ivR s v (l.drop (k + 1))) := by rw [ivR, hen, vC_append]; rfl
   have hrl : (vC v.rc.row ++ [valC (tmV (timeV s v.rc)), valC (zV)]).length = (ivR s v (l.drop (k + 1))).length := by rw [hrw, vC_length]
   have hOl : (eC E ++ [[AVal.sl 4 (vC v.rc.row ++ [valC (tmV (timeV s v.rc)), valC (zV)]).length 0 (vC v.rc.row ++ [valC (tmV (timeV s v.rc)), valC (zV)]).length, .int .i64 1]]).length = (E ++ [(⟨ivR s v (l.drop (k + 1)), 1⟩ : Ent)]).length := by simp [eC_length]
   refine ⟨m - 1, by omega, Gp.some (H1 := [.arr 7 [souC s], .arr 2 (eC (E ++ [⟨ivR s v (l.drop (k + 1)), 1⟩]))]) [0, 1] (by simp) ⟨⟨_, rfl, .same _ _ (pureS s)⟩, ⟨⟨_, rfl, ?_⟩, trivial⟩⟩ rfl ?_ fun ρ1 h => ⟨k + 1, E ++ [⟨ivR s v (l.drop (k + 1)), 1⟩], by omega, by simp; omega, by rw [← hr]; simp, rfl, h⟩⟩
   ·exact obPushI E (ivR s v (l.drop (k + 1))) 1 _ 4 [0, 1] _ (by simp) (by rw [← hrw]; rfl) hrl
   exact ⟨.keepP 0 1 0 0 0 rfl, .closed _ rfl, pubSl (k := 1) rfl rfl hOl hOl, .closed _ rfl, .closed _ rfl, pub_int ek, trivial⟩
 ·simp at hlt
  rw [List.drop_of_length_le (by omega), ivsG, List.append_nil] at hr
  subst hr
  have hll := ivsG_len s l
  have hrr := ivsG_row s hs l hokU
  (conv => whnf); refine recT (by rw [eC_length]; exact Nat.beq_refl _) ?_
  (conv => whnf); refine recF (by simp; omega) ?_
  (conv => whnf); refine ACalls.mono (hS.all (ivsG s l) (by omega) (fun e h => by have := hrr e h; omega) _ 1 rfl) ?_
  rintro r H' ⟨rfl, t, hp, ha, rfl⟩
  have ht : t = srtE (ivsG s l) := srtE_eq hp ha fun x hx y hy h => by
   have a := ivsG_one s l x hx
   have b := ivsG_one s l y hy
   cases x; cases y; simp_all
  have hl := hp.length_eq
  conv => whnf
  refine pub2 (pubFxH (es := eC (srtE (ivsG s l))) (es' := eC t) rfl (by rw [ht]) ?_ ?_ (pureEs_eC _)) (.closed _ rfl)
  ·rw [eC_length, ← ht, hl]
  ·rw [eC_length, ← ht, hl]
theorem Ledger_spec {P : Program} (F : F_z3v P) (s : Src) (hc : s.cols ≠ []) (hcl : s.cols.length ≤ 900) (hk : s.key.length ≤ 900) (ls : List Int) (hl : ls.length ≤ 1000000) (H : List AObj) (g : Nat) (ho : H[g]? = some (gO ls 0)) :
  ACalls P F.id [.agg (defC (souS s)), .ptr g 1 0 0, .int .i64 4, .int .i64 6] H (fun r H' => r = .agg (ledC (ledV s ls).1) ∧ H' = H.set g (gO ls (ledV s ls).2)) := by
 have h1 := (Ledger_raw F s hc hcl hk ls hl).gp (Q := fun r H' => (∃ c, r = .agg [c] ∧ ledW (ledV s ls).1 c) ∧ H' = [gO ls (ledV s ls).2]) (by
  rintro r H' ⟨⟨c, rfl, hw⟩, t, rfl⟩
  refine Gp.res [0] (by simp) (keepB_hd rfl) (H1 := [gO ls (ledV s ls).2]) ⟨⟨_, rfl, .same _ _ rfl⟩, trivial⟩ (.closed (.agg [c]) ?_) ⟨_, rfl, ⟨c, rfl, hw⟩, rfl⟩
  rcases hw with ⟨_, rfl⟩ | rfl <;> rfl)
 refine ACalls.fr (args0 := [.agg (defC (souS s)), .ptr 0 1 0 0, .int .i64 4, .int .i64 6]) (o1 := gO ls (ledV s ls).2) ?_ ho rfl rfl (.cl rfl (.pt (.cl rfl (.cl rfl trivial)))) (.closed _ rfl)
 refine h1.weakR ?_
 rintro r H' ⟨⟨c, rfl, hw⟩, rfl⟩
 exact ⟨_, wkLed hw, rfl, rfl⟩
theorem shop_raw {P : Program} (F : F_z29 P) (n : Int) (H : List AObj) :
  ACalls P F.id [.int .i64 n] H (fun r H' => r = .agg [.list true 3 [zonC], .list true 7 [srcC (wsrc n)], .nil, .nil, .nil, .nil] ∧ H' = H) := by
 refine ACalls.pure rfl (acalls_of_body F.has ?_)
 (conv => whnf); refine ACalls.use (Source_spec F.z41 n _) ?_
 conv => whnf
 exact .closed _ rfl
theorem shop_spec {P : Program} (F : F_z29 P) (n : Int) (H : List AObj) :
  ACalls P F.id [.int .i64 n] H (fun r H' => r = .agg (defC (souS (wsrc n))) ∧ H' = H) :=
 (shop_raw F n H).weakR (by
  rintro r H' ⟨rfl, rfl⟩
  refine ⟨.agg (defC (souS (wsrc n))), .agg _ _ rfl fun i a b h1 h2 => ?_, rfl, rfl⟩
  rcases i with _ | _ | _ | _ | _ | _ | i
  ·cases h1; cases h2; exact .list _ _ _ _ (by simp)
  ·cases h1; cases h2; exact .list _ _ _ _ (by simp)
  ·cases h1; cases h2; exact .refl _
  ·cases h1; cases h2; exact .refl _
  ·cases h1; cases h2; exact .refl _
  ·cases h1; cases h2; exact .refl _
  ·simp at h1)
theorem wsrcC (n : Int) : (wsrc n).cols = (if wpart n then wcols ++ [⟨bs [112, 97, 114, 116], 3, false⟩] else wcols) := rfl
theorem wsrcK (n : Int) : (wsrc n).key = (if wpart n then [bs [112, 97, 114, 116], bs [105, 100]] else [bs [105, 100]]) := rfl
theorem wsrc_bnd (n : Int) : (wsrc n).cols ≠ [] ∧ (wsrc n).cols.length ≤ 4 ∧ (wsrc n).key.length ≤ 2 ∧ 3 ≤ (wsrc n).cols.length := by
 rw [wsrcC, wsrcK]
 split <;> simp [wcols]
set_option maxRecDepth 20000 in
theorem made_spec {P : Program} (F : F_z28 P) (n : Int) (ls : List Int) (hl : ls.length ≤ 1000000) (H : List AObj) :
  ACalls P F.id [.int .i64 n, .list false 1 (iC ls)] H (fun r H' => r = .tuple [.agg (srcC (wsrc n)), .agg (ledC (ledV (wsrc n) ls).1), .ptr H.length 1 0 0] ∧ H' = H ++ [gO ls (ledV (wsrc n) ls).2]) := by
 obtain ⟨h1, h2, h3, _⟩ := wsrc_bnd n
 have h0 : ACalls P F.id [.int .i64 n, .list false 1 (iC ls)] [] (fun r H1 => r = .tuple [.agg (srcC (wsrc n)), .agg (ledC (ledV (wsrc n) ls).1), .ptr 3 1 0 0] ∧ ∃ a b c, H1 = [a, b, c, gO ls (ledV (wsrc n) ls).2]) := by
  refine acalls_of_body F.has ?_
  (conv => whnf); refine ACalls.use (shop_spec F.z29 n _) ?_
  (conv => whnf); refine And.intro (by decide) ?_
  (conv => whnf); refine ⟨_, _, Ledger_spec F.z3v (wsrc n) h1 (by omega) (by omega) ls hl _ 3 rfl, ?_⟩
  repeat ((conv => whnf); refine And.intro rfl ?_)
  (conv => whnf); refine And.intro (by (conv => whnf); exact ⟨by decide, rfl⟩) ?_
  repeat ((conv => whnf); refine And.intro rfl ?_)
  exact ⟨_, _, _, rfl⟩
 refine ACalls.lift rfl h0 ?_
 rintro r H1 ⟨rfl, a, b, c, rfl⟩
 refine ⟨[3], .tuple [.agg (srcC (wsrc n)), .agg (ledC (ledV (wsrc n) ls).1), .ptr H.length 1 0 0], [gO ls (ledV (wsrc n) ls).2], pub3 (.closed _ rfl) (.closed _ rfl) (.keepP 3 1 0 0 0 rfl), by simp, rfl, fun k id hk => ?_, rfl, rfl⟩
 cases k with
 | zero => simp at hk; subst hk; exact ⟨rfl, _, _, rfl, rfl⟩
 | succ k => simp at hk
theorem cmpI_lt (a b : Int) : cmpI a b < 0 ↔ a < b := by unfold cmpI; split <;> (try split) <;> omega
theorem couL_uq (s : Sou) (l : List Del) : Uq s (couL s 0 l) := by
 intro x hx y hy h
 obtain ⟨_, _, _, h1, h2⟩ := cmpVr_zero.1 h
 obtain ⟨k1, d1, e1, m1⟩ := couL_mem hx
 obtain ⟨k2, d2, e2, m2⟩ := couL_mem hy
 obtain ⟨_, _, f1, j1, _, p1, g1⟩ := couR_mem m1
 obtain ⟨_, _, f2, j2, _, p2, g2⟩ := couR_mem m2
 have hk : k1 = k2 := by omega
 subst hk
 rw [e1] at e2; cases e2
 have hj : j1 = j2 := by omega
 subst hj
 rw [g1] at g2
 obtain ⟨rx, fx, px⟩ := x
 obtain ⟨ry, fy, py⟩ := y
 simp only [Option.some.injEq] at g2
 simp only [] at h1 h2
 subst h1 h2 g2
 rfl
set_option maxRecDepth 20000 in
theorem sameEnt_spec {P : Program} (F : F_z2h P) (e1 e2 : Bool) (a b : List Ent) (ha : a.length ≤ 100000) (hr : ∀ e ∈ a, e.row.length ≤ 1000) (H : List AObj) :
  ACalls P F.id [.list e1 2 (eC a), .list e2 2 (eC b)] H (fun r H' => r = .bool (eqD a b) ∧ H' = H) := by
 refine ACalls.pure (by simp [AVal.closed, AVal.isPure]) (acalls_of_body F.has ?_)
 (conv => whnf); refine recA (fun hn => ?_) (fun hn => ?_)
 ·simp [eC_length] at hn
  conv => whnf
  exact pubB (eqD_false fun h => hn (by rw [h])).symm
 simp [eC_length] at hn
 conv => whnf
 refine ⟨fun m ρ H1 => ∃ k : Nat, k + m = a.length ∧ (a = b ↔ a.drop k = b.drop k) ∧ H1 = [] ∧ Sv 42 [(0, .list e1 2 (eC a)), (1, .list e2 2 (eC b)), (5, .int .i64 k)] ρ, a.length, [], ?_, ?_⟩
 ·exact ⟨0, by omega, .rfl, rfl, Sv.intro rfl ⟨rfl, rfl, rfl, trivial⟩⟩
 rintro m ρ H1 ⟨k, hk, hR, rfl, d, rfl⟩
 (conv => whnf); refine recA (fun hlt => ?_) (fun hlt => ?_)
 ·simp [eC_length] at hlt
  have hx : a[k]? = some a[k] := List.getElem?_eq_getElem hlt
  have hy : b[k]? = some b[k] := List.getElem?_eq_getElem (by omega)
  have hrl := hr _ (List.getElem_mem hlt)
  generalize a[k] = x at hx hrl
  generalize b[k]'_ = y at hy
  rw [drop_cons hx, drop_cons hy] at hR
  (conv => whnf); refine And.intro (by omega) ?_
  (conv => whnf); refine recO (eC_at hx) ?_
  (conv => whnf); refine And.intro (by omega) ?_
  (conv => whnf); refine recO (eC_at hy) ?_
  (conv => whnf); refine recA (fun h1 => ?_) (fun h1 => ?_)
  ·replace h1 : (!(x.cnt == y.cnt)) = true := h1
   repeat ((conv => whnf); refine And.intro rfl ?_)
   conv => whnf
   refine pubB (eqD_false fun h => ?_).symm
   have := List.cons.inj (hR.1 h)
   rw [this.1] at h1
   simp at h1
  ·replace h1 : (!(x.cnt == y.cnt)) = false := h1
   have h1' : x.cnt = y.cnt := by simpa using h1
   (conv => whnf); refine And.intro (by omega) ?_
   (conv => whnf); refine recO (eC_at hx) ?_
   (conv => whnf); refine And.intro (by omega) ?_
   (conv => whnf); refine recO (eC_at hy) ?_
   (conv => whnf); refine ⟨_, ref22_SameRow_spec F.z2i false false x.row y.row (by omega) _, ?_⟩
   repeat ((conv => whnf); refine And.intro rfl ?_)
   (conv => whnf); refine recA (fun h2 => ?_) (fun h2 => ?_)
   ·replace h2 : (!(eqD x.row y.row)) = true := h2
    conv => whnf
    refine pubB (eqD_false fun h => ?_).symm
    have := List.cons.inj (hR.1 h)
    rw [this.1, eqD_true rfl] at h2
    simp at h2
   ·replace h2 : (!(eqD x.row y.row)) = false := h2
    have h2' : x.row = y.row := by
     refine Classical.byContradiction fun h => ?_
     rw [eqD_false h] at h2
     simp at h2
    conv => whnf
    refine ⟨m - 1, by omega, Gp.none rfl ?_ fun ρ1 h => ⟨k + 1, by omega, ?_, rfl, h⟩⟩
    ·exact ⟨.closed (.list e1 2 (eC a)) rfl, .closed (.list e2 2 (eC b)) rfl, pub_int (wrapI _ (by omega) (by omega)), trivial⟩
    ·rw [hR]
     cases x; cases y
     simp only [] at h1' h2'
     subst h1' h2'
     exact ⟨fun h => (List.cons.inj h).2, fun h => by rw [h]⟩
 ·simp [eC_length] at hlt
  rw [List.drop_of_length_le (by omega), List.drop_of_length_le (by omega)] at hR
  conv => whnf
  exact pubB (eqD_true (hR.2 rfl)).symm
end Go.AW
namespace Go.AW
variable [Draws]
section
variable {P : Program} {C C' : Nat → Nat} {τ τ' : Nat → Option Loc} {H H' : List AObj} {w w' : World}
def Indep (a : AVal) : Prop := a.closed = true ∨ ∃ f vs, a = .fn f vs ∧ vs.all AVal.isPure = true
theorem Rel.indep {d : AVal} {v : Value} (h : Rel C w τ H d v) (hd : Indep d) (hle : ∀ b, C b ≤ C' b) (hc : ∀ b i, i < C b → w'.cell? ⟨b, i, none⟩ = w.cell? ⟨b, i, none⟩) : Rel C' w' τ' H' d v := by
 rcases hd with hd | ⟨f, vs, rfl, hp⟩
 ·exact h.closed hd hle hc
 ·cases h with
  | rd h => exact .rd (h.mono hle hc)
  | fn _ _ ws hl hr => exact .fn _ _ _ hl fun i c v h1 h2 => .rd (((hr i c v h1 h2).pure (List.all_eq_true.1 hp c (List.mem_of_getElem? h1))).mono hle hc)
theorem ACalls.liftF {f : FuncId} {args : List AVal} {Q0 Q : AVal → List AObj → Prop} (ha : ∀ a ∈ args, Indep a) (h : ACalls P f args [] Q0)
  (hq : ∀ r H1, Q0 r H1 → ∃ ids r' Hn, Pub H1 H.length ids r r' ∧ ids.Nodup ∧ ids.length = Hn.length ∧ (∀ (k id : Nat), ids[k]? = some id → Hn[k]? = H1[id]? ∧ ∃ esz es, H1[id]? = some (.arr esz es) ∧ pureEs es = true) ∧ Q r' (H ++ Hn)) :
  ACalls P f args H Q := by
 intro C τ w vs hw hl hr
 have hw0 : WF C τ [] w := ⟨fun id o h => by simp at h, fun id o h => by simp at h, fun id o l h => by simp at h, fun id l h => by simp at h, fun i j li lj h => by simp at h, hw.lt⟩
 have hr0 : ∀ (i : Nat) (a : AVal) (v : Value), args[i]? = some a → vs[i]? = some v → Rel C w τ [] a v := fun i a v h1 h2 =>
  (hr i a v h1 h2).indep (ha a (List.mem_of_getElem? h1)) (fun _ => Nat.le_refl _) (fun _ _ _ => rfl)
 have hc := h C τ w vs hw0 hl hr0
 have fin : ∀ (e : Ending) (w' : World), (∃ v r C' τ' H', e = .returned v ∧ Q0 r H' ∧ Rel C' w' τ' H' r v ∧ St w (PrCall τ [] w) C' τ' H' w' ∧ Step C τ [] w C' τ' H' w') →
   ∃ v r C' τ' H', e = .returned v ∧ Q r H' ∧ Rel C' w' τ' H' r v ∧ St w (PrCall τ H w) C' τ' H' w' ∧ Step C τ H w C' τ' H' w' := by
  rintro e w' ⟨v, r, C1, τ1, H1, he, hq0, hrel, hst, hstep⟩
  obtain ⟨ids, r', Hn, hpub, hnd, hlen, hkeep, hQ⟩ := hq r H1 hq0
  have prall : ∀ b, b < w.heap.size → PrCall τ [] w b := fun b hb => ⟨hb, by rintro ⟨id, l, h, _⟩; simp at h⟩
  have hheap : ∀ b, b < w.heap.size → w'.heap[b]? = w.heap[b]? := fun b hb => hst.fr.prot b (prall b hb)
  have hnew : ∀ id l, id < H1.length → τ1 id = some l → w.heap.size ≤ l.b := fun id l h1 h2 => by
   rcases Nat.lt_or_ge l.b w.heap.size with h3 | h3
   ·exact absurd (prall _ h3) (hst.own _ ⟨id, l, h1, h2, rfl⟩)
   ·exact h3
  let τ2 : Nat → Option Loc := fun i => if i < H.length then τ i else match ids[i - H.length]? with
   | some id => τ1 id
   | none => none
  have hτ : ∀ i, i < H.length → τ2 i = τ i := fun i hi => by simp only [τ2, if_pos hi]
  have hτn : ∀ k id, ids[k]? = some id → τ2 (H.length + k) = τ1 id := fun k id hk => by
   simp only [τ2, if_neg (by omega : ¬ H.length + k < H.length), Nat.add_sub_cancel_left, hk]
  have hidlt : ∀ k id, ids[k]? = some id → id < H1.length := fun k id hk => by
   obtain ⟨_, esz, es, h1, _⟩ := hkeep k id hk
   exact (List.getElem?_eq_some_iff.1 h1).1
  have getn : ∀ k, (H ++ Hn)[H.length + k]? = Hn[k]? := fun k => by rw [List.getElem?_append_right (by omega), Nat.add_sub_cancel_left]
  have hC2 : ∀ b, b < w.heap.size → commit C1 τ1 H1 ids b = C b := fun b hb => by
   rw [commit_other fun id l h1 _ h2 h3 => by have := hnew id l h1 h2; omega]
   exact hstep.old b hb
  have step : Step C τ H w (commit C1 τ1 H1 ids) τ2 (H ++ Hn) w' := by
   refine ⟨fun b => Nat.le_trans (hstep.le b) (commit_le hst.wf b), fun b i hi => hstep.cell b i hi, fun id o ho => ?_, hstep.grow, hC2⟩
   have hi := (List.getElem?_eq_some_iff.1 ho).1
   exact ⟨o, by rw [List.getElem?_append_left hi]; exact ho, by rw [hτ id hi]; exact o.after_refl _⟩
  
  have split : ∀ i, i < (H ++ Hn).length → i < H.length ∨ ∃ k id, i = H.length + k ∧ ids[k]? = some id := fun i hi => by
   rcases Nat.lt_or_ge i H.length with h1 | h1
   ·exact .inl h1
   ·have hk : i - H.length < ids.length := by rw [List.length_append] at hi; omega
    exact .inr ⟨i - H.length, ids[i - H.length], by omega, List.getElem?_eq_getElem hk⟩
  refine ⟨v, r', commit C1 τ1 H1 ids, τ2, H ++ Hn, he, hQ, pub_rel hst.wf (fun k id hk => ⟨fun esz es he => ⟨es, by rw [getn, (hkeep k id hk).1]; exact he, rfl⟩, hτn k id hk⟩) hpub hrel, ⟨⟨?_, ?_, ?_, ?_, ?_, ?_⟩, ?_, ?_, ?_⟩, step⟩
  ·intro i o ho
   rcases split i (List.getElem?_eq_some_iff.1 ho).1 with h1 | ⟨k, id, rfl, hk⟩
   ·rw [List.getElem?_append_left h1] at ho; exact hw.ok i o ho
   ·rw [getn, (hkeep k id hk).1] at ho; exact hst.wf.ok id o ho
  ·intro i o ho ht
   rcases split i (List.getElem?_eq_some_iff.1 ho).1 with h1 | ⟨k, id, rfl, hk⟩
   ·rw [List.getElem?_append_left h1] at ho; rw [hτ i h1] at ht; exact hw.virt i o ho ht
   ·rw [getn, (hkeep k id hk).1] at ho; rw [hτn k id hk] at ht; exact hst.wf.virt id o ho ht
  ·intro i o l ho ht
   rcases split i (List.getElem?_eq_some_iff.1 ho).1 with h1 | ⟨k, id, rfl, hk⟩
   ·rw [List.getElem?_append_left h1] at ho; rw [hτ i h1] at ht
    exact (hw.objs i o l ho ht).mono step (hheap _ (hw.locLt h1 ht))
   ·obtain ⟨g1, esz, es, g2, g3⟩ := hkeep k id hk
    rw [getn, g1, g2] at ho; cases ho
    rw [hτn k id hk] at ht
    obtain ⟨a1, cells, elem, fz, a2, a3, a4, a5⟩ := hst.wf.objs id _ l g2 ht
    refine ⟨a1, cells, elem, fz, a2, a3, a4, fun i j e d hi hd => ?_⟩
    obtain ⟨x, hx1, hx2⟩ := a5 i j e d hi hd
    exact ⟨x, hx1, .rd ((hx2.pure (pureEs_get g3 hi hd)).mono (commit_le hst.wf) (fun _ _ _ => rfl))⟩
  ·intro i l hi ht
   rcases split i hi with h1 | ⟨k, id, rfl, hk⟩
   ·rw [hτ i h1] at ht
    rw [hC2 _ (hw.locLt h1 ht)]; exact hw.comm i l h1 ht
   ·rw [hτn k id hk] at ht
    have hlt := hidlt k id hk
    rw [commit_other fun id' l' h1 h2 h3 h4 => h2 (by
     have := hst.wf.inj id' id l' l h1 hlt h3 ht h4
     subst this; exact List.mem_of_getElem? hk)]
    exact hst.wf.comm id l hlt ht
  ·intro i j li lj hi hj hti htj hb
   rcases split i hi with h1 | ⟨k, id, rfl, hk⟩ <;> rcases split j hj with h2 | ⟨k', id', rfl, hk'⟩
   ·rw [hτ i h1] at hti; rw [hτ j h2] at htj; exact hw.inj i j li lj h1 h2 hti htj hb
   ·rw [hτ i h1] at hti; rw [hτn k' id' hk'] at htj
    have := hw.locLt h1 hti; have := hnew id' lj (hidlt k' id' hk') htj; omega
   ·rw [hτn k id hk] at hti; rw [hτ j h2] at htj
    have := hw.locLt h2 htj; have := hnew id li (hidlt k id hk) hti; omega
   ·rw [hτn k id hk] at hti; rw [hτn k' id' hk'] at htj
    have e := hst.wf.inj id id' li lj (hidlt k id hk) (hidlt k' id' hk') hti htj hb
    subst e
    have hki := (List.getElem?_eq_some_iff.1 hk)
    have hki' := (List.getElem?_eq_some_iff.1 hk')
    have hne := List.pairwise_iff_getElem.1 hnd
    rcases Nat.lt_trichotomy k k' with h3 | h3 | h3
    ·exact absurd (hki.2.trans hki'.2.symm) (hne k k' hki.1 hki'.1 h3)
    ·omega
    ·exact absurd (hki'.2.trans hki.2.symm) (hne k' k hki'.1 hki.1 h3)
  ·intro b hb
   by_cases h1 : ∃ id l, id < H1.length ∧ τ1 id = some l ∧ l.b = b
   ·obtain ⟨id, l, h1, h2, rfl⟩ := h1
    exact hst.wf.locLt h1 h2
   ·rw [commit_other fun id l g1 _ g2 g3 => h1 ⟨id, l, g1, g2, g3⟩] at hb
    exact hst.wf.lt b hb
  ·exact ⟨hst.fr.os, hst.fr.tape, hst.fr.output, hst.fr.size, fun b hb => hheap b hb.1, hst.fr.drawn⟩
  ·rintro b ⟨i, l, hi, ht, rfl⟩ hp
   rcases split i hi with h1 | ⟨k, id, rfl, hk⟩
   ·rw [hτ i h1] at ht; exact hp.2 ⟨i, l, h1, ht, rfl⟩
   ·rw [hτn k id hk] at ht
    have := hnew id l (hidlt k id hk) ht; have := hp.1; omega
  ·exact fun b hb => hb.1
 unfold CallsX at hc ⊢
 split at hc
 ·exact Calls.mono hc fun e w' hh => fin e w' hh
 ·exact fin _ _ hc
 ·exact hc
theorem ACalls.lift0F {f : FuncId} {args : List AVal} {R : AVal → Prop} (ha : ∀ a ∈ args, Indep a) (h : ACalls P f args [] (fun r H1 => ∃ r', Pub H1 0 [] r r' ∧ R r')) :
  ACalls P f args H (fun r H' => R r ∧ H' = H) :=
 h.liftF ha fun r H1 ⟨r', hp, hR⟩ => ⟨[], r', [], hp.any, List.nodup_nil, rfl, fun k id h => by simp at h, hR, by simp⟩
theorem ACalls.pureF {f : FuncId} {args : List AVal} {R : AVal} (ha : ∀ a ∈ args, Indep a) (h : ACalls P f args [] (fun r H1 => Pub H1 0 [] r R)) :
  ACalls P f args H (fun r H' => r = R ∧ H' = H) :=
 ACalls.lift0F (R := fun r => r = R) ha (h.mono fun _ _ hp => ⟨R, hp, rfl⟩)
end
attribute [local irreducible] ACalls
set_option maxRecDepth 20000 in
theorem hcheck_spec {P : Program} (F : F_z0n P) (s : Sou) (hs : s.good) (ex : Bool) (rows : List Ent) (hb : bagB rows = 0) (hr : ∀ e ∈ rows, e.row.length ≤ 1000 ∧ chkRow (hcols s) e.row = 0) (H : List AObj) :
  ACalls P F.id [.agg (souC s), .list ex 2 (eC rows)] H (fun r H' => r = .tuple [.int .i64 s.cols.length, .int .i64 0] ∧ H' = H) := by
 have hv : ∀ H, ACalls P F.z01.id [.list ex 2 (eC rows)] H (fun r H' => r = .int .i64 0 ∧ H' = H) := fun H => by have := bag_Validate_spec F.z01 ex rows H; rwa [hb] at this
 have hlen := (bagB_iff rows).1 hb |>.1
 refine ACalls.pure (by simp [souC, AVal.closed, AVal.isPure]) (acalls_of_body F.has ?_)
 (conv => whnf); refine ACalls.use (hColumns_spec F.z0h s hs _) ?_
 (conv => whnf); refine ACalls.use (hv _) ?_
 conv => whnf
 refine ⟨fun m ρ H1 => ∃ k : Nat, k + m = rows.length ∧ H1 = [.arr 7 [souC s]] ∧ Sv 39 [(1, .list ex 2 (eC rows)), (6, .list false 3 (cC (hcols s))), (7, .int .i64 0), (8, .int .i64 k)] ρ, rows.length, [], ?_, ?_⟩
 ·exact ⟨0, by omega, rfl, Sv.intro rfl ⟨rfl, rfl, rfl, rfl, trivial⟩⟩
 rintro m ρ H1 ⟨k, hk, rfl, d, rfl⟩
 (conv => whnf); refine recA (fun hlt => ?_) (fun hlt => ?_)
 ·simp [eC_length] at hlt
  have hx : rows[k]? = some rows[k] := List.getElem?_eq_getElem hlt
  obtain ⟨h1, h2⟩ := hr _ (List.getElem_mem hlt)
  generalize rows[k] = x at hx h1 h2
  have hc : ∀ H, ACalls P F.z14.id [.list false 3 (cC (hcols s)), .list false 3 (vC x.row)] H (fun r H' => r = .int .i64 0 ∧ H' = H) := fun H => by have := schema_CheckRow_spec F.z14 false false (hcols s) x.row (by omega) H; rwa [h2] at this
  (conv => whnf); refine And.intro (by omega) ?_
  (conv => whnf); refine recO (eC_at hx) ?_
  (conv => whnf); refine ACalls.use (hc _) ?_
  conv => whnf
  refine ⟨m - 1, by omega, Gp.keep rfl ?_ fun ρ1 h => ⟨k + 1, by omega, rfl, h⟩⟩
  exact ⟨rfl, rfl, rfl, intEq (wrapI _ (by omega) (by omega)), trivial⟩
 ·simp [eC_length] at hlt
  have e : IntKind.i64.wrap (((cC (hcols s)).length : Int) - 2) = s.cols.length := by
   have := hs.ten
   rw [cC_length, hcols, List.length_append]
   show IntKind.i64.wrap (((s.cols.length + 2 : Nat) : Int) - 2) = _
   rw [wrapI _ (by omega) (by omega)]; omega
  conv => whnf
  rw [e]
  exact pub2 (.closed _ rfl) (.closed _ rfl)
def restV (n : Nat) (p : V → V → Bool) : List Ent → List Ent
 | [] => []
 | e :: l => if p (e.row.getD n zV) (e.row.getD (n + 1) zV) then ⟨e.row.take n, e.cnt⟩ :: restV n p l else restV n p l
theorem restV_len (n : Nat) (p : V → V → Bool) : ∀ l, (restV n p l).length ≤ l.length
 | [] => Nat.le_refl _
 | e :: l => by
  have := restV_len n p l
  rw [restV]
  split
  ·simp; omega
  ·simp; omega
set_option maxHeartbeats 1000000 in
set_option maxRecDepth 20000 in
theorem hrest_spec {P : Program} (F : F_z0p P) (hS : SortE P F.z00.z05.z1m.id F.z00.z05.z06.id) (ex : Bool) (rows : List Ent) (hl : rows.length ≤ 10000) (n : Nat) (hn : n ≤ 1000) (hr : ∀ e ∈ rows, e.row.length = n + 2)
  (g : FuncId) (caps : List AVal) (hcap : caps.all AVal.isPure = true) (p : V → V → Bool) (hg : ∀ (a b : V) (H : List AObj), ACalls P g ([.agg (valC a), .agg (valC b)] ++ caps) H (fun r H' => r = .bool (p a b) ∧ H' = H)) (H : List AObj) :
  ACalls P F.id [.list ex 2 (eC rows), .int .i64 n, .fn g caps] H (fun r H' => r = norR (restV n p rows) ∧ H' = H) := by
 have hfn : ∀ {H1 : List AObj} {m : Nat} {ids : List Nat}, Pub H1 m ids (.fn g caps) (.fn g caps) := fun {H1 m ids} => .fnc g caps caps rfl fun i v r h1 h2 => by
  rw [h1] at h2; cases h2
  exact .closed _ (AVal.closed_of_isPure (List.all_eq_true.1 hcap v (List.mem_of_getElem? h1)))
 refine ACalls.pureF (fun a ha => ?_) (acalls_of_body F.has ?_)
 ·rcases List.mem_cons.1 ha with rfl | ha
  ·exact .inl rfl
  rcases List.mem_cons.1 ha with rfl | ha
  ·exact .inl rfl
  ·rw [List.mem_singleton.1 ha]; exact .inr ⟨_, _, rfl, hcap⟩
 conv => whnf
 refine ⟨fun m ρ H1 => ∃ (k : Nat) (U : List Ent), k + m = rows.length ∧ U.length ≤ k ∧ U ++ restV n p (rows.drop k) = restV n p rows ∧ H1 = [.arr 2 (eC U)] ∧ Sv 45 [(1, .int .i64 n), (2, .fn g caps), (8, .sl 0 U.length 0 U.length), (11, .list ex 2 (eC rows)), (12, .int .i64 rows.length), (13, .int .i64 k)] ρ, rows.length, [(8, 2)], ?_, ?_⟩
 ·exact ⟨0, [], by omega, by simp, rfl, rfl, Sv.intro rfl ⟨rfl, rfl, rfl, rfl, intEq (by rw [eC_length]), rfl, trivial⟩⟩
 rintro m ρ H1 ⟨k, U, hk, hU, hR, rfl, d, rfl⟩
 (conv => whnf); refine recA (fun hlt => ?_) (fun hlt => ?_)
 ·simp at hlt
  have hx : rows[k]? = some rows[k] := List.getElem?_eq_getElem hlt
  have hrl := hr _ (List.getElem_mem hlt)
  generalize rows[k] = x at hx hrl
  rw [drop_cons hx, restV] at hR
  have en : IntKind.i64.wrap ((n : Int) + 1) = ((n + 1 : Nat) : Int) := by rw [wrapI _ (by omega) (by omega)]; omega
  have ek : IntKind.i64.wrap ((k : Int) + 1) = ((k + 1 : Nat) : Int) := by rw [wrapI _ (by omega) (by omega)]; omega
  have g1 : x.row[n]? = some (x.row.getD n zV) := by rw [List.getD_eq_getElem?_getD, List.getElem?_eq_getElem (by omega)]; rfl
  have g2 : x.row[n + 1]? = some (x.row.getD (n + 1) zV) := by rw [List.getD_eq_getElem?_getD, List.getElem?_eq_getElem (by omega)]; rfl
  (conv => whnf); refine And.intro (by omega) ?_
  (conv => whnf); refine recO (eC_at hx) ?_
  (conv => whnf); refine And.intro (by omega) ?_
  (conv => whnf); refine recO (vC_at g1) ?_
  (conv => whnf); refine And.intro (by rw [en]; omega) ?_
  (conv => whnf); refine recO ((show (vC x.row)[(IntKind.i64.wrap ((n : Int) + 1)).toNat]? = some (valC (x.row.getD (n + 1) zV)) from by rw [en, Int.toNat_natCast]; exact vC_at g2)) ?_
  (conv => whnf); refine ⟨_, hg _ _ _, ?_⟩
  repeat ((conv => whnf); refine And.intro rfl ?_)
  (conv => whnf); refine recA (fun hp => ?_) (fun hp => ?_)
  ·rw [if_pos (show p (x.row.getD n zV) (x.row.getD (n + 1) zV) = true from hp)] at hR
   have es : List.drop 0 (List.take (n : Int).toNat (vC x.row)) = vC (x.row.take n) := by rw [Int.toNat_natCast, List.drop_zero, vC, vC, List.map_take]
   (conv => whnf); refine And.intro (by rw [vC_length]; omega) ?_
   (conv => whnf); refine recT (by rw [eC_length]; exact Nat.beq_refl _) ?_
   (conv => whnf); refine And.intro (⟨roomMul (by simp; omega) (by omega), roomB_le (by simp; omega), rfl, by rw [eC_length]⟩) ?_
   repeat ((conv => whnf); refine And.intro rfl ?_)
   conv => whnf
   have hcn : eC U ++ [[AVal.list false 3 (List.drop 0 (List.take (n : Int).toNat (vC x.row))), .int .i64 x.cnt]] = eC (U ++ [⟨x.row.take n, x.cnt⟩]) := by rw [es, eC_append]; rfl
   have hl2 : (eC U ++ [[AVal.list false 3 (List.drop 0 (List.take (n : Int).toNat (vC x.row))), .int .i64 x.cnt]]).length = (U ++ [(⟨x.row.take n, x.cnt⟩ : Ent)]).length := by rw [hcn, eC_length]
   refine ⟨m - 1, by omega, Gp.first 1 [.arr 2 (eC U ++ [[AVal.list false 3 (List.drop 0 (List.take (n : Int).toNat (vC x.row))), .int .i64 x.cnt]])] rfl rfl (by rw [hcn]; simp [pureO, pureEs_eC]) rfl ?_ fun ρ1 h => ⟨k + 1, U ++ [⟨x.row.take n, x.cnt⟩], by omega, by simp; omega, by rw [← hR]; simp, by rw [hcn], h⟩⟩
   exact ⟨.closed _ rfl, hfn, pubSl (k := 0) rfl rfl hl2 hl2, .closed (.list ex 2 (eC rows)) rfl, .closed _ rfl, pub_int ek, trivial⟩
  ·rw [if_neg (by rw [show p (x.row.getD n zV) (x.row.getD (n + 1) zV) = false from hp]; simp)] at hR
   conv => whnf
   refine ⟨m - 1, by omega, Gp.first 1 [.arr 2 (eC U)] rfl rfl (by simp [pureO, pureEs_eC]) rfl ?_ fun ρ1 h => ⟨k + 1, U, by omega, by omega, hR, rfl, h⟩⟩
   exact ⟨.closed _ rfl, hfn, .keep 0 _ _ _ 0 rfl, .closed (.list ex 2 (eC rows)) rfl, .closed _ rfl, pub_int ek, trivial⟩
 ·simp at hlt
  rw [List.drop_of_length_le (by omega), restV, List.append_nil] at hR
  subst hR
  have hll := restV_len n p rows
  conv => whnf
  refine Ghost.none (n := 45) (live := [(8, .list false 2 (eC (restV n p rows)))]) rfl ⟨pubFI (by simp) rfl (eC_length _).symm (eC_length _).symm (pureEs_eC _), trivial⟩ ?_
  rintro ρ ⟨d, rfl⟩
  (conv => whnf); refine ACalls.use (bag_Normalize_spec F.z00 hS false (restV n p rows) (by omega) _) ?_
  unfold norR
  split
  ·conv => whnf
   exact pub2 (.closed _ rfl) (.closed _ rfl)
  ·rcases resR_cases (srtM (restV n p rows).length (restV n p rows)) with h | h
   all_goals
    rw [h]
    conv => whnf
    exact pub2 (.closed _ rfl) (.closed _ rfl)
def openB (a b : V) : Bool := b.kind == 0
def atB (m : Int) (a b : V) : Bool := decide (a.num ≤ m) && (b.kind == 0 || decide (b.num > m))
theorem current1_spec {P : Program} (F : F_z0k P) (a b : V) (H : List AObj) :
  ACalls P F.id ([.agg (valC a), .agg (valC b)] ++ []) H (fun r H' => r = .bool (openB a b) ∧ H' = H) := by
 refine ACalls.pure rfl (acalls_of_body F.has ?_)
 conv => whnf
 exact pubB rfl
theorem at1_spec {P : Program} (F : F_z0g P) (m : Int) (a b : V) (H : List AObj) :
  ACalls P F.id ([.agg (valC a), .agg (valC b)] ++ [.cptr [.int .i64 m] 0]) H (fun r H' => r = .bool (atB m a b) ∧ H' = H) := by
 refine ACalls.pure rfl (acalls_of_body F.has ?_)
 (conv => whnf); refine recA (fun h1 => ?_) (fun h1 => ?_)
 ·(conv => whnf); refine recA (fun h2 => ?_) (fun h2 => ?_)
  ·conv => whnf
   refine pubB ?_
   replace h1 : decide (a.num ≤ m) = true := h1
   replace h2 : (b.kind == 0) = true := h2
   rw [atB, h1, h2]; rfl
  ·conv => whnf
   refine pubB ?_
   replace h1 : decide (a.num ≤ m) = true := h1
   replace h2 : (b.kind == 0) = false := h2
   rw [atB, h1, h2]; rfl
 ·conv => whnf
  refine pubB ?_
  replace h1 : decide (a.num ≤ m) = false := h1
  rw [atB, h1]; rfl
set_option maxRecDepth 20000 in
theorem current_spec {P : Program} (F : F_z0j P) (hS : SortE P F.z0p.z00.z05.z1m.id F.z0p.z00.z05.z06.id) (s : Sou) (hs : s.good) (ex : Bool) (rows : List Ent) (hb : bagB rows = 0) (hr : ∀ e ∈ rows, e.row.length = s.cols.length + 2 ∧ chkRow (hcols s) e.row = 0) (H : List AObj) :
  ACalls P F.id [.agg (souC s), .list ex 2 (eC rows)] H (fun r H' => r = norR (restV s.cols.length openB rows) ∧ H' = H) := by
 have hten := hs.ten
 have hlen := (bagB_iff rows).1 hb |>.1
 refine ACalls.pure (by simp [souC, AVal.closed, AVal.isPure]) (acalls_of_body F.has ?_)
 (conv => whnf); refine ACalls.use (hcheck_spec F.z0n s hs ex rows hb (fun e he => ⟨by have := (hr e he).1; omega, (hr e he).2⟩) _) ?_
 (conv => whnf); refine ACalls.use (hrest_spec F.z0p hS ex rows (by omega) s.cols.length (by omega) (fun e he => (hr e he).1) F.z0k.id [] rfl openB (fun a b H => current1_spec F.z0k a b H) _) ?_
 unfold norR
 split
 ·conv => whnf
  exact pub2 (.closed _ rfl) (.closed _ rfl)
 ·rcases resR_cases (srtM (restV s.cols.length openB rows).length (restV s.cols.length openB rows)) with h | h
  all_goals
   rw [h]
   conv => whnf
   exact pub2 (.closed _ rfl) (.closed _ rfl)
set_option maxRecDepth 20000 in
theorem at_spec {P : Program} (F : F_z0f P) (hS : SortE P F.z0p.z00.z05.z1m.id F.z0p.z00.z05.z06.id) (s : Sou) (hs : s.good) (ex : Bool) (rows : List Ent) (m : Int) (hm : 0 ≤ m ∧ m ≤ 575999999) (hb : bagB rows = 0) (hr : ∀ e ∈ rows, e.row.length = s.cols.length + 2 ∧ chkRow (hcols s) e.row = 0) (H : List AObj) :
  ACalls P F.id [.agg (souC s), .list ex 2 (eC rows), .int .i64 m] H (fun r H' => r = norR (restV s.cols.length (atB m) rows) ∧ H' = H) := by
 have hten := hs.ten
 have hlen := (bagB_iff rows).1 hb |>.1
 refine ACalls.pure (by simp [souC, AVal.closed, AVal.isPure]) (acalls_of_body F.has ?_)
 conv => whnf
 refine Ghost.none (n := 31) (live := [(1, .list ex 2 (eC rows)), (3, .cptr (souC s) 0), (5, .cptr [.int .i64 m] 0)]) rfl ⟨.closed (.list ex 2 (eC rows)) rfl, .frzP 0 1 0 0 7 [souC s] _ rfl rfl rfl rfl (by simp), .frzP 1 1 0 0 1 [[.int .i64 m]] _ rfl rfl rfl rfl (by simp), trivial⟩ ?_
 rintro ρ ⟨d, rfl⟩
 (conv => whnf); refine ACalls.use (hcheck_spec F.z0n s hs ex rows hb (fun e he => ⟨by have := (hr e he).1; omega, (hr e he).2⟩) _) ?_
 (conv => whnf); refine recF (by simp; omega) ?_
 (conv => whnf); refine recF (by simp; omega) ?_
 (conv => whnf); refine ACalls.use (hrest_spec F.z0p hS ex rows (by omega) s.cols.length (by omega) (fun e he => (hr e he).1) F.z0g.id [.cptr [.int .i64 m] 0] rfl (atB m) (fun a b H => at1_spec F.z0g m a b H) _) ?_
 unfold norR
 split
 ·conv => whnf
  exact pub2 (.closed _ rfl) (.closed _ rfl)
 ·rcases resR_cases (srtM (restV s.cols.length (atB m) rows).length (restV s.cols.length (atB m) rows)) with h | h
  all_goals
   rw [h]
   conv => whnf
   exact pub2 (.closed _ rfl) (.closed _ rfl)
def kSou : Sou := ⟨bs [], [⟨bs [105, 100], 2, false⟩, ⟨bs [97, 116], 4, false⟩], [bs [105, 100]], bs [97, 116], bs [], 0, 0⟩
def kVer (a q : Int) (d : Bool) : Ver := ⟨⟨d, q, [⟨2, 1, bs []⟩, tmV a]⟩, 0, 0⟩
def kVs : List Ver := [kVer 30 1 true, kVer 20 2 false, kVer 10 3 false, kVer 20 1 false]
def kI : List Ent := [⟨[⟨2, 1, bs []⟩, tmV 10, tmV 10, tmV 20], 1⟩, ⟨[⟨2, 1, bs []⟩, tmV 20, tmV 20, tmV 30], 1⟩]
theorem kgood : kSou.good := by
 refine ⟨by decide, by decide, by decide, ⟨⟨bs [97, 116], 4, false⟩, rfl, rfl, rfl⟩, by decide, by decide, by decide, by decide⟩
theorem kI_eq : ivsV kSou kVs = kI := by rfl
theorem kI_bag : bagB kI = 0 := by rfl
theorem kI_row : ∀ e ∈ kI, e.row.length = kSou.cols.length + 2 ∧ chkRow (hcols kSou) e.row = 0 := by
 intro e he
 rcases List.mem_cons.1 he with rfl | he
 ·exact ⟨rfl, rfl⟩
 ·rw [List.mem_singleton.1 he]; exact ⟨rfl, rfl⟩
theorem kAt : norR (restV kSou.cols.length (atB 19) kI) = .tuple [.list false 2 (eC [⟨[⟨2, 1, bs []⟩, tmV 10], 1⟩]), .int .i64 0] := by rfl
theorem kCur : norR (restV kSou.cols.length openB kI) = .tuple [.list false 2 (eC []), .int .i64 0] := by rfl
theorem kok : ∀ v ∈ kVs, okV kSou v := by
 intro v hv
 unfold kVs at hv
 simp only [List.mem_cons, List.not_mem_nil, or_false] at hv
 rcases hv with rfl | rfl | rfl | rfl <;> rfl
theorem kuq : Uq kSou kVs := by
 intro x hx y hy h
 unfold kVs at hx hy
 simp only [List.mem_cons, List.not_mem_nil, or_false] at hx hy
 rcases hx with rfl | rfl | rfl | rfl <;> rcases hy with rfl | rfl | rfl | rfl <;> first | rfl | (exact absurd h (by decide))
theorem version_raw {P : Program} (F : F_z2a P) (a q : Int) (d : Bool) (H : List AObj) :
  ACalls P F.id [.int .i64 a, .int .i64 q, .bool d] H (fun r H' => r = .agg [.bool d, .int .i64 q, .list true 3 (vC [⟨2, 1, bs []⟩, tmV a]), .int .i64 0, .int .i64 0] ∧ H' = H) := by
 refine ACalls.pure rfl (acalls_of_body F.has ?_)
 conv => whnf
 exact .closed _ rfl
theorem version_spec {P : Program} (F : F_z2a P) (a q : Int) (d : Bool) (H : List AObj) :
  ACalls P F.id [.int .i64 a, .int .i64 q, .bool d] H (fun r H' => r = .agg (verC (kVer a q d)) ∧ H' = H) :=
 (version_raw F a q d H).weakR (by
  rintro r H' ⟨rfl, rfl⟩
  refine ⟨.agg (verC (kVer a q d)), .agg _ _ rfl fun i x y h1 h2 => ?_, rfl, rfl⟩
  rcases i with _ | _ | _ | _ | _ | i
  ·cases h1; cases h2; exact .refl _
  ·cases h1; cases h2; exact .refl _
  ·cases h1; cases h2; exact .list _ _ _ _ (by simp)
  ·cases h1; cases h2; exact .refl _
  ·cases h1; cases h2; exact .refl _
  ·simp at h1)
theorem wkSou : Wk (.agg [.str (bs []), .list true 3 (cC kSou.cols), .list true 1 (sC kSou.key), .str (bs [97, 116]), .str (bs []), .int .i64 0, .int .i64 0]) (.agg (souC kSou)) := by
 refine .agg _ _ rfl fun i x y h1 h2 => ?_
 rcases i with _ | _ | _ | _ | _ | _ | _ | i
 ·cases h1; cases h2; exact .refl _
 ·cases h1; cases h2; exact .list _ _ _ _ (by simp)
 ·cases h1; cases h2; exact .list _ _ _ _ (by simp)
 ·cases h1; cases h2; exact .refl _
 ·cases h1; cases h2; exact .refl _
 ·cases h1; cases h2; exact .refl _
 ·cases h1; cases h2; exact .refl _
 ·simp at h1
set_option maxHeartbeats 1000000 in
set_option maxRecDepth 20000 in
theorem known27_spec {P : Program} (F : F_z27 P) (hS1 : SortE P F.z0l.z1m.id F.z0l.z0m.id)
  (hS2 : SortE P F.z0j.z0p.z00.z05.z1m.id F.z0j.z0p.z00.z05.z06.id)
  (hS3 : SortE P F.z0f.z0p.z00.z05.z1m.id F.z0f.z0p.z00.z05.z06.id) (H : List AObj) :
  ACalls P F.id [] H (fun r H' => r = .bool true ∧ H' = H) := by
 have hI : ∀ H, ACalls P F.z0l.id [.agg (souC kSou), .list true 5 (vsC kVs)] H (fun r H' => r = .tuple [.list false 2 (eC kI), .int .i64 0] ∧ H' = H) := fun H => by
  have := Intervals_spec F.z0l hS1 kSou kgood true kVs (by decide) kok kuq H
  rwa [kI_eq] at this
 have hA : ∀ H, ACalls P F.z0f.id [.agg (souC kSou), .list false 2 (eC kI), .int .i64 19] H (fun r H' => r = .tuple [.list false 2 (eC [⟨[⟨2, 1, bs []⟩, tmV 10], 1⟩]), .int .i64 0] ∧ H' = H) := fun H => by
  have := at_spec F.z0f hS3 kSou kgood false kI 19 (by decide) kI_bag kI_row H
  rwa [kAt] at this
 have hC : ∀ H, ACalls P F.z0j.id [.agg (souC kSou), .list false 2 (eC kI)] H (fun r H' => r = .tuple [.list false 2 (eC []), .int .i64 0] ∧ H' = H) := fun H => by
  have := current_spec F.z0j hS2 kSou kgood false kI kI_bag kI_row H
  rwa [kCur] at this
 refine ACalls.pure rfl (acalls_of_body F.has ?_)
 (conv => whnf); refine ⟨_, version_spec F.z2a 30 1 true _, ?_⟩
 (conv => whnf); refine ⟨_, version_spec F.z2a 20 2 false _, ?_⟩
 (conv => whnf); refine ⟨_, version_spec F.z2a 10 3 false _, ?_⟩
 (conv => whnf); refine ⟨_, version_spec F.z2a 20 1 false _, ?_⟩
 (conv => whnf); refine ⟨_, ACalls.weak (hI _) (.cons wkSou (.cons (.refl _) .nil)), ?_⟩
 repeat ((conv => whnf); refine And.intro rfl ?_)
 (conv => whnf); refine ACalls.use (ACalls.weak (hA _) (.cons wkSou (.cons (.refl _) (.cons (.refl _) .nil)))) ?_
 (conv => whnf); refine ACalls.use (ACalls.weak (hC _) (.cons wkSou (.cons (.refl _) .nil))) ?_
 (conv => whnf); refine And.intro (by decide) ?_
 (conv => whnf); refine And.intro (by decide) ?_
 (conv => whnf); refine And.intro (by decide) ?_
 (conv => whnf); refine And.intro (by decide) ?_
 (conv => whnf); refine And.intro (by decide) ?_
 (conv => whnf); refine And.intro (by decide) ?_
 conv => whnf
 exact pubB rfl
theorem good0 (s : Sou) (hc : s.cols = wcols) (hk : s.key = [bs [105, 100]]) (ha : s.att = bs [97, 116]) : s.good := by
 refine ⟨by rw [hc]; decide, by rw [hc, ha]; decide, by rw [hc, hk]; decide, ⟨⟨bs [97, 116], 4, false⟩, by rw [hc, ha]; rfl, rfl, rfl⟩, by rw [hc]; decide, by rw [hc]; decide, by rw [hc]; decide, by rw [hk]; decide⟩
theorem good1 (s : Sou) (hc : s.cols = wcols ++ [⟨bs [112, 97, 114, 116], 3, false⟩]) (hk : s.key = [bs [112, 97, 114, 116], bs [105, 100]]) (ha : s.att = bs [97, 116]) : s.good := by
 refine ⟨by rw [hc]; decide, by rw [hc, ha]; decide, by rw [hc, hk]; decide, ⟨⟨bs [97, 116], 4, false⟩, by rw [hc, ha]; rfl, rfl, rfl⟩, by rw [hc]; decide, by rw [hc]; decide, by rw [hc]; decide, by rw [hk]; decide⟩
theorem wgood (n : Int) : (souS (wsrc n)).good := by
 cases hp : wpart n
 ·exact good0 _ (by show (wsrc n).cols = _; rw [wsrcC, hp]; rfl) (by show (wsrc n).key = _; rw [wsrcK, hp]; rfl) rfl
 ·exact good1 _ (by show (wsrc n).cols = _; rw [wsrcC, hp]; rfl) (by show (wsrc n).key = _; rw [wsrcK, hp]; rfl) rfl
noncomputable def mV (n : Int) (ls : List Int) : List Ver := srtV (souS (wsrc n)) (couL (souS (wsrc n)) 0 (ledV (wsrc n) ls).1)
theorem mV_len (n : Int) (ls : List Int) : (mV n ls).length ≤ 24 := by
 obtain ⟨h1, h2⟩ := ledV_ok (wsrc n) ls
 have := couL_len (souS (wsrc n)) (ledV (wsrc n) ls).1 0 6 fun x hx => (h1 x hx).2.1
 rw [mV, srtV, isort_length]
 omega
theorem ivsV_perm {s : Sou} {l m : List Ver} (h : Uq s l) (hp : m.Perm l) : ivsV s m = ivsV s l := by
 rw [ivsV, ivsV, srtV, srtV, isort_congr (orders_V s) hp h.zz]
theorem made_ok (n : Int) (ls : List Int) : (ledV (wsrc n) ls).1.length ≤ 1000 ∧ (couL (souS (wsrc n)) 0 (ledV (wsrc n) ls).1).length ≤ 1000 ∧ ∀ x ∈ (ledV (wsrc n) ls).1, x.ok := by
 obtain ⟨h1, h2⟩ := ledV_ok (wsrc n) ls
 have h3 := couL_len (souS (wsrc n)) (ledV (wsrc n) ls).1 0 6 fun x hx => (h1 x hx).2.1
 have := wsrc_bnd n
 exact ⟨by omega, by omega, fun x hx => (h1 x hx).ok (by omega)⟩
theorem ivsV_len (s : Sou) (vs : List Ver) : (ivsV s vs).length ≤ vs.length := by
 rw [ivsV, srtE, isort_length]
 exact Nat.le_trans (ivsG_len s _) (Nat.le_trans (usedV_sub s _).length_le (by rw [srtV, isort_length]; exact Nat.le_refl _))
theorem sameEnt_refl {P : Program} (F : F_z2h P) (a : List Ent) (ha : a.length ≤ 100000) (hr : ∀ e ∈ a, e.row.length ≤ 1000) (H : List AObj) :
  ACalls P F.id [.list false 2 (eC a), .list false 2 (eC a)] H (fun r H' => r = .bool true ∧ H' = H) := by
 have := sameEnt_spec F false false a a ha hr H
 rwa [eqD_true rfl] at this
end Go.AW
namespace Go.AW
variable [Draws]
abbrev kyV (s : Sou) (v : Ver) : List V := keyV s v.rc.row
abbrev tiV (s : Sou) (v : Ver) : Int := timeV s v.rc
def RepOf (s : Sou) (L : List Ver) (v : Ver) : Prop := v ∈ L ∧ ∀ w ∈ L, kyV s w = kyV s v → tiV s w = tiV s v → 0 ≤ cmpVr s v w
def EndOf (s : Sou) (L : List Ver) (v : Ver) (e : V) : Prop :=
 (e = zV ∧ ∀ w ∈ L, kyV s w = kyV s v → tiV s w ≤ tiV s v) ∨
 ∃ w ∈ L, kyV s w = kyV s v ∧ tiV s v < tiV s w ∧ e = tmV (tiV s w) ∧ ∀ u ∈ L, kyV s u = kyV s v → tiV s v < tiV s u → tiV s w ≤ tiV s u
theorem EndOf.uniq {s : Sou} {L : List Ver} {v : Ver} {e f : V} (h : EndOf s L v e) (g : EndOf s L v f) : e = f := by
 rcases h with ⟨rfl, h⟩ | ⟨w, hw, k, t, rfl, m⟩
 ·rcases g with ⟨rfl, g⟩ | ⟨w, hw, k, t, rfl, m⟩
  ·rfl
  ·have := h w hw k; omega
 ·rcases g with ⟨rfl, g⟩ | ⟨w', hw', k', t', rfl, m'⟩
  ·have := g w hw k; omega
  ·have := m w' hw' k' t'
   have := m' w hw k t
   rw [show tiV s w = tiV s w' by omega]
theorem EndOf.congr {s : Sou} {L M : List Ver} {v : Ver} {e : V} (h : EndOf s L v e) (h1 : ∀ w ∈ L, ∃ w' ∈ M, kyV s w' = kyV s w ∧ tiV s w' = tiV s w) (h2 : ∀ w ∈ M, ∃ w' ∈ L, kyV s w' = kyV s w ∧ tiV s w' = tiV s w) : EndOf s M v e := by
 rcases h with ⟨rfl, h⟩ | ⟨w, hw, k, t, rfl, m⟩
 ·refine .inl ⟨rfl, fun w hw hk => ?_⟩
  obtain ⟨w', a, b, c⟩ := h2 w hw
  rw [← c]; exact h w' a (b.trans hk)
 ·obtain ⟨w', a, b, c⟩ := h1 w hw
  refine .inr ⟨w', a, b.trans k, by omega, by rw [c], fun u hu ku tu => ?_⟩
  obtain ⟨u', a', b', c'⟩ := h2 u hu
  have := m u' a' (b'.trans ku) (by omega)
  omega
theorem cmpVr_key {s : Sou} {v w : Ver} (h : 0 ≤ cmpVr s w v) : 0 ≤ rowsCmp (kyV s w) (kyV s v) := by
 rw [cmpVr_lex] at h
 simp only [lexC] at h
 show 0 ≤ rowsCmp (keyV s w.rc.row) (keyV s v.rc.row)
 by_cases hz : rowsCmp (keyV s w.rc.row) (keyV s v.rc.row) = 0
 ·omega
 ·rw [if_neg hz] at h; exact h
theorem cmpVr_time {s : Sou} {v w : Ver} (h : 0 ≤ cmpVr s w v) (hk : kyV s w = kyV s v) : tiV s v ≤ tiV s w := by
 rw [cmpVr_lex] at h
 simp only [lexC] at h
 rw [if_pos ((rowsCmp_zero _ _).2 hk)] at h
 have h1 := cmpI_lt (timeV s w.rc) (timeV s v.rc)
 have h2 := cmpI_zero (timeV s w.rc) (timeV s v.rc)
 show timeV s v.rc ≤ timeV s w.rc
 split at h <;> omega
theorem sameKT_iff {s : Sou} {a b : Ver} : sameKT s a b = true ↔ kyV s a = kyV s b ∧ tiV s a = tiV s b := by
 unfold sameKT
 rw [Bool.and_eq_true, beq_iff_eq, beq_iff_eq, rowsCmp_zero]
theorem used_rep (s : Sou) : ∀ L : List Ver, ∀ w ∈ L, ∃ u ∈ usedV s L, kyV s u = kyV s w ∧ tiV s u = tiV s w
 | [], w, h => by cases h
 | v :: vs, w, h => by
  rw [usedV]
  split
  ·rename_i hc
   rcases List.mem_cons.1 h with rfl | h
   ·cases vs with
    | nil => simp at hc
    | cons x vs =>
     simp only [List.head?_cons, Option.any_some] at hc
     obtain ⟨a, b⟩ := sameKT_iff.1 hc
     obtain ⟨u, h1, h2, h3⟩ := used_rep s (x :: vs) x (List.mem_cons_self ..)
     exact ⟨u, h1, h2.trans a.symm, h3.trans b.symm⟩
   ·exact used_rep s vs w h
  ·rcases List.mem_cons.1 h with rfl | h
   ·exact ⟨w, List.mem_cons_self .., rfl, rfl⟩
   ·obtain ⟨u, h1, h2⟩ := used_rep s vs w h
    exact ⟨u, List.mem_cons_of_mem _ h1, h2⟩
theorem key_le_antisymm {a b : List V} (h1 : 0 ≤ rowsCmp a b) (h2 : 0 ≤ rowsCmp b a) : a = b := by
 have := rowsCmp_anti a b
 exact (rowsCmp_zero _ _).1 (by omega)
def ltK (s : Sou) (x y : Ver) : Prop := rowsCmp (kyV s x) (kyV s y) < 0 ∨ (kyV s x = kyV s y ∧ tiV s x < tiV s y)
theorem ltK_of {s : Sou} {x y : Ver} (h : 0 ≤ cmpVr s y x) (hn : ¬ (kyV s x = kyV s y ∧ tiV s x = tiV s y)) : ltK s x y := by
 have h1 := cmpVr_key h
 by_cases hk : kyV s x = kyV s y
 ·have := cmpVr_time h hk.symm
  have : tiV s x ≠ tiV s y := fun e => hn ⟨hk, e⟩
  exact .inr ⟨hk, by omega⟩
 ·refine .inl ?_
  have := rowsCmp_anti (kyV s y) (kyV s x)
  have : rowsCmp (kyV s y) (kyV s x) ≠ 0 := fun e => hk ((rowsCmp_zero _ _).1 e).symm
  omega
theorem mem_used {s : Sou} : ∀ {L : List Ver}, AscO (cmpVr s) L → Uq s L → ∀ u, u ∈ usedV s L ↔ RepOf s L u
 | [], _, _, u => by simp [usedV, RepOf]
 | v :: vs, ha, hu, u => by
  obtain ⟨a1, a2⟩ := List.pairwise_cons.1 ha
  have ih := mem_used a2 (fun x hx y hy => hu x (List.mem_cons_of_mem _ hx) y (List.mem_cons_of_mem _ hy)) u
  have hcons : u ∈ vs → (RepOf s (v :: vs) u ↔ RepOf s vs u) := fun hm => by
   constructor
   ·exact fun h => ⟨hm, fun w hw => h.2 w (List.mem_cons_of_mem _ hw)⟩
   ·refine fun h => ⟨List.mem_cons_of_mem _ hm, fun w hw k t => ?_⟩
    rcases List.mem_cons.1 hw with rfl | hw
    ·exact a1 u hm
    ·exact h.2 w hw k t
  rw [usedV]
  split
  ·rename_i hc
   rw [ih]
   constructor
   ·exact fun h => (hcons h.1).2 h
   ·intro h
    by_cases hm : u ∈ vs
    ·exact (hcons hm).1 h
    ·have e : u = v := (List.mem_cons.1 h.1).resolve_right hm
     subst e
     cases vs with
     | nil => simp at hc
     | cons x vs =>
      simp only [List.head?_cons, Option.any_some] at hc
      obtain ⟨a, b⟩ := sameKT_iff.1 hc
      have h1 := h.2 x (List.mem_cons_of_mem _ (List.mem_cons_self ..)) a.symm b.symm
      have h2 := a1 x (List.mem_cons_self ..)
      have h3 := (preC_V s).anti u x
      have := hu u (List.mem_cons_self ..) x (List.mem_cons_of_mem _ (List.mem_cons_self ..)) (by omega)
      subst this
      exact absurd (List.mem_cons_self ..) hm
  ·rename_i hc
   rw [List.mem_cons, ih]
   constructor
   ·rintro (rfl | h)
    ·refine ⟨List.mem_cons_self .., fun w hw k t => ?_⟩
     rcases List.mem_cons.1 hw with rfl | hw
     ·have := (preC_V s).anti w w; omega
     ·exfalso
      cases vs with
      | nil => cases hw
      | cons x vs =>
       refine hc ?_
       simp only [List.head?_cons, Option.any_some]
       have x1 := a1 x (List.mem_cons_self ..)
       have k1 := cmpVr_key x1
       rcases List.mem_cons.1 hw with rfl | hw
       ·exact sameKT_iff.2 ⟨k.symm, t.symm⟩
       ·have x2 := (List.pairwise_cons.1 a2).1 w hw
        have k2 := cmpVr_key x2
        rw [k] at k2
        have hk := key_le_antisymm k1 k2
        have t1 := cmpVr_time x1 hk
        have t2 := cmpVr_time x2 (k.trans hk.symm)
        exact sameKT_iff.2 ⟨hk.symm, by omega⟩
    ·exact (hcons h.1).2 h
   ·intro h
    by_cases hm : u ∈ vs
    ·exact .inr ((hcons hm).1 h)
    ·exact .inl ((List.mem_cons.1 h.1).resolve_right hm)
theorem used_lt {s : Sou} : ∀ {L : List Ver}, AscO (cmpVr s) L → Uq s L → (usedV s L).Pairwise (ltK s)
 | [], _, _ => List.Pairwise.nil
 | v :: vs, ha, hu => by
  obtain ⟨a1, a2⟩ := List.pairwise_cons.1 ha
  have hu2 : Uq s vs := fun x hx y hy => hu x (List.mem_cons_of_mem _ hx) y (List.mem_cons_of_mem _ hy)
  have ih := used_lt a2 hu2
  have hm := fun u => mem_used ha hu u
  rw [usedV] at hm ⊢
  split
  ·exact ih
  ·rename_i hc
   rw [if_neg hc] at hm
   refine List.pairwise_cons.2 ⟨fun w hw => ?_, ih⟩
   have hwv := (usedV_sub s vs).subset hw
   refine ltK_of (a1 w hwv) fun e => ?_
   have h1 := ((hm v).1 (List.mem_cons_self ..)).2 w (List.mem_cons_of_mem _ hwv) e.1.symm e.2.symm
   have h2 := a1 w hwv
   have h3 := (preC_V s).anti v w
   have := hu v (List.mem_cons_self ..) w (List.mem_cons_of_mem _ hwv) (by omega)
   subst this
   have h4 := (mem_used a2 hu2 v).1 hw
   cases vs with
   | nil => cases hwv
   | cons x vs =>
    refine hc ?_
    simp only [List.head?_cons, Option.any_some]
    have x1 := a1 x (List.mem_cons_self ..)
    rcases List.mem_cons.1 hwv with rfl | hw2
    ·exact sameKT_iff.2 ⟨rfl, rfl⟩
    ·have x2 := (List.pairwise_cons.1 a2).1 v hw2
     have x3 := (preC_V s).anti v x
     have := hu v (List.mem_cons_self ..) x (List.mem_cons_of_mem _ (List.mem_cons_self ..)) (by omega)
     subst this
     exact sameKT_iff.2 ⟨rfl, rfl⟩
theorem ltK_ne {s : Sou} {x y : Ver} (h : ltK s x y) : ¬ (kyV s x = kyV s y ∧ tiV s x = tiV s y) := by
 rintro ⟨h1, h2⟩
 rcases h with h | ⟨_, h⟩
 ·rw [(rowsCmp_zero _ _).2 h1] at h; omega
 ·omega
theorem endV_of {s : Sou} {v : Ver} {vs : List Ver} (h : (v :: vs).Pairwise (ltK s)) : EndOf s (v :: vs) v (endV s v vs) := by
 obtain ⟨a1, a2⟩ := List.pairwise_cons.1 h
 cases vs with
 | nil => exact .inl ⟨rfl, fun w hw _ => by rw [List.mem_singleton.1 hw]; exact Int.le_refl _⟩
 | cons x vs =>
  have hx := a1 x (List.mem_cons_self ..)
  show EndOf s (v :: x :: vs) v (if rowsCmp (keyV s v.rc.row) (keyV s x.rc.row) = 0 then tmV (timeV s x.rc) else zV)
  split
  ·rename_i hk
   have hk := (rowsCmp_zero _ _).1 hk
   have ht : tiV s v < tiV s x := by
    rcases hx with hx | hx
    ·rw [(rowsCmp_zero _ _).2 hk] at hx; omega
    ·exact hx.2
   refine .inr ⟨x, List.mem_cons_of_mem _ (List.mem_cons_self ..), hk.symm, ht, rfl, fun u hu ku tu => ?_⟩
   rcases List.mem_cons.1 hu with rfl | hu
   ·omega
   rcases List.mem_cons.1 hu with rfl | hu
   ·exact Int.le_refl _
   ·rcases (List.pairwise_cons.1 a2).1 u hu with g | g
    ·rw [(rowsCmp_zero _ _).2 (hk.symm.trans ku.symm)] at g; omega
    ·omega
  ·rename_i hk
   refine .inl ⟨rfl, fun w hw kw => ?_⟩
   rcases List.mem_cons.1 hw with rfl | hw
   ·exact Int.le_refl _
   exfalso
   have h1 : rowsCmp (kyV s v) (kyV s x) < 0 := by
    rcases hx with hx | hx
    ·exact hx
    ·exact absurd ((rowsCmp_zero _ _).2 hx.1) hk
   rcases List.mem_cons.1 hw with rfl | hw
   ·exact hk ((rowsCmp_zero _ _).2 kw.symm)
   ·have h3 := rowsCmp_anti (kyV s v) (kyV s x)
    rcases (List.pairwise_cons.1 a2).1 w hw with g | g
    ·rw [kw] at g; omega
    ·rw [show kyV s w = kyV s v from kw] at g
     exact hk ((rowsCmp_zero _ _).2 g.1.symm)
theorem EndOf.cons {s : Sou} {p v : Ver} {L : List Ver} {e : V} (hp : ltK s p v) : EndOf s (p :: L) v e ↔ EndOf s L v e := by
 have hpt : kyV s p = kyV s v → tiV s p < tiV s v := fun hk => by
  rcases hp with hp | hp
  ·rw [(rowsCmp_zero _ _).2 hk] at hp; omega
  ·exact hp.2
 constructor
 ·rintro (⟨rfl, h⟩ | ⟨w, hw, k, t, rfl, m⟩)
  ·exact .inl ⟨rfl, fun w hw => h w (List.mem_cons_of_mem _ hw)⟩
  ·rcases List.mem_cons.1 hw with rfl | hw
   ·have := hpt k; omega
   ·exact .inr ⟨w, hw, k, t, rfl, fun u hu => m u (List.mem_cons_of_mem _ hu)⟩
 ·rintro (⟨rfl, h⟩ | ⟨w, hw, k, t, rfl, m⟩)
  ·refine .inl ⟨rfl, fun w hw kw => ?_⟩
   rcases List.mem_cons.1 hw with rfl | hw
   ·have := hpt kw; omega
   ·exact h w hw kw
  ·refine .inr ⟨w, List.mem_cons_of_mem _ hw, k, t, rfl, fun u hu ku tu => ?_⟩
   rcases List.mem_cons.1 hu with rfl | hu
   ·have := hpt ku; omega
   ·exact m u hu ku tu
def ivE (s : Sou) (v : Ver) (e : V) : Ent := ⟨v.rc.row ++ [tmV (tiV s v), e], 1⟩
theorem mem_ivsG {s : Sou} : ∀ {U : List Ver}, U.Pairwise (ltK s) → ∀ e, e ∈ ivsG s U ↔ ∃ v ∈ U, v.rc.del = false ∧ ∃ en, EndOf s U v en ∧ e = ivE s v en
 | [], _, e => by simp [ivsG]
 | v :: vs, h, e => by
  obtain ⟨a1, a2⟩ := List.pairwise_cons.1 h
  have ih := mem_ivsG a2 e
  have hv := endV_of h
  have step : (∃ w ∈ vs, w.rc.del = false ∧ ∃ en, EndOf s (v :: vs) w en ∧ e = ivE s w en) ↔ e ∈ ivsG s vs := by
   rw [ih]
   constructor
   ·rintro ⟨w, hw, d, en, h1, h2⟩
    exact ⟨w, hw, d, en, (EndOf.cons (a1 w hw)).1 h1, h2⟩
   ·rintro ⟨w, hw, d, en, h1, h2⟩
    exact ⟨w, hw, d, en, (EndOf.cons (a1 w hw)).2 h1, h2⟩
  rw [ivsG]
  split
  ·rename_i hd
   rw [← step]
   constructor
   ·rintro ⟨w, hw, x⟩; exact ⟨w, List.mem_cons_of_mem _ hw, x⟩
   ·rintro ⟨w, hw, d, x⟩
    rcases List.mem_cons.1 hw with rfl | hw
    ·rw [hd] at d; cases d
    ·exact ⟨w, hw, d, x⟩
  ·rename_i hd
   rw [List.mem_cons, ← step]
   constructor
   ·rintro (rfl | ⟨w, hw, x⟩)
    ·exact ⟨v, List.mem_cons_self .., by simpa using hd, _, hv, rfl⟩
    ·exact ⟨w, List.mem_cons_of_mem _ hw, x⟩
   ·rintro ⟨w, hw, d, en, x, y⟩
    rcases List.mem_cons.1 hw with rfl | hw
    ·rw [EndOf.uniq x hv] at y; exact .inl y
    ·exact .inr ⟨w, hw, d, en, x, y⟩
theorem RepOf.perm {s : Sou} {L M : List Ver} (h : ∀ w, w ∈ L ↔ w ∈ M) (v : Ver) : RepOf s L v ↔ RepOf s M v := by
 unfold RepOf
 rw [h]
 exact ⟨fun x => ⟨x.1, fun w hw => x.2 w ((h w).2 hw)⟩, fun x => ⟨x.1, fun w hw => x.2 w ((h w).1 hw)⟩⟩
theorem srtV_mem (s : Sou) (L : List Ver) (w : Ver) : w ∈ srtV s L ↔ w ∈ L := (isort_perm _).mem_iff
theorem srtV_asc (s : Sou) (L : List Ver) : AscO (cmpVr s) (srtV s L) := isort_asc (orders_V s) L
theorem srtV_uq {s : Sou} {L : List Ver} (h : Uq s L) : Uq s (srtV s L) := fun x hx y hy => h x ((srtV_mem s L x).1 hx) y ((srtV_mem s L y).1 hy)
theorem mem_ivs {s : Sou} {L : List Ver} (hu : Uq s L) (e : Ent) : e ∈ ivsV s L ↔ ∃ v, RepOf s L v ∧ v.rc.del = false ∧ ∃ en, EndOf s L v en ∧ e = ivE s v en := by
 have h1 := used_lt (srtV_asc s L) (srtV_uq hu)
 have h2 := fun u => mem_used (srtV_asc s L) (srtV_uq hu) u
 have h3 := used_rep s (srtV s L)
 have e1 : ∀ v en, EndOf s (usedV s (srtV s L)) v en ↔ EndOf s L v en := fun v en => by
  constructor
  ·intro h
   refine h.congr (fun w hw => ⟨w, (srtV_mem s L w).1 ((usedV_sub s _).subset hw), rfl, rfl⟩) fun w hw => h3 w ((srtV_mem s L w).2 hw)
  ·intro h
   refine h.congr (fun w hw => h3 w ((srtV_mem s L w).2 hw)) fun w hw => ⟨w, (srtV_mem s L w).1 ((usedV_sub s _).subset hw), rfl, rfl⟩
 rw [ivsV, srtE, (isort_perm _).mem_iff, mem_ivsG h1]
 constructor
 ·rintro ⟨v, hv, d, en, x, y⟩
  exact ⟨v, (RepOf.perm (srtV_mem s L) v).1 ((h2 v).1 hv), d, en, (e1 v en).1 x, y⟩
 ·rintro ⟨v, hv, d, en, x, y⟩
  exact ⟨v, (h2 v).2 ((RepOf.perm (srtV_mem s L) v).2 hv), d, en, (e1 v en).2 x, y⟩
theorem ivE_inj {s : Sou} {v w : Ver} {e f : V} (hv : v.rc.row.length = s.cols.length) (hw : w.rc.row.length = s.cols.length) (h : (ivE s v e).row = (ivE s w f).row) : v.rc.row = w.rc.row ∧ tiV s v = tiV s w ∧ e = f := by
 obtain ⟨h1, h2⟩ := List.append_inj h (hv.trans hw.symm)
 simp only [tmV, List.cons.injEq, V.mk.injEq, and_true, true_and] at h2
 exact ⟨h1, h2.1, h2.2⟩
theorem srt_of_asc {l : List Ent} (h : AscO cmpE l) (hn : l.Pairwise fun a b => a.row ≠ b.row) : Srt l := by
 refine (List.pairwise_and_iff.2 ⟨h, hn⟩).imp ?_
 rintro a b ⟨h1, h2⟩
 have h3 := rowsCmp_anti a.row b.row
 have h4 : rowsCmp b.row a.row ≠ 0 := fun e => h2 ((rowsCmp_zero _ _).1 e).symm
 unfold cmpE at h1
 omega
theorem ivsG_ne {s : Sou} : ∀ {U : List Ver}, U.Pairwise (ltK s) → (∀ v ∈ U, v.rc.row.length = s.cols.length) → (ivsG s U).Pairwise fun a b => a.row ≠ b.row
 | [], _, _ => List.Pairwise.nil
 | v :: vs, h, hl => by
  obtain ⟨a1, a2⟩ := List.pairwise_cons.1 h
  have ih := ivsG_ne a2 fun w hw => hl w (List.mem_cons_of_mem _ hw)
  rw [ivsG]
  split
  ·exact ih
  ·refine List.pairwise_cons.2 ⟨fun e he hr => ?_, ih⟩
   obtain ⟨w, hw, _, en, _, rfl⟩ := (mem_ivsG a2 e).1 he
   obtain ⟨x, y, _⟩ := ivE_inj (e := endV s v vs) (f := en) (hl v (List.mem_cons_self ..)) (hl w (List.mem_cons_of_mem _ hw)) hr
   exact ltK_ne (a1 w hw) ⟨congrArg (keyV s) x, y⟩
theorem pw_perm {l m : List Ent} (hp : l.Perm m) (h : l.Pairwise fun a b => a.row ≠ b.row) : m.Pairwise fun a b => a.row ≠ b.row :=
 hp.pairwise h fun {a b} h e => h e.symm
theorem srt_ivs {s : Sou} {L : List Ver} (hok : ∀ v ∈ L, okV s v) (hu : Uq s L) : Srt (ivsV s L) := by
 refine srt_of_asc (isort_asc orders_E _) (pw_perm (isort_perm _).symm (ivsG_ne (used_lt (srtV_asc s L) (srtV_uq hu)) fun v hv => ?_))
 exact fits_len (hok v ((srtV_mem s L v).1 ((usedV_sub s _).subset hv)))
theorem srt_ext : ∀ {a b : List Ent}, Srt a → Srt b → (∀ e, e ∈ a ↔ e ∈ b) → a = b
 | [], [], _, _, _ => rfl
 | [], y :: b, _, _, h => absurd ((h y).2 (List.mem_cons_self ..)) (by simp)
 | x :: a, [], _, _, h => absurd ((h x).1 (List.mem_cons_self ..)) (by simp)
 | x :: a, y :: b, ha, hb, h => by
  obtain ⟨a1, a2⟩ := List.pairwise_cons.1 ha
  obtain ⟨b1, b2⟩ := List.pairwise_cons.1 hb
  have hxy : x = y := by
   rcases List.mem_cons.1 ((h x).1 (List.mem_cons_self ..)) with e | hx
   ·exact e
   rcases List.mem_cons.1 ((h y).2 (List.mem_cons_self ..)) with e | hy
   ·exact e.symm
   have h1 := a1 y hy
   have h2 := b1 x hx
   have h3 := rowsCmp_anti x.row y.row
   omega
  subst hxy
  rw [srt_ext a2 b2 fun e => ?_]
  have hirr : ∀ z : Ent, ¬ rowsCmp z.row z.row < 0 := fun z => by rw [(rowsCmp_zero _ _).2 rfl]; omega
  constructor
  ·intro he
   rcases List.mem_cons.1 ((h e).1 (List.mem_cons_of_mem _ he)) with rfl | x
   ·exact absurd (a1 e he) (hirr e)
   ·exact x
  ·intro he
   rcases List.mem_cons.1 ((h e).2 (List.mem_cons_of_mem _ he)) with rfl | x
   ·exact absurd (b1 e he) (hirr e)
   ·exact x
inductive RenN (σ : Nat → Nat) : AVal → AVal → Prop where
 | closed (v : AVal) (h : v.closed = true) : RenN σ v v
 | sl (id ep off len : Nat) : RenN σ (.sl id ep off len) (.sl (σ id) ep off len)
 | ptr (id ep idx fld : Nat) : RenN σ (.ptr id ep idx fld) (.ptr (σ id) ep idx fld)
 | mp (id : Nat) : RenN σ (.mp id) (.mp (σ id))
 | it (id : Nat) : RenN σ (.it id) (.it (σ id))
 | agg (vs rs : List AVal) (hl : vs.length = rs.length) (h : ∀ (i : Nat) (v r : AVal), vs[i]? = some v → rs[i]? = some r → RenN σ v r) : RenN σ (.agg vs) (.agg rs)
 | tuple (vs rs : List AVal) (hl : vs.length = rs.length) (h : ∀ (i : Nat) (v r : AVal), vs[i]? = some v → rs[i]? = some r → RenN σ v r) : RenN σ (.tuple vs) (.tuple rs)
 | fn (f : FuncId) (vs rs : List AVal) (hl : vs.length = rs.length) (h : ∀ (i : Nat) (v r : AVal), vs[i]? = some v → rs[i]? = some r → RenN σ v r) : RenN σ (.fn f vs) (.fn f rs)
theorem RenN.cell {σ : Nat → Nat} {a b : AVal} (h : RenN σ a b) : a.isCell = b.isCell := by cases h <;> rfl
inductive RenNO (σ : Nat → Nat) : AObj → AObj → Prop where
 | arr (esz : Nat) (es es1 : List (List AVal)) (hl : es1.length = es.length) (hl2 : ∀ (i : Nat) (e e1 : List AVal), es[i]? = some e → es1[i]? = some e1 → e1.length = e.length)
   (h : ∀ (i j : Nat) (e e1 : List AVal) (d d1 : AVal), es[i]? = some e → es1[i]? = some e1 → e[j]? = some d → e1[j]? = some d1 → RenN σ d d1) :
   RenNO σ (.arr esz es) (.arr esz es1)
 | iter (s : ByteArray) (p : Nat) : RenNO σ (.iter s p) (.iter s p)
 | map (kvs kvs1 : List (AVal × AVal)) (hl : kvs1.length = kvs.length) (h : ∀ (i : Nat) (e e1 : AVal × AVal), kvs[i]? = some e → kvs1[i]? = some e1 → e1.1 = e.1 ∧ RenN σ e.2 e1.2) : RenNO σ (.map kvs) (.map kvs1)
theorem AVal.closed_of_pure {v : AVal} (h : v.isPure = true) : v.closed = true := by cases v <;> first | rfl | exact h | (simp [AVal.isPure] at h)
theorem RenNO.same {σ : Nat → Nat} {o : AObj} (h : o.clean = true) : RenNO σ o o := by
 cases o with
 | arr esz es => exact .arr esz es es rfl (fun i e e1 h1 h2 => by rw [h1] at h2; cases h2; rfl) fun i j e e1 d d1 h1 h2 h3 h4 => (by
   rw [h1] at h2; cases h2; rw [h3] at h4; cases h4; exact .closed _ (AVal.closed_of_pure (pureEs_get h h1 h3)))
 | iter s p => exact .iter s p
 | map kvs => exact .map kvs kvs rfl fun i e e1 h1 h2 => (by rw [h1] at h2; cases h2; exact ⟨rfl, .closed _ (AVal.closed_of_pure (pureKvs_get h h1))⟩)
theorem RenNO.after {σ : Nat → Nat} {o o0 o1 : AObj} {t t' : Option Loc} (h : RenNO σ o0 o1) (ha : o.after o0 t t') : o.after o1 t t' := by
 cases h with
 | iter => exact ha
 | arr esz es es1 hl _ _ =>
  cases o with
  | iter _ _ => exact ha
  | map _ => exact ha
  | arr z es0 => exact ⟨ha.1, by rw [hl]; exact ha.2.1, by rw [hl]; exact ha.2.2⟩
 | map => cases o <;> exact ha
theorem RenNO.afterL {σ : Nat → Nat} {o o0 o1 : AObj} {t t' : Option Loc} (h : RenNO σ o0 o1) (ha : o0.after o t t') : o1.after o t t' := by
 cases h with
 | iter => exact ha
 | arr esz es es1 hl _ _ =>
  cases o with
  | iter _ _ => exact ha
  | map _ => exact ha
  | arr z es0 => exact ⟨ha.1, by rw [hl]; exact ha.2.1, by rw [hl]; exact ha.2.2⟩
 | map => cases o <;> exact ha
theorem RenNO.ok {σ : Nat → Nat} {o0 o1 : AObj} (h : RenNO σ o0 o1) (ho : o0.ok) : o1.ok := by
 cases h with
 | iter => exact ho
 | map => exact ho
 | arr esz es es1 hl hl2 hp =>
  intro e1 he1
  obtain ⟨n, hn⟩ := List.getElem?_of_mem he1
  have hnl := (List.getElem?_eq_some_iff.1 hn).1
  have he : es[n]? = some es[n] := List.getElem?_eq_getElem (by omega)
  obtain ⟨g1, g2⟩ := ho _ (List.mem_of_getElem? he)
  refine ⟨(hl2 n _ _ he hn).trans g1, fun d1 hd1 => ?_⟩
  obtain ⟨j, hj⟩ := List.getElem?_of_mem hd1
  have hjl := (List.getElem?_eq_some_iff.1 hj).1
  have := hl2 n _ _ he hn
  have hd : es[n][j]? = some es[n][j] := List.getElem?_eq_getElem (by omega)
  rw [← (hp n j _ _ _ d1 he hn hd hj).cell]
  exact g2 _ (List.mem_of_getElem? hd)
theorem RenNO.okL {σ : Nat → Nat} {o0 o1 : AObj} (h : RenNO σ o0 o1) (ho : o1.ok) : o0.ok := by
 cases h with
 | iter => exact ho
 | map => exact ho
 | arr esz es es1 hl hl2 hp =>
  intro e he
  obtain ⟨n, hn⟩ := List.getElem?_of_mem he
  have hnl := (List.getElem?_eq_some_iff.1 hn).1
  have he1 : es1[n]? = some es1[n] := List.getElem?_eq_getElem (by omega)
  obtain ⟨g1, g2⟩ := ho _ (List.mem_of_getElem? he1)
  have hle := hl2 n _ _ hn he1
  refine ⟨by omega, fun d hd => ?_⟩
  obtain ⟨j, hj⟩ := List.getElem?_of_mem hd
  have hjl := (List.getElem?_eq_some_iff.1 hj).1
  have hd1 : es1[n][j]? = some es1[n][j] := List.getElem?_eq_getElem (by omega)
  rw [(hp n j _ _ d _ hn he1 hj hd1).cell]
  exact g2 _ (List.mem_of_getElem? hd1)
section
variable {P : Program} {C C' : Nat → Nat} {τ τ' : Nat → Option Loc} {H H' : List AObj} {w w' : World}
structure SameAt (σ : Nat → Nat) (τ : Nat → Option Loc) (H : List AObj) (τ' : Nat → Option Loc) (H' : List AObj) : Prop where
 obj : ∀ (k : Nat) (x : AObj), H[k]? = some x → ∃ y, H'[σ k]? = some y ∧ RenNO σ x y
 loc : ∀ (k : Nat), k < H.length → τ' (σ k) = τ k
theorem RenN.rel {σ : Nat → Nat} {a b : AVal} (h : RenN σ a b) (s : SameAt σ τ H τ' H') : ∀ {u : Value}, Rel C w τ H a u → Rel C w τ' H' b u := by
 have lt : ∀ {k : Nat} {x : AObj}, H[k]? = some x → k < H.length := fun h => (List.getElem?_eq_some_iff.1 h).1
 induction h with
 | closed v h => intro u hu; exact hu.closed h (fun _ => Nat.le_refl _) (fun _ _ _ => rfl)
 | sl k ep off len =>
  intro u hu
  cases hu with
  | rd h => cases h
  | sl _ _ _ _ a cap esz es ho hep h3 =>
   obtain ⟨y, hy, hry⟩ := s.obj k _ ho
   cases hry with
   | arr _ _ es1 hl1 _ _ => exact .sl _ ep off len a cap esz es1 hy (by omega) fun e => by rw [s.loc k (lt ho), hl1]; exact h3 (by omega)
 | ptr k ep idx fld =>
  intro u hu
  cases hu with
  | rd h => cases h
  | ptr _ _ _ _ a esz es ho hep h3 =>
   obtain ⟨y, hy, hry⟩ := s.obj k _ ho
   cases hry with
   | arr _ _ es1 hl1 _ _ => exact .ptr _ ep idx fld a esz es1 hy (by omega) fun e => by rw [s.loc k (lt ho)]; exact h3 (by omega)
 | mp k =>
  intro u hu
  cases hu with
  | rd h => cases h
  | mp _ kvs l ho ht =>
   obtain ⟨y, hy, hry⟩ := s.obj k _ ho
   cases hry with
   | map _ kvs1 => exact .mp _ kvs1 l hy (by rw [s.loc k (lt ho)]; exact ht)
 | it k =>
  intro u hu
  cases hu with
  | rd h => cases h
  | it _ s0 pos l ho ht =>
   obtain ⟨y, hy, hry⟩ := s.obj k _ ho
   cases hry with
   | iter => exact .it _ s0 pos l hy (by rw [s.loc k (lt ho)]; exact ht)
 | agg vs rs hl h ih =>
  intro u hu
  obtain ⟨us, rfl, hl2, hr2⟩ := hu.agg_inv
  refine .agg _ _ (by omega) fun i c v hc hv => ?_
  have hi := (List.getElem?_eq_some_iff.1 hc).1
  have hvi : vs[i]? = some vs[i] := List.getElem?_eq_getElem (by omega)
  exact ih i _ c hvi hc (hr2 i _ v hvi hv)
 | tuple vs rs hl h ih =>
  intro u hu
  obtain ⟨us, rfl, hl2, hr2⟩ := hu.tuple_inv
  refine .tuple _ _ (by omega) fun i c v hc hv => ?_
  have hi := (List.getElem?_eq_some_iff.1 hc).1
  have hvi : vs[i]? = some vs[i] := List.getElem?_eq_getElem (by omega)
  exact ih i _ c hvi hc (hr2 i _ v hvi hv)
 | fn f vs rs hl h ih =>
  intro u hu
  cases hu with
  | rd h0 =>
   cases h0
   have : rs = [] := List.eq_nil_of_length_eq_zero (by simpa using hl.symm)
   subst this
   exact .rd (.fn f)
  | fn _ _ us hl2 hr2 =>
   refine .fn _ _ _ (by omega) fun i c v hc hv => ?_
   have hi := (List.getElem?_eq_some_iff.1 hc).1
   have hvi : vs[i]? = some vs[i] := List.getElem?_eq_getElem (by omega)
   exact ih i _ c hvi hc (hr2 i _ v hvi hv)
theorem RenN.relL {σ : Nat → Nat} {a b : AVal} (h : RenN σ a b) (hb : ∀ (k : Nat) (y : AObj), H'[σ k]? = some y → ∃ x, H[k]? = some x ∧ RenNO σ x y ∧ τ' (σ k) = τ k) : ∀ {u : Value}, Rel C w τ' H' b u → Rel C w τ H a u := by
 induction h with
 | closed v h => intro u hu; exact hu.closed h (fun _ => Nat.le_refl _) (fun _ _ _ => rfl)
 | sl k ep off len =>
  intro u hu
  cases hu with
  | rd h => cases h
  | sl _ _ _ _ a cap esz es ho hep h3 =>
   obtain ⟨x, hx, hrx, ht⟩ := hb k _ ho
   cases hrx with
   | arr _ es0 _ hl1 _ _ => exact .sl _ ep off len a cap esz es0 hx (by omega) fun e => by rw [← ht, ← hl1]; exact h3 (by omega)
 | ptr k ep idx fld =>
  intro u hu
  cases hu with
  | rd h => cases h
  | ptr _ _ _ _ a esz es ho hep h3 =>
   obtain ⟨x, hx, hrx, ht⟩ := hb k _ ho
   cases hrx with
   | arr _ es0 _ hl1 _ _ => exact .ptr _ ep idx fld a esz es0 hx (by omega) fun e => by rw [← ht]; exact h3 (by omega)
 | mp k =>
  intro u hu
  cases hu with
  | rd h => cases h
  | mp _ kvs l ho ht0 =>
   obtain ⟨x, hx, hrx, ht⟩ := hb k _ ho
   cases hrx with
   | map kvs0 _ => exact .mp _ kvs0 l hx (by rw [← ht]; exact ht0)
 | it k =>
  intro u hu
  cases hu with
  | rd h => cases h
  | it _ s0 pos l ho ht0 =>
   obtain ⟨x, hx, hrx, ht⟩ := hb k _ ho
   cases hrx with
   | iter => exact .it _ s0 pos l hx (by rw [← ht]; exact ht0)
 | agg vs rs hl h ih =>
  intro u hu
  obtain ⟨us, rfl, hl2, hr2⟩ := hu.agg_inv
  refine .agg _ _ (by omega) fun i c v hc hv => ?_
  have hi := (List.getElem?_eq_some_iff.1 hc).1
  have hvi : rs[i]? = some rs[i] := List.getElem?_eq_getElem (by omega)
  exact ih i c _ hc hvi (hr2 i _ v hvi hv)
 | tuple vs rs hl h ih =>
  intro u hu
  obtain ⟨us, rfl, hl2, hr2⟩ := hu.tuple_inv
  refine .tuple _ _ (by omega) fun i c v hc hv => ?_
  have hi := (List.getElem?_eq_some_iff.1 hc).1
  have hvi : rs[i]? = some rs[i] := List.getElem?_eq_getElem (by omega)
  exact ih i c _ hc hvi (hr2 i _ v hvi hv)
 | fn f vs rs hl h ih =>
  intro u hu
  cases hu with
  | rd h0 =>
   cases h0
   have : vs = [] := List.eq_nil_of_length_eq_zero (by simpa using hl)
   subst this
   exact .rd (.fn f)
  | fn _ _ us hl2 hr2 =>
   refine .fn _ _ _ (by omega) fun i c v hc hv => ?_
   have hi := (List.getElem?_eq_some_iff.1 hc).1
   have hvi : rs[i]? = some rs[i] := List.getElem?_eq_getElem (by omega)
   exact ih i c _ hc hvi (hr2 i _ v hvi hv)
theorem RenNO.at {σ : Nat → Nat} {x y : AObj} {l : Loc} (h : RenNO σ x y) (s : SameAt σ τ H τ' H') (ho : ObjAt C w τ H l x) : ObjAt C w τ' H' l y := by
 cases h with
 | iter => exact ho
 | map kvs kvs1 hl hp =>
  obtain ⟨es, clock, a1, a2, a3⟩ := ho
  refine ⟨es, clock, a1, by omega, fun i e kv he hkv => ?_⟩
  have hi := (List.getElem?_eq_some_iff.1 hkv).1
  have h0 : kvs[i]? = some kvs[i] := List.getElem?_eq_getElem (by omega)
  obtain ⟨g1, g2⟩ := hp i _ kv h0 hkv
  obtain ⟨g3, g4⟩ := a3 i e _ he h0
  exact ⟨by rw [g1]; exact g3, g2.rel s g4⟩
 | arr esz es es1 hl hl2 hp =>
  obtain ⟨a1, cells, elem, fz, a2, a3, a4, a5⟩ := ho
  refine ⟨by omega, cells, elem, fz, a2, a3, a4, fun i j e1 d1 hi hd => ?_⟩
  have hil := (List.getElem?_eq_some_iff.1 hi).1
  have hjl := (List.getElem?_eq_some_iff.1 hd).1
  have he : es[i]? = some es[i] := List.getElem?_eq_getElem (by omega)
  have hl3 := hl2 i _ _ he hi
  have hd0 : es[i][j]? = some es[i][j] := List.getElem?_eq_getElem (by omega)
  obtain ⟨v, hx1, hx2⟩ := a5 i j _ _ he hd0
  exact ⟨v, hx1, (hp i j _ _ _ d1 he hi hd0 hd).rel s hx2⟩
theorem RenNO.atL {σ : Nat → Nat} {x y : AObj} {l : Loc} (h : RenNO σ x y) (hb : ∀ (k : Nat) (y : AObj), H'[σ k]? = some y → ∃ x, H[k]? = some x ∧ RenNO σ x y ∧ τ' (σ k) = τ k) (ho : ObjAt C w τ' H' l y) : ObjAt C w τ H l x := by
 cases h with
 | iter => exact ho
 | map kvs kvs1 hl hp =>
  obtain ⟨es, clock, a1, a2, a3⟩ := ho
  refine ⟨es, clock, a1, by omega, fun i e kv he hkv => ?_⟩
  have hi := (List.getElem?_eq_some_iff.1 hkv).1
  have h0 : kvs1[i]? = some kvs1[i] := List.getElem?_eq_getElem (by omega)
  obtain ⟨g1, g2⟩ := hp i kv _ hkv h0
  obtain ⟨g3, g4⟩ := a3 i e _ he h0
  exact ⟨by rw [← g1]; exact g3, g2.relL hb g4⟩
 | arr esz es es1 hl hl2 hp =>
  obtain ⟨a1, cells, elem, fz, a2, a3, a4, a5⟩ := ho
  refine ⟨by omega, cells, elem, fz, a2, a3, a4, fun i j e d hi hd => ?_⟩
  have hil := (List.getElem?_eq_some_iff.1 hi).1
  have hjl := (List.getElem?_eq_some_iff.1 hd).1
  have he : es1[i]? = some es1[i] := List.getElem?_eq_getElem (by omega)
  have hl3 := hl2 i _ _ hi he
  have hd0 : es1[i][j]? = some es1[i][j] := List.getElem?_eq_getElem (by omega)
  obtain ⟨v, hx1, hx2⟩ := a5 i j _ _ he hd0
  exact ⟨v, hx1, (hp i j _ _ d _ hi he hd hd0).relL hb hx2⟩
def frM (ids : List Nat) (n : Nat) (k : Nat) : Nat := match ids[k]? with
 | some id => id
 | none => n + (k - ids.length)
theorem frM_lt {ids : List Nat} {n k id : Nat} (h : ids[k]? = some id) : frM ids n k = id := by unfold frM; rw [h]
theorem frM_ge {ids : List Nat} {n k : Nat} (h : ids.length ≤ k) : frM ids n k = n + (k - ids.length) := by unfold frM; rw [List.getElem?_eq_none h]
theorem ACalls.frameN {f : FuncId} {args0 args : List AVal} {Q0 Q : AVal → List AObj → Prop} {H0 : List AObj} (ids : List Nat) (hnd : ids.Nodup) (hlen : ids.length = H0.length)
  (hobj : ∀ (k id : Nat) (x : AObj), ids[k]? = some id → H0[k]? = some x → ∃ y, H[id]? = some y ∧ RenNO (frM ids H.length) x y)
  (hal : args0.length = args.length) (ha : ∀ (i : Nat) (a b : AVal), args0[i]? = some a → args[i]? = some b → RenN (frM ids H.length) a b)
  (h : ACalls P f args0 H0 Q0)
  (hq : ∀ r H1, Q0 r H1 → ids.length ≤ H1.length → ∃ r' H2, RenN (frM ids H.length) r r' ∧ H2.length = H.length + (H1.length - ids.length) ∧
   (∀ (k : Nat) (x : AObj), H1[k]? = some x → ∃ y, H2[frM ids H.length k]? = some y ∧ RenNO (frM ids H.length) x y) ∧ (∀ j, j < H.length → j ∉ ids → H2[j]? = H[j]?) ∧ Q r' H2) : ACalls P f args H Q := by
 intro C τ w vs hw hl hr
 have σlt : ∀ {k id : Nat}, ids[k]? = some id → frM ids H.length k = id := fun h => frM_lt h
 have idlt : ∀ {k id : Nat}, ids[k]? = some id → id < H.length := fun {k id} hk => by
  have hk0 : k < H0.length := by have := (List.getElem?_eq_some_iff.1 hk).1; omega
  obtain ⟨y, hy, _⟩ := hobj k id _ hk (List.getElem?_eq_getElem hk0)
  exact (List.getElem?_eq_some_iff.1 hy).1
 have idget : ∀ {k : Nat}, k < ids.length → ids[k]? = some (frM ids H.length k) := fun {k} hk => by
  have h1 : ids[k]? = some ids[k] := List.getElem?_eq_getElem hk
  rw [frM_lt h1]; exact h1
 have σinj : ∀ k k', frM ids H.length k = frM ids H.length k' → k = k' := fun k k' e => by
  rcases Nat.lt_or_ge k ids.length with a | a <;> rcases Nat.lt_or_ge k' ids.length with b | b
  ·have h1 := idget a
   have h2 := idget b
   rw [← e] at h2
   obtain ⟨_, e1⟩ := List.getElem?_eq_some_iff.1 h1
   obtain ⟨_, e2⟩ := List.getElem?_eq_some_iff.1 h2
   have hne := List.pairwise_iff_getElem.1 hnd
   rcases Nat.lt_trichotomy k k' with h3 | h3 | h3
   ·exact absurd (e1.trans e2.symm) (hne k k' a b h3)
   ·exact h3
   ·exact absurd (e2.trans e1.symm) (hne k' k b a h3)
  ·have := idlt (idget a); rw [e, frM_ge b] at this; omega
  ·have := idlt (idget b); rw [← e, frM_ge a] at this; omega
  ·rw [frM_ge a, frM_ge b] at e; omega
 let τ0 : Nat → Option Loc := fun k => if k < ids.length then τ (frM ids H.length k) else none
 have t00 : ∀ {k}, k < ids.length → τ0 k = τ (frM ids H.length k) := fun {k} hk => by simp only [τ0, if_pos hk]
 have hbk : ∀ (k : Nat) (y : AObj), H[frM ids H.length k]? = some y → ∃ x, H0[k]? = some x ∧ RenNO (frM ids H.length) x y ∧ τ (frM ids H.length k) = τ0 k := fun k y hy => by
  have hk : k < ids.length := by
   rcases Nat.lt_or_ge k ids.length with a | a
   ·exact a
   ·rw [frM_ge a] at hy; have := (List.getElem?_eq_some_iff.1 hy).1; omega
  have hx : H0[k]? = some H0[k] := List.getElem?_eq_getElem (by omega)
  obtain ⟨y', hy', hr'⟩ := hobj k _ _ (idget hk) hx
  rw [hy] at hy'; cases hy'
  exact ⟨_, hx, hr', (t00 hk).symm⟩
 have hfw : ∀ {k : Nat} {x : AObj}, H0[k]? = some x → k < ids.length ∧ ∃ y, H[frM ids H.length k]? = some y ∧ RenNO (frM ids H.length) x y := fun {k x} hx => by
  have hk : k < ids.length := by have := (List.getElem?_eq_some_iff.1 hx).1; omega
  exact ⟨hk, hobj k _ _ (idget hk) hx⟩
 have hw0 : WF C τ0 H0 w := by
  refine ⟨fun k x h => ?_, fun k x h ht => ?_, fun k x l h ht => ?_, fun k l hk ht => ?_, fun i j li lj hi hj h1 h2 h3 => ?_, hw.lt⟩
  ·obtain ⟨hk, y, hy, hry⟩ := hfw h
   exact hry.okL (hw.ok _ y hy)
  ·obtain ⟨hk, y, hy, hry⟩ := hfw h
   rw [t00 hk] at ht
   obtain ⟨esz, rfl⟩ := hw.virt _ y hy ht
   cases hry with
   | arr _ es0 _ hl1 => exact ⟨esz, by rw [List.length_eq_zero_iff.1 (show es0.length = 0 by simpa using hl1.symm)]⟩
  ·obtain ⟨hk, y, hy, hry⟩ := hfw h
   rw [t00 hk] at ht
   exact hry.atL hbk (hw.objs _ y l hy ht)
  ·have hk2 : k < ids.length := by omega
   rw [t00 hk2] at ht
   exact hw.comm _ l (idlt (idget hk2)) ht
  ·have a : i < ids.length := by omega
   have b : j < ids.length := by omega
   rw [t00 a] at h1; rw [t00 b] at h2
   exact σinj _ _ (hw.inj _ _ li lj (idlt (idget a)) (idlt (idget b)) h1 h2 h3)
 have hr0 : ∀ (i : Nat) (a : AVal) (v : Value), args0[i]? = some a → vs[i]? = some v → Rel C w τ0 H0 a v := fun i a v h1 h2 => by
  have hi := (List.getElem?_eq_some_iff.1 h1).1
  have hb : args[i]? = some args[i] := List.getElem?_eq_getElem (by omega)
  exact (ha i a _ h1 hb).relL hbk (hr i _ v hb h2)
 have hc := h C τ0 w vs hw0 (by omega) hr0
 have hown : ∀ b, Owned τ0 H0 b → ∃ k l, k < ids.length ∧ τ (frM ids H.length k) = some l ∧ l.b = b := fun b => by
  rintro ⟨k, l, hk, ht, hb⟩
  have hk2 : k < ids.length := by omega
  rw [t00 hk2] at ht
  exact ⟨k, l, hk2, ht, hb⟩
 have fin : ∀ (e : Ending) (w' : World), (∃ v r C' τ' H', e = .returned v ∧ Q0 r H' ∧ Rel C' w' τ' H' r v ∧ St w (PrCall τ0 H0 w) C' τ' H' w' ∧ Step C τ0 H0 w C' τ' H' w') →
   ∃ v r C' τ' H', e = .returned v ∧ Q r H' ∧ Rel C' w' τ' H' r v ∧ St w (PrCall τ H w) C' τ' H' w' ∧ Step C τ H w C' τ' H' w' := by
  rintro e w' ⟨v, r, C1, τ1, H1, he, hq0, hrel, hst, hstep⟩
  have hge : ids.length ≤ H1.length := by
   rcases Nat.eq_zero_or_pos ids.length with h0 | h0
   ·omega
   ·obtain ⟨o', h1, _⟩ := hstep.obj (ids.length - 1) _ (List.getElem?_eq_getElem (show ids.length - 1 < H0.length by omega))
    have := (List.getElem?_eq_some_iff.1 h1).1; omega
  obtain ⟨r', H2, hrr, hH2, hG, hoth, hQ⟩ := hq r H1 hq0 hge
  
  have hpr : ∀ j l, j < H.length → j ∉ ids → τ j = some l → PrCall τ0 H0 w l.b := fun j l hj hne ht =>
   ⟨hw.locLt hj ht, fun ho => by
    obtain ⟨k, l', hk, ht', hb⟩ := hown _ ho
    have := hw.inj j _ l l' hj (idlt (idget hk)) ht ht' hb.symm
    exact hne (this ▸ List.mem_of_getElem? (idget hk))⟩
  have hheap : ∀ j l, j < H.length → j ∉ ids → τ j = some l → w'.heap[l.b]? = w.heap[l.b]? := fun j l hj hne ht => hst.fr.prot _ (hpr j l hj hne ht)
  
  have split : ∀ i, i < H2.length → (i < H.length ∧ i ∉ ids) ∨ ∃ k, i = frM ids H.length k ∧ k < H1.length := fun i hi => by
   rcases Nat.lt_or_ge i H.length with h1 | h1
   ·by_cases h2 : i ∈ ids
    ·obtain ⟨k, hk⟩ := List.getElem?_of_mem h2
     exact .inr ⟨k, (frM_lt hk).symm, by have := (List.getElem?_eq_some_iff.1 hk).1; omega⟩
    ·exact .inl ⟨h1, h2⟩
   ·exact .inr ⟨ids.length + (i - H.length), by rw [frM_ge (by omega)]; omega, by omega⟩
  have notboth : ∀ {i k}, i < H.length → i ∉ ids → i ≠ frM ids H.length k := fun {i k} h1 h2 e => by
   rcases Nat.lt_or_ge k ids.length with a | a
   ·exact h2 (e ▸ List.mem_of_getElem? (idget a))
   ·rw [frM_ge a] at e; omega
  let τ2 : Nat → Option Loc := fun i => if i < H.length then (match ids.idxOf? i with
   | some k => τ1 k
   | none => τ i) else τ1 (ids.length + (i - H.length))
  have tF : ∀ k, τ2 (frM ids H.length k) = τ1 k := fun k => by
   rcases Nat.lt_or_ge k ids.length with a | a
   ·have h1 := idget a
    have h2 : ids.idxOf? (frM ids H.length k) = some k := by
     rcases hx : ids.idxOf? (frM ids H.length k) with _ | k'
     ·rw [List.idxOf?_eq_none_iff] at hx
      exact absurd (List.mem_of_getElem? h1) hx
     ·obtain ⟨hk', e', _⟩ := List.idxOf?_eq_some_iff.1 hx
      have hee : ids[k']? = some (frM ids H.length k) := by rw [List.getElem?_eq_getElem hk', e']
      rw [σinj k k' (by rw [frM_lt hee])]
    show (if frM ids H.length k < H.length then _ else _) = _
    rw [if_pos (idlt h1), h2]
   ·show (if frM ids H.length k < H.length then _ else _) = _
    rw [frM_ge a, if_neg (by omega)]
    congr 1; omega
  have tO : ∀ j, j < H.length → j ∉ ids → τ2 j = τ j := fun j hj hne => by
   show (if j < H.length then _ else _) = _
   rw [if_pos hj, List.idxOf?_eq_none_iff.2 hne]
  have same : SameAt (frM ids H.length) τ1 H1 τ2 H2 := ⟨hG, fun k _ => tF k⟩
  have step : Step C τ H w C1 τ2 H2 w' := by
   refine ⟨hstep.le, hstep.cell, fun j x hx => ?_, hstep.grow, hstep.old⟩
   have hj := (List.getElem?_eq_some_iff.1 hx).1
   by_cases e1 : j ∈ ids
   ·obtain ⟨k, hk⟩ := List.getElem?_of_mem e1
    have hkl := (List.getElem?_eq_some_iff.1 hk).1
    have hx0 : H0[k]? = some H0[k] := List.getElem?_eq_getElem (by omega)
    obtain ⟨y, hy, hry⟩ := hobj k j _ hk hx0
    rw [hx] at hy; cases hy
    obtain ⟨o', h1, h2⟩ := hstep.obj k _ hx0
    obtain ⟨z, hz, hrz⟩ := hG k o' h1
    rw [frM_lt hk] at hz
    refine ⟨z, hz, ?_⟩
    have t1 := tF k
    rw [frM_lt hk] at t1
    rw [t1]
    have t2 := t00 hkl
    rw [frM_lt hk] at t2
    rw [← t2]
    exact hrz.after (hry.afterL h2)
   ·exact ⟨x, by rw [hoth j hj e1]; exact hx, by rw [tO j hj e1]; exact x.after_refl _⟩
  have hgetF : ∀ k, k < H1.length → ∃ x, H1[k]? = some x := fun k hk => ⟨_, List.getElem?_eq_getElem hk⟩
  refine ⟨v, r', C1, τ2, H2, he, hQ, hrr.rel same hrel, ⟨⟨fun i x hx => ?_, fun i x hx ht => ?_, fun i x l hx ht => ?_, fun i l hi ht => ?_, fun i j li lj hi hj hti htj hb => ?_, hst.wf.lt⟩,
   ⟨hst.fr.os, hst.fr.tape, hst.fr.output, hst.fr.size, fun b hb => hst.fr.prot b ⟨hb.1, ?_⟩, hst.fr.drawn⟩, ?_, fun b hb => hb.1⟩, step⟩
  ·rcases split i (List.getElem?_eq_some_iff.1 hx).1 with ⟨h1, h2⟩ | ⟨k, rfl, hk⟩
   ·rw [hoth i h1 h2] at hx; exact hw.ok i x hx
   ·obtain ⟨z, hz⟩ := hgetF k hk
    obtain ⟨y, hy, hry⟩ := hG k z hz
    rw [hx] at hy; cases hy
    exact hry.ok (hst.wf.ok k z hz)
  ·rcases split i (List.getElem?_eq_some_iff.1 hx).1 with ⟨h1, h2⟩ | ⟨k, rfl, hk⟩
   ·rw [hoth i h1 h2] at hx; rw [tO i h1 h2] at ht; exact hw.virt i x hx ht
   ·obtain ⟨z, hz⟩ := hgetF k hk
    obtain ⟨y, hy, hry⟩ := hG k z hz
    rw [hx] at hy; cases hy
    rw [tF] at ht
    obtain ⟨esz, rfl⟩ := hst.wf.virt k z hz ht
    cases hry with
    | arr _ _ es1 hl1 _ _ =>
     have : es1 = [] := List.length_eq_zero_iff.1 hl1
     subst this; exact ⟨esz, rfl⟩
  ·rcases split i (List.getElem?_eq_some_iff.1 hx).1 with ⟨h1, h2⟩ | ⟨k, rfl, hk⟩
   ·rw [hoth i h1 h2] at hx; rw [tO i h1 h2] at ht
    exact (hw.objs i x l hx ht).mono step (hheap i l h1 h2 ht)
   ·obtain ⟨z, hz⟩ := hgetF k hk
    obtain ⟨y, hy, hry⟩ := hG k z hz
    rw [hx] at hy; cases hy
    rw [tF] at ht
    exact hry.at same (hst.wf.objs k z l hz ht)
  ·rcases split i hi with ⟨h1, h2⟩ | ⟨k, rfl, hk⟩
   ·rw [tO i h1 h2] at ht
    rw [hstep.old _ (hw.locLt h1 ht)]; exact hw.comm i l h1 ht
   ·rw [tF] at ht; exact hst.wf.comm k l hk ht
  ·rcases split i hi with ⟨h1, h2⟩ | ⟨k, rfl, hk⟩ <;> rcases split j hj with ⟨h3, h4⟩ | ⟨k', rfl, hk'⟩
   ·rw [tO i h1 h2] at hti; rw [tO j h3 h4] at htj; exact hw.inj i j li lj h1 h3 hti htj hb
   ·rw [tO i h1 h2] at hti; rw [tF] at htj
    exact absurd (hb ▸ hpr i li h1 h2 hti) (hst.own _ ⟨k', lj, hk', htj, rfl⟩)
   ·rw [tF] at hti; rw [tO j h3 h4] at htj
    exact absurd (hb ▸ hpr j lj h3 h4 htj) (hst.own _ ⟨k, li, hk, hti, rfl⟩)
   ·rw [tF] at hti htj
    rw [hst.wf.inj k k' li lj hk hk' hti htj hb]
  ·intro ho
   obtain ⟨k, l, hk, ht, hb2⟩ := hown _ ho
   exact hb.2 ⟨_, l, idlt (idget hk), ht, hb2⟩
  ·rintro b ⟨i, l, hi, ht, rfl⟩ hp2
   rcases split i hi with ⟨h1, h2⟩ | ⟨k, rfl, hk⟩
   ·rw [tO i h1 h2] at ht; exact hp2.2 ⟨i, l, h1, ht, rfl⟩
   ·rw [tF] at ht
    refine hst.own _ ⟨k, l, hk, ht, rfl⟩ ⟨hp2.1, fun ho => ?_⟩
    obtain ⟨k2, l2, hk2, ht2, hb2⟩ := hown _ ho
    exact hp2.2 ⟨_, l2, idlt (idget hk2), ht2, hb2⟩
 unfold CallsX at hc ⊢
 split at hc
 ·exact Calls.mono hc fun e w' hh => fin e w' hh
 ·exact fin _ _ hc
 ·exact hc
end
def RenArgs (σ : Nat → Nat) : List AVal → List AVal → Prop
 | [], [] => True
 | a :: asv, b :: bs => RenN σ a b ∧ RenArgs σ asv bs
 | _, _ => False
theorem RenArgs.get {σ : Nat → Nat} : ∀ {asv bs : List AVal}, RenArgs σ asv bs → asv.length = bs.length ∧ ∀ (i : Nat) (a b : AVal), asv[i]? = some a → bs[i]? = some b → RenN σ a b
 | [], [], _ => ⟨rfl, fun i a b h => by simp at h⟩
 | a :: asv, b :: bs, h => by
  obtain ⟨h1, h2⟩ := RenArgs.get h.2
  refine ⟨by simp [h1], fun i x y hx hy => ?_⟩
  cases i with
  | zero => simp at hx hy; subst hx hy; exact h.1
  | succ i => exact h2 i x y (by simpa using hx) (by simpa using hy)
 | [], _ :: _, h => h.elim
 | _ :: _, [], h => h.elim
def renH (σ : Nat → Nat) (H2 : List AObj) : Nat → List AObj → Prop
 | _, [] => True
 | k, x :: xs => (∃ y, H2[σ k]? = some y ∧ RenNO σ x y) ∧ renH σ H2 (k + 1) xs
theorem renH_get {σ : Nat → Nat} {H2 : List AObj} : ∀ {xs : List AObj} {k : Nat}, renH σ H2 k xs → ∀ (i : Nat) (x : AObj), xs[i]? = some x → ∃ y, H2[σ (k + i)]? = some y ∧ RenNO σ x y
 | [], k, _, i, x, h => by simp at h
 | z :: xs, k, h, i, x, hx => by
  cases i with
  | zero => simp at hx; subst hx; exact h.1
  | succ i =>
   have := renH_get h.2 i x (by simpa using hx)
   rwa [show k + 1 + i = k + (i + 1) by omega] at this
def othH (ids : List Nat) (H2 : List AObj) : Nat → List AObj → Prop
 | _, [] => True
 | j, x :: xs => (j ∈ ids ∨ H2[j]? = some x) ∧ othH ids H2 (j + 1) xs
theorem othH_get {ids : List Nat} {H2 : List AObj} : ∀ {xs : List AObj} {j : Nat}, othH ids H2 j xs → ∀ i, i < xs.length → j + i ∉ ids → H2[j + i]? = xs[i]?
 | [], j, _, i, h, _ => by simp at h
 | z :: xs, j, h, i, hi, hn => by
  cases i with
  | zero => exact h.1.resolve_left hn
  | succ i =>
   have := othH_get h.2 i (by simpa using hi) (by rwa [show j + 1 + i = j + (i + 1) by omega])
   rwa [show j + 1 + i = j + (i + 1) by omega] at this
theorem ACalls.frL {P : Program} {H : List AObj} {f : FuncId} {args0 args : List AVal} {H0 H1 H2 : List AObj} {R0 R : AVal} (h : ACalls P f args0 H0 (fun r H' => r = R0 ∧ H' = H1)) (ids : List Nat) (hnd : ids.Nodup) (hlen : ids.length = H0.length)
  (h0 : renH (frM ids H.length) H 0 H0) (ha : RenArgs (frM ids H.length) args0 args) (hR : RenN (frM ids H.length) R0 R) (hl : H2.length = H.length + (H1.length - ids.length))
  (h1 : renH (frM ids H.length) H2 0 H1) (h2 : othH ids H2 0 H) : ACalls P f args H (fun r H' => r = R ∧ H' = H2) := by
 obtain ⟨ha1, ha2⟩ := ha.get
 refine ACalls.frameN ids hnd hlen (fun k id x hk hx => ?_) ha1 ha2 h ?_
 ·have := renH_get h0 k x hx
  rwa [Nat.zero_add, frM_lt hk] at this
 ·rintro r G ⟨rfl, rfl⟩ _
  refine ⟨R, H2, hR, hl, fun k x hx => ?_, fun j hj hn => ?_, rfl, rfl⟩
  ·have := renH_get h1 k x hx
   rwa [Nat.zero_add] at this
  ·have := othH_get h2 j hj (by rwa [Nat.zero_add])
   rwa [Nat.zero_add] at this
attribute [local irreducible] ACalls
theorem Intervals_1_spec {P : Program} (F : F_z0m P) (x y : Ent) (hx : x.row.length ≤ 1000000) (H : List AObj) :
  ACalls P F.id [.agg (entC x), .agg (entC y)] H (fun r H' => r = .int .i64 (rowsCmp x.row y.row) ∧ H' = H) := by
 refine ACalls.pure rfl (acalls_of_body F.has ?_)
 (conv => whnf); refine ACalls.use (value_CompareRows_spec F.z22 false false x.row y.row hx _) ?_
 conv => whnf
 exact .closed _ rfl
theorem Contents_1_spec {P : Program} (F : F_z0u P) (x y : Ent) (hx : x.row.length ≤ 1000000) (H : List AObj) :
  ACalls P F.id [.agg (entC x), .agg (entC y)] H (fun r H' => r = .int .i64 (rowsCmp x.row y.row) ∧ H' = H) := by
 refine ACalls.pure rfl (acalls_of_body F.has ?_)
 (conv => whnf); refine ACalls.use (value_CompareRows_spec F.z22 false false x.row y.row hx _) ?_
 conv => whnf
 exact .closed _ rfl
def keyI (s : Sou) : List Int := s.key.map fun n => colIdx s.cols n
theorem keyI_length (s : Sou) : (keyI s).length = s.key.length := List.length_map ..
set_option maxRecDepth 20000 in
theorem lkeys_spec {P : Program} (F : F_z11 P) (s : Sou) (hs : s.ok) (H : List AObj) :
  ACalls P F.id [.agg (souC s)] H (fun r H' => r = .list false 1 (iC (keyI s)) ∧ H' = H) := by
 obtain ⟨hs1, hs2⟩ := hs
 refine ACalls.pure (by simp [souC, AVal.closed, AVal.isPure]) (acalls_of_body F.has ?_)
 conv => whnf
 refine ⟨fun m ρ H1 => ∃ (k : Nat) (U : List Int), k + m = s.key.length ∧ U = (keyI s).take k ∧ H1 = [.arr 7 [souC s], .arr 1 (iC U)] ∧ Sv 22 [(1, .ptr 0 1 0 0), (3, .sl 1 U.length 0 U.length), (7, .list false 1 (sC s.key)), (8, .int .i64 s.key.length), (9, .int .i64 k)] ρ, s.key.length, [(3, 1)], ?_, ?_⟩
 ·exact ⟨0, [], by omega, rfl, rfl, Sv.intro rfl ⟨rfl, rfl, rfl, intEq (by rw [sC_length]), rfl, trivial⟩⟩
 rintro m ρ H1 ⟨k, U, hk, hU, rfl, d, rfl⟩
 (conv => whnf); refine recA (fun hlt => ?_) (fun hlt => ?_)
 ·simp at hlt
  have hx : s.key[k]? = some s.key[k] := List.getElem?_eq_getElem hlt
  have hkx : (keyI s)[k]? = some (colIdx s.cols s.key[k]) := by rw [keyI, List.getElem?_map, hx]; rfl
  generalize s.key[k] = n at hx hkx
  have hUl : U.length = k := by rw [hU, List.length_take, keyI_length]; omega
  (conv => whnf); refine And.intro (by omega) ?_
  (conv => whnf); refine recO (sC_at hx) ?_
  (conv => whnf); refine ACalls.use (schema_Index_spec F.z15 false s.cols (by omega) n _) ?_
  (conv => whnf); refine recT (by rw [iC_length]; exact Nat.beq_refl _) ?_
  (conv => whnf); refine And.intro (⟨roomMul (by simp; omega) (by omega), roomB_le (by simp; omega), rfl, by rw [iC_length]⟩) ?_
  conv => whnf
  have hcn : iC U ++ [[AVal.int .i64 (colIdx s.cols n)]] = iC (U ++ [colIdx s.cols n]) := by rw [iC_append]; rfl
  have hl2 : (iC U ++ [[AVal.int .i64 (colIdx s.cols n)]]).length = (U ++ [colIdx s.cols n]).length := by rw [hcn, iC_length]
  refine ⟨m - 1, by omega, Gp.first 2 [.arr 7 [souC s], .arr 1 (iC U ++ [[AVal.int .i64 (colIdx s.cols n)]])] rfl rfl (by rw [hcn]; exact all2 (pureS s) (pureEs_iC _)) rfl ?_ fun ρ1 h => ⟨k + 1, U ++ [colIdx s.cols n], by omega, by rw [hU, ← take_snoc hkx], by rw [hcn], h⟩⟩
  exact ⟨.keepP 0 1 0 0 0 rfl, pubSl (k := 1) rfl rfl hl2 hl2, .closed (.list false 1 (sC s.key)) rfl, .closed _ rfl, pub_int (wrapI _ (by omega) (by omega)), trivial⟩
 ·simp at hlt
  rw [List.take_of_length_le (by rw [keyI_length]; omega)] at hU
  subst hU
  conv => whnf
  exact pubFI (by simp) rfl (iC_length _).symm (iC_length _).symm (pureEs_iC _)
theorem pick_key (s : Sou) (hs : s.good) (row : List V) (hr : s.cols.length ≤ row.length) : pickL zV row (keyI s) = keyV s row := by
 rw [pickL, keyI, List.map_map, keyV]
 refine List.map_congr_left fun n hn => ?_
 obtain ⟨k, hk⟩ := List.getElem?_of_mem hn
 obtain ⟨h1, h2⟩ := key_at hs hk
 show (if 0 ≤ colIdx s.cols n ∧ colIdx s.cols n < (row.length : Int) then _ else _) = _
 rw [if_pos ⟨h1, by omega⟩]
set_option maxRecDepth 20000 in
theorem Versions_2_spec {P : Program} (F : F_z0x P) (s : Sou) (hs : s.good) (x y : Ver) (hx : okV s x) (hy : okV s y) (H : List AObj) :
  ACalls P F.id ([.agg (verC x), .agg (verC y)] ++ [.cptr [.list false 1 (iC (keyI s))] 0, .cptr (souC s) 0]) H (fun r H' => r = .int .i64 (cmpVr s x y) ∧ H' = H) := by
 have hten := hs.ten
 have hkl := hs.klen
 obtain ⟨x1, x2⟩ := okV_len hs hx
 obtain ⟨y1, y2⟩ := okV_len hs hy
 have px : ∀ H, ACalls P F.z19.id [.list false 3 (vC x.rc.row), .list false 1 (iC (keyI s))] H (fun r H' => r = .list false 3 (vC (keyV s x.rc.row)) ∧ H' = H) := fun H => by
  have := schema_Pick_spec F.z19 false false x.rc.row (keyI s) (by omega) (by rw [keyI_length]; omega) H
  rwa [pick_key s hs _ x2] at this
 have py : ∀ H, ACalls P F.z19.id [.list false 3 (vC y.rc.row), .list false 1 (iC (keyI s))] H (fun r H' => r = .list false 3 (vC (keyV s y.rc.row)) ∧ H' = H) := fun H => by
  have := schema_Pick_spec F.z19 false false y.rc.row (keyI s) (by omega) (by rw [keyI_length]; omega) H
  rwa [pick_key s hs _ y2] at this
 refine ACalls.pure rfl (acalls_of_body F.has ?_)
 (conv => whnf); refine ⟨_, px _, ?_⟩
 (conv => whnf); refine ⟨_, py _, ?_⟩
 (conv => whnf); refine ⟨_, value_CompareRows_spec F.z22 false false (keyV s x.rc.row) (keyV s y.rc.row) (by rw [keyV_length]; omega) _, ?_⟩
 (conv => whnf); refine ⟨_, wTime_spec F.z44 s hs.ok x.rc (by omega) _, ?_⟩
 (conv => whnf); refine ⟨_, wTime_spec F.z44 s hs.ok y.rc (by omega) _, ?_⟩
 (conv => whnf); refine ⟨_, cmpCompare_int_spec F.z0a (timeV s x.rc) (timeV s y.rc) _, ?_⟩
 (conv => whnf); refine ⟨_, cmpCompare_int_spec F.z0a x.rc.seq y.rc.seq _, ?_⟩
 (conv => whnf); refine ⟨_, cmpCompare_int_spec F.z0a x.file y.file _, ?_⟩
 (conv => whnf); refine ⟨_, cmpCompare_int_spec F.z0a x.place y.place _, ?_⟩
 (conv => whnf); refine ⟨_, cmpOr_spec F.z0c [rowsCmp (keyV s x.rc.row) (keyV s y.rc.row), cmpI (timeV s x.rc) (timeV s y.rc), cmpI x.rc.seq y.rc.seq, cmpI x.file y.file, cmpI x.place y.place] (by simp) _, ?_⟩
 repeat ((conv => whnf); refine And.intro rfl ?_)
 conv => whnf
 exact .closed _ rfl
set_option maxRecDepth 20000 in
theorem copyRecord_spec {P : Program} (F : F_z0y P) (r : Rec) (hn : r.row ≠ []) (hl : r.row.length ≤ 1000) (H : List AObj) :
  ACalls P F.id [.agg (recC r)] H (fun q H' => q = .agg (recC r) ∧ H' = H) := by
 refine ACalls.pure (recC_closed r) (acalls_of_body F.has ?_)
 (conv => whnf); refine ACalls.mono (cloneV_ex F.z1e false r.row hn (by omega) _) ?_
 rintro q H' ⟨rfl, rfl⟩
 conv => whnf
 refine .agg [_, _, _] (recC r) rfl fun i v q h1 h2 => ?_
 rcases i with _ | _ | _ | i
 ·cases h1; cases h2; exact .closed _ rfl
 ·cases h1; cases h2; exact .closed _ rfl
 ·cases h1; cases h2; exact pubRow (id := 2) (by simp) rfl rfl
 ·simp at h1
def countB (s : Sou) (x : Del) (k : Nat) (r : Rec) : Bool := eqS x.f.src s.name && (decide (k < x.jd.length) && (x.jd.getD k 1 == 0 && fitsV s r == 0))
set_option maxRecDepth 20000 in
theorem counts_spec {P : Program} (F : F_z0z P) (s : Sou) (hs : s.ok) (x : Del) (k : Nat) (r : Rec) (hr : x.f.recs[k]? = some r) (hk : k ≤ 1000000) (hl : r.row.length ≤ 1000) (H : List AObj) :
  ACalls P F.id [.agg (delC x), .int .i64 k, .agg (souC s)] H (fun q H' => q = .bool (countB s x k r) ∧ H' = H) := by
 refine ACalls.pure (by simp [souC, delC, AVal.closed, AVal.isPure]) (acalls_of_body F.has ?_)
 unfold countB
 (conv => whnf); refine recA (fun h1 => ?_) (fun h1 => ?_)
 ·replace h1 : eqS x.f.src s.name = true := h1
  rw [h1]
  (conv => whnf); refine recA (fun h2 => ?_) (fun h2 => ?_)
  ·simp [iC_length] at h2
   have hjx : x.jd[k]? = some x.jd[k] := List.getElem?_eq_getElem (by omega)
   have hjd : x.jd.getD k 1 = x.jd[k] := by rw [List.getD_eq_getElem?_getD, hjx]; rfl
   generalize x.jd[k] = q at hjx hjd
   rw [hjd]
   (conv => whnf); refine And.intro (by omega) ?_
   (conv => whnf); refine recO (iC_at hjx) ?_
   (conv => whnf); refine recA (fun h3 => ?_) (fun h3 => ?_)
   ·simp at h3
    (conv => whnf); refine And.intro (by omega) ?_
    (conv => whnf); refine recO (rC_at hr) ?_
    (conv => whnf); refine ⟨_, wFits_spec F.z43 s hs r (by omega) _, ?_⟩
    repeat ((conv => whnf); refine And.intro rfl ?_)
    conv => whnf
    refine pubB ?_
    simp [h3, h2]
   ·simp at h3
    repeat ((conv => whnf); refine And.intro rfl ?_)
    conv => whnf
    refine pubB ?_
    simp [h3]
  ·simp [iC_length] at h2
   repeat ((conv => whnf); refine And.intro rfl ?_)
   conv => whnf
   refine pubB ?_
   simp; omega
 ·replace h1 : eqS x.f.src s.name = false := h1
  rw [h1]
  repeat ((conv => whnf); refine And.intro rfl ?_)
  conv => whnf
  exact pubB rfl
end Go.AW
namespace Go.AW
variable [Draws]
theorem ivE_len {s : Sou} {v : Ver} {e : V} (hv : v.rc.row.length = s.cols.length) : (ivE s v e).row.length = s.cols.length + 2 := by
 show (v.rc.row ++ [tmV (tiV s v), e]).length = _
 rw [List.length_append, hv]; rfl
theorem ivE_from {s : Sou} {v : Ver} {e : V} (hv : v.rc.row.length = s.cols.length) : (ivE s v e).row[s.cols.length]? = some (tmV (tiV s v)) := by
 show (v.rc.row ++ [tmV (tiV s v), e])[s.cols.length]? = _
 rw [List.getElem?_append_right (by omega), hv, Nat.sub_self]; rfl
theorem ivE_to {s : Sou} {v : Ver} {e : V} (hv : v.rc.row.length = s.cols.length) : (ivE s v e).row[s.cols.length + 1]? = some e := by
 show (v.rc.row ++ [tmV (tiV s v), e])[s.cols.length + 1]? = _
 rw [List.getElem?_append_right (by omega), hv, show s.cols.length + 1 - s.cols.length = 1 by omega]; rfl
theorem ivE_take {s : Sou} {v : Ver} {e : V} (hv : v.rc.row.length = s.cols.length) : (ivE s v e).row.take s.cols.length = v.rc.row := by
 show (v.rc.row ++ [tmV (tiV s v), e]).take s.cols.length = _
 rw [← hv, List.take_left']; rfl
theorem ivs_disj {s : Sou} {L : List Ver} (hu : Uq s L) {v w : Ver} {e f : V} (rv : RepOf s L v) (rw0 : RepOf s L w) (ev : EndOf s L v e) (ew : EndOf s L w f) (hk : kyV s v = kyV s w) (hne : ivE s v e ≠ ivE s w f) :
  (e.kind ≠ 0 ∧ e.num ≤ tiV s w) ∨ (f.kind ≠ 0 ∧ f.num ≤ tiV s v) := by
 rcases Int.lt_trichotomy (tiV s v) (tiV s w) with h | h | h
 ·refine .inl ?_
  rcases ev with ⟨_, g⟩ | ⟨u, hu, ku, tu, rfl, g⟩
  ·have := g w rw0.1 hk.symm; omega
  ·exact ⟨by simp [tmV], g w rw0.1 hk.symm h⟩
 ·exfalso
  have h1 := rv.2 w rw0.1 hk.symm h.symm
  have h2 := rw0.2 v rv.1 hk h
  have h3 := (preC_V s).anti v w
  have := hu v rv.1 w rw0.1 (by omega)
  subst this
  exact hne (by rw [ev.uniq ew])
 ·refine .inr ?_
  rcases ew with ⟨_, g⟩ | ⟨u, hu, ku, tu, rfl, g⟩
  ·have := g v rv.1 hk; omega
  ·exact ⟨by simp [tmV], g v rv.1 hk h⟩
theorem frmE_fit : ∀ {l : List Ent}, (∀ e ∈ l, fitB e = 0) → frmE l = 0
 | [], _ => rfl
 | e :: l, h => by rw [frmE, if_neg (by rw [h e (List.mem_cons_self ..)]; simp)]; exact frmE_fit fun x hx => h x (List.mem_cons_of_mem _ hx)
theorem srtE_len (l : List Ent) : (srtE l).length = l.length := isort_length l
theorem srtE_mem (l : List Ent) (e : Ent) : e ∈ srtE l ↔ e ∈ l := (isort_perm l).mem_iff
theorem srt_srtE {l : List Ent} (h : l.Pairwise fun a b => a.row ≠ b.row) : Srt (srtE l) := srt_of_asc (isort_asc orders_E _) (pw_perm (isort_perm _).symm h)
theorem nor_of {l : List Ent} (hd : l.Pairwise fun a b => a.row ≠ b.row) (h1 : ∀ e ∈ l, e.cnt = 1 ∧ fitB e = 0) (hl : l.length ≤ 4096) : norR l = .tuple [.list false 2 (eC (srtE l)), .int .i64 0] := by
 rw [norR, if_neg (by rw [frmE_fit fun e he => (h1 e he).2]; simp)]
 rw [resR_ext (srt_srtM _ _ (by omega)) (srt_srtE hd) fun r => by rw [cntL_srtM]; exact (cntL_perm (isort_perm l) r).symm]
 have hc : ∀ e ∈ srtE l, e.cnt = 1 := fun e he => (h1 e ((srtE_mem l e).1 he)).1
 have hf : (srtE l).filter nzB = srtE l := List.filter_eq_self.2 fun e he => by rw [nzB, hc e he]; rfl
 rw [resR, hf, if_pos ⟨List.all_eq_true.2 fun e he => by rw [hc e he]; rfl, by rw [srtE_len]; exact hl⟩]
theorem restV_eq (n : Nat) (p : V → V → Bool) : ∀ l, restV n p l = (l.filter fun e => p (e.row.getD n zV) (e.row.getD (n + 1) zV)).map fun e => ⟨e.row.take n, e.cnt⟩
 | [] => rfl
 | e :: l => by
  rw [restV, List.filter_cons, restV_eq n p l]
  split
  ·rw [List.map_cons]
  ·rfl
def conG (s : Sou) : List Ver → List Ent
 | [] => []
 | v :: vs => if (vs.head?.all fun w => rowsCmp (keyV s v.rc.row) (keyV s w.rc.row) != 0) && !v.rc.del then ⟨v.rc.row, 1⟩ :: conG s vs else conG s vs
def conV (s : Sou) (L : List Ver) : List Ent := srtE (conG s (srtV s L))
def LastOf (s : Sou) (L : List Ver) (v : Ver) : Prop := v ∈ L ∧ ∀ w ∈ L, kyV s w = kyV s v → 0 ≤ cmpVr s v w
theorem conG_len (s : Sou) : ∀ L, (conG s L).length ≤ L.length
 | [] => Nat.le_refl _
 | v :: vs => by
  have := conG_len s vs
  rw [conG]
  split
  ·simp; omega
  ·simp; omega
theorem mem_conG {s : Sou} : ∀ {L : List Ver}, AscO (cmpVr s) L → Uq s L → ∀ e, e ∈ conG s L ↔ ∃ v, LastOf s L v ∧ v.rc.del = false ∧ e = ⟨v.rc.row, 1⟩
 | [], _, _, e => by simp [conG, LastOf]
 | v :: vs, ha, hu, e => by
  obtain ⟨a1, a2⟩ := List.pairwise_cons.1 ha
  have ih := mem_conG a2 (fun x hx y hy => hu x (List.mem_cons_of_mem _ hx) y (List.mem_cons_of_mem _ hy)) e
  have hold : ∀ u, u ∈ vs → (LastOf s (v :: vs) u ↔ LastOf s vs u) := fun u hm => by
   constructor
   ·exact fun h => ⟨hm, fun w hw => h.2 w (List.mem_cons_of_mem _ hw)⟩
   ·refine fun h => ⟨List.mem_cons_of_mem _ hm, fun w hw k => ?_⟩
    rcases List.mem_cons.1 hw with rfl | hw
    ·exact a1 u hm
    ·exact h.2 w hw k
  
  have hv : v ∉ vs → (LastOf s (v :: vs) v ↔ (vs.head?.all fun w => rowsCmp (keyV s v.rc.row) (keyV s w.rc.row) != 0) = true) := fun hvn => by
   cases vs with
   | nil =>
    simp only [List.head?_nil, Option.all_none, iff_true]
    refine ⟨List.mem_cons_self .., fun w hw _ => ?_⟩
    rw [List.mem_singleton.1 hw]
    have := (preC_V s).anti v v; omega
   | cons x vs =>
    simp only [List.head?_cons, Option.all_some, bne_iff_ne, ne_eq, rowsCmp_zero]
    constructor
    ·intro h hk
     have h1 := h.2 x (List.mem_cons_of_mem _ (List.mem_cons_self ..)) hk.symm
     have h2 := a1 x (List.mem_cons_self ..)
     have h3 := (preC_V s).anti v x
     have := hu v (List.mem_cons_self ..) x (List.mem_cons_of_mem _ (List.mem_cons_self ..)) (by omega)
     subst this
     exact hvn (List.mem_cons_self ..)
    ·refine fun h => ⟨List.mem_cons_self .., fun w hw hk => ?_⟩
     rcases List.mem_cons.1 hw with rfl | hw
     ·have := (preC_V s).anti w w; omega
     exfalso
     have k1 := cmpVr_key (a1 x (List.mem_cons_self ..))
     rcases List.mem_cons.1 hw with rfl | hw
     ·exact h hk.symm
     ·have k2 := cmpVr_key ((List.pairwise_cons.1 a2).1 w hw)
      rw [hk] at k2
      exact h (key_le_antisymm k1 k2).symm
  have hdup : v ∈ vs → ((vs.head?.all fun w => rowsCmp (keyV s v.rc.row) (keyV s w.rc.row) != 0) = true) → False := fun hm hc => by
   cases vs with
   | nil => cases hm
   | cons x vs =>
    simp only [List.head?_cons, Option.all_some, bne_iff_ne, ne_eq, rowsCmp_zero] at hc
    have k1 := cmpVr_key (a1 x (List.mem_cons_self ..))
    rcases List.mem_cons.1 hm with rfl | hm
    ·exact hc rfl
    ·exact hc (key_le_antisymm k1 (cmpVr_key ((List.pairwise_cons.1 a2).1 v hm))).symm
  have split1 : (∃ u, LastOf s (v :: vs) u ∧ u.rc.del = false ∧ e = ⟨u.rc.row, 1⟩) ↔ (v ∉ vs ∧ LastOf s (v :: vs) v ∧ v.rc.del = false ∧ e = ⟨v.rc.row, 1⟩) ∨ e ∈ conG s vs := by
   rw [ih]
   constructor
   ·rintro ⟨u, h1, h2, h3⟩
    by_cases hm : u ∈ vs
    ·exact .inr ⟨u, (hold u hm).1 h1, h2, h3⟩
    ·have e1 : u = v := (List.mem_cons.1 h1.1).resolve_right hm
     subst e1
     exact .inl ⟨hm, h1, h2, h3⟩
   ·rintro (⟨_, h1, h2, h3⟩ | ⟨u, h1, h2, h3⟩)
    ·exact ⟨v, h1, h2, h3⟩
    ·exact ⟨u, (hold u h1.1).2 h1, h2, h3⟩
  rw [split1, conG]
  split
  ·rename_i hc
   rw [Bool.and_eq_true] at hc
   have hvn : v ∉ vs := fun hm => hdup hm hc.1
   rw [List.mem_cons]
   constructor
   ·rintro (rfl | h)
    ·exact .inl ⟨hvn, (hv hvn).2 hc.1, by simpa using hc.2, rfl⟩
    ·exact .inr h
   ·rintro (⟨_, _, _, h⟩ | h)
    ·exact .inl h
    ·exact .inr h
  ·rename_i hc
   constructor
   ·exact .inr
   ·rintro (⟨hvn, h1, h2, _⟩ | h)
    ·exact absurd (by rw [(hv hvn).1 h1, h2]; rfl) hc
    ·exact h
theorem LastOf.perm {s : Sou} {L M : List Ver} (h : ∀ w, w ∈ L ↔ w ∈ M) (v : Ver) : LastOf s L v ↔ LastOf s M v := by
 unfold LastOf
 rw [h]
 exact ⟨fun x => ⟨x.1, fun w hw => x.2 w ((h w).2 hw)⟩, fun x => ⟨x.1, fun w hw => x.2 w ((h w).1 hw)⟩⟩
theorem mem_con {s : Sou} {L : List Ver} (hu : Uq s L) (e : Ent) : e ∈ conV s L ↔ ∃ v, LastOf s L v ∧ v.rc.del = false ∧ e = ⟨v.rc.row, 1⟩ := by
 rw [conV, srtE_mem, mem_conG (srtV_asc s L) (srtV_uq hu)]
 constructor
 ·rintro ⟨v, h⟩; exact ⟨v, (LastOf.perm (srtV_mem s L) v).1 h.1, h.2⟩
 ·rintro ⟨v, h⟩; exact ⟨v, (LastOf.perm (srtV_mem s L) v).2 h.1, h.2⟩
theorem last_row {s : Sou} {L : List Ver} (hu : Uq s L) {v w : Ver} (h1 : LastOf s L v) (h2 : LastOf s L w) (h : kyV s v = kyV s w) : v = w := by
 have a := h1.2 w h2.1 h.symm
 have b := h2.2 v h1.1 h
 have c := (preC_V s).anti v w
 exact hu v h1.1 w h2.1 (by omega)
theorem conG_ne {s : Sou} : ∀ {L : List Ver}, AscO (cmpVr s) L → Uq s L → (conG s L).Pairwise fun a b => a.row ≠ b.row
 | [], _, _ => List.Pairwise.nil
 | v :: vs, ha, hu => by
  obtain ⟨a1, a2⟩ := List.pairwise_cons.1 ha
  have hu2 : Uq s vs := fun x hx y hy => hu x (List.mem_cons_of_mem _ hx) y (List.mem_cons_of_mem _ hy)
  have ih := conG_ne a2 hu2
  rw [conG]
  split
  ·rename_i hc
   rw [Bool.and_eq_true] at hc
   refine List.pairwise_cons.2 ⟨fun e he hr => ?_, ih⟩
   obtain ⟨w, hw, _, rfl⟩ := (mem_conG a2 hu2 e).1 he
   have hk : kyV s v = kyV s w := congrArg (keyV s) hr
   have hc1 := hc.1
   cases vs with
   | nil => cases hw.1
   | cons x vs =>
    simp only [List.head?_cons, Option.all_some, bne_iff_ne, ne_eq, rowsCmp_zero] at hc1
    have k1 := cmpVr_key (a1 x (List.mem_cons_self ..))
    rcases List.mem_cons.1 hw.1 with rfl | hm
    ·exact hc1 hk
    ·have k2 := cmpVr_key ((List.pairwise_cons.1 a2).1 w hm)
     rw [← hk] at k2
     exact hc1 (key_le_antisymm k1 k2).symm
  ·exact ih
theorem srt_con {s : Sou} {L : List Ver} (hu : Uq s L) : Srt (conV s L) := srt_srtE (conG_ne (srtV_asc s L) (srtV_uq hu))
theorem rest_con {s : Sou} {L M : List Ver} (hok : ∀ v ∈ L, okV s v) (hu : Uq s L) (huM : Uq s M) (p : V → V → Bool)
  (h1 : ∀ v en, RepOf s L v → EndOf s L v en → p (tmV (tiV s v)) en = true → LastOf s M v)
  (h2 : ∀ v, LastOf s M v → RepOf s L v ∧ ∃ en, EndOf s L v en ∧ p (tmV (tiV s v)) en = true)
  (hfit : ∀ v ∈ L, v.rc.del = false → fitB ⟨v.rc.row, 1⟩ = 0) (hlen : L.length ≤ 4096) :
  norR (restV s.cols.length p (ivsV s L)) = .tuple [.list false 2 (eC (conV s M)), .int .i64 0] := by
 have hvl : ∀ v, RepOf s L v → v.rc.row.length = s.cols.length := fun v hv => fits_len (hok v hv.1)
 have key : ∀ e ∈ ivsV s L, p (e.row.getD s.cols.length zV) (e.row.getD (s.cols.length + 1) zV) = true → ∃ v, LastOf s M v ∧ RepOf s L v ∧ v.rc.del = false ∧ (∃ en, EndOf s L v en ∧ e = ivE s v en) ∧ e.row.take s.cols.length = v.rc.row ∧ e.cnt = 1 := fun e he hp => by
  obtain ⟨v, rv, dv, en, hen, rfl⟩ := (mem_ivs hu e).1 he
  have hl := hvl v rv
  rw [List.getD_eq_getElem?_getD, List.getD_eq_getElem?_getD, ivE_from hl, ivE_to hl] at hp
  exact ⟨v, h1 v en rv hen hp, rv, dv, ⟨en, hen, rfl⟩, ivE_take hl, rfl⟩
 rw [restV_eq]
 have hmem : ∀ x, x ∈ ((ivsV s L).filter fun e => p (e.row.getD s.cols.length zV) (e.row.getD (s.cols.length + 1) zV)).map (fun e => (⟨e.row.take s.cols.length, e.cnt⟩ : Ent)) ↔ ∃ v, LastOf s M v ∧ v.rc.del = false ∧ x = ⟨v.rc.row, 1⟩ := fun x => by
  rw [List.mem_map]
  constructor
  ·rintro ⟨e, he, rfl⟩
   obtain ⟨he1, he2⟩ := List.mem_filter.1 he
   obtain ⟨v, a, _, b, _, c, d⟩ := key e he1 he2
   exact ⟨v, a, b, by rw [c, d]⟩
  ·rintro ⟨v, a, b, rfl⟩
   obtain ⟨rv, en, hen, hp⟩ := h2 v a
   have hl := hvl v rv
   refine ⟨ivE s v en, List.mem_filter.2 ⟨(mem_ivs hu _).2 ⟨v, rv, b, en, hen, rfl⟩, ?_⟩, ?_⟩
   ·rw [List.getD_eq_getElem?_getD, List.getD_eq_getElem?_getD, ivE_from hl, ivE_to hl]; exact hp
   ·rw [ivE_take hl]; rfl
 have hpw : (((ivsV s L).filter fun e => p (e.row.getD s.cols.length zV) (e.row.getD (s.cols.length + 1) zV)).map fun e => (⟨e.row.take s.cols.length, e.cnt⟩ : Ent)).Pairwise fun a b => a.row ≠ b.row := by
  rw [List.pairwise_map]
  have hs : ((ivsV s L).filter fun e => p (e.row.getD s.cols.length zV) (e.row.getD (s.cols.length + 1) zV)).Pairwise fun a b => rowsCmp a.row b.row < 0 := (srt_ivs hok hu).filter _
  refine hs.imp_of_mem ?_
  intro a b ha hb hab he
  obtain ⟨ha1, ha2⟩ := List.mem_filter.1 ha
  obtain ⟨hb1, hb2⟩ := List.mem_filter.1 hb
  obtain ⟨v, a1, rv, _, ⟨en, hen, rfl⟩, a4, _⟩ := key a ha1 ha2
  obtain ⟨w, b1, rw0, _, ⟨en', hen', rfl⟩, b4, _⟩ := key b hb1 hb2
  have he : v.rc.row = w.rc.row := by rw [← a4, ← b4]; exact he
  have := last_row huM a1 b1 (congrArg (keyV s) he)
  subst this
  rw [hen.uniq hen'] at hab
  rw [(rowsCmp_zero _ _).2 rfl] at hab
  omega
 rw [nor_of hpw]
 ·refine congrArg (fun l => AVal.tuple [.list false 2 (eC l), .int .i64 0]) (srt_ext (srt_srtE hpw) (srt_con huM) fun e => ?_)
  rw [srtE_mem, hmem, mem_con huM]
 ·intro e he
  obtain ⟨v, a, b, rfl⟩ := (hmem e).1 he
  exact ⟨rfl, hfit v (h2 v a).1.1 b⟩
 ·rw [List.length_map]
  exact Nat.le_trans (List.length_filter_le ..) (Nat.le_trans (ivsV_len s L) hlen)
theorem end_ex (s : Sou) (L : List Ver) (v : Ver) : ∃ e, EndOf s L v e := by
 have : ∀ M : List Ver, (∀ w ∈ M, kyV s w = kyV s v → tiV s w ≤ tiV s v) ∨ ∃ w ∈ M, kyV s w = kyV s v ∧ tiV s v < tiV s w ∧ ∀ u ∈ M, kyV s u = kyV s v → tiV s v < tiV s u → tiV s w ≤ tiV s u := fun M => by
  induction M with
  | nil => exact .inl fun w hw => by cases hw
  | cons x M ih =>
   by_cases hx : kyV s x = kyV s v ∧ tiV s v < tiV s x
   ·refine .inr ?_
    rcases ih with ih | ⟨w, hw, k, t, m⟩
    ·refine ⟨x, List.mem_cons_self .., hx.1, hx.2, fun u hu ku tu => ?_⟩
     rcases List.mem_cons.1 hu with rfl | hu
     ·exact Int.le_refl _
     ·have := ih u hu ku; omega
    ·by_cases hc : tiV s x ≤ tiV s w
     ·refine ⟨x, List.mem_cons_self .., hx.1, hx.2, fun u hu ku tu => ?_⟩
      rcases List.mem_cons.1 hu with rfl | hu
      ·exact Int.le_refl _
      ·have := m u hu ku tu; omega
     ·refine ⟨w, List.mem_cons_of_mem _ hw, k, t, fun u hu ku tu => ?_⟩
      rcases List.mem_cons.1 hu with rfl | hu
      ·omega
      ·exact m u hu ku tu
   ·rcases ih with ih | ⟨w, hw, k, t, m⟩
    ·refine .inl fun w hw kw => ?_
     rcases List.mem_cons.1 hw with rfl | hw
     ·have : ¬ tiV s v < tiV s w := fun h => hx ⟨kw, h⟩
      omega
     ·exact ih w hw kw
    ·refine .inr ⟨w, List.mem_cons_of_mem _ hw, k, t, fun u hu ku tu => ?_⟩
     rcases List.mem_cons.1 hu with rfl | hu
     ·exact absurd ⟨ku, tu⟩ hx
     ·exact m u hu ku tu
 rcases this L with h | ⟨w, hw, k, t, m⟩
 ·exact ⟨zV, .inl ⟨rfl, h⟩⟩
 ·exact ⟨tmV (tiV s w), .inr ⟨w, hw, k, t, rfl, m⟩⟩
theorem time_le {s : Sou} {v w : Ver} (h : 0 ≤ cmpVr s v w) (hk : kyV s w = kyV s v) : tiV s w ≤ tiV s v := cmpVr_time h hk.symm
theorem cmp_of_time {s : Sou} {v w : Ver} (hk : kyV s w = kyV s v) (ht : tiV s w < tiV s v) : 0 ≤ cmpVr s v w := by
 rw [cmpVr_lex]
 simp only [lexC]
 rw [if_pos ((rowsCmp_zero _ _).2 hk.symm)]
 have h1 : cmpI (timeV s v.rc) (timeV s w.rc) = 1 := by
  unfold cmpI
  rw [if_neg (show ¬ timeV s v.rc < timeV s w.rc by have : timeV s w.rc < timeV s v.rc := ht; omega), if_pos (show timeV s v.rc > timeV s w.rc from ht)]
 rw [if_neg (by rw [h1]; decide), h1]; decide
theorem at_con {s : Sou} {L : List Ver} (m : Int) (hok : ∀ v ∈ L, okV s v) (hu : Uq s L) (hfit : ∀ v ∈ L, v.rc.del = false → fitB ⟨v.rc.row, 1⟩ = 0) (hlen : L.length ≤ 4096) :
  norR (restV s.cols.length (atB m) (ivsV s L)) = .tuple [.list false 2 (eC (conV s (L.filter fun v => decide (tiV s v ≤ m)))), .int .i64 0] := by
 have hM : ∀ w, w ∈ (L.filter fun v => decide (tiV s v ≤ m)) ↔ w ∈ L ∧ tiV s w ≤ m := fun w => by rw [List.mem_filter, decide_eq_true_eq]
 have huM : Uq s (L.filter fun v => decide (tiV s v ≤ m)) := fun x hx y hy => hu x ((hM x).1 hx).1 y ((hM y).1 hy).1
 refine rest_con hok hu huM (atB m) (fun v en rv hen hp => ?_) (fun v hv => ?_) hfit hlen
 ·rw [atB, Bool.and_eq_true, decide_eq_true_eq, Bool.or_eq_true, beq_iff_eq, decide_eq_true_eq] at hp
  have h1 : tiV s v ≤ m := hp.1
  refine ⟨(hM v).2 ⟨rv.1, h1⟩, fun w hw hk => ?_⟩
  obtain ⟨hw1, hw2⟩ := (hM w).1 hw
  by_cases ht : tiV s w = tiV s v
  ·exact rv.2 w hw1 hk ht
  ·refine cmp_of_time hk ?_
   rcases hen with ⟨_, g⟩ | ⟨u, _, _, t, rfl, g⟩
   ·have := g w hw1 hk; omega
   ·have h2 : tiV s u > m := hp.2.resolve_left (by simp [tmV])
    rcases Int.lt_or_le (tiV s v) (tiV s w) with h3 | h3
    ·have := g w hw1 hk h3; omega
    ·omega
 ·obtain ⟨hv1, hv2⟩ := (hM v).1 hv.1
  obtain ⟨en, hen⟩ := end_ex s L v
  refine ⟨⟨hv1, fun w hw k t => hv.2 w ((hM w).2 ⟨hw, by omega⟩) k⟩, en, hen, ?_⟩
  rw [atB, Bool.and_eq_true, decide_eq_true_eq, Bool.or_eq_true, beq_iff_eq, decide_eq_true_eq]
  refine ⟨hv2, ?_⟩
  rcases hen with ⟨rfl, _⟩ | ⟨u, hu1, ku, tu, rfl, _⟩
  ·exact .inl rfl
  ·refine .inr ?_
   show tiV s u > m
   rcases Int.lt_or_le m (tiV s u) with h | h
   ·exact h
   ·have := time_le (hv.2 u ((hM u).2 ⟨hu1, h⟩) ku) ku; omega
theorem chk_at : ∀ {cs : List Col} {rs : List V}, chkGo cs rs = 0 → ∀ {k : Nat} {c : Col} {v : V}, cs[k]? = some c → rs[k]? = some v → validB v = true ∧ badB c v = false
 | [], _, _, k, c, v, h, _ => by simp at h
 | _ :: _, [], _, k, c, v, _, h => by simp at h
 | c0 :: cs, v0 :: rs, h, k, c, v, hc, hv => by
  rw [chkGo] at h
  split at h
  ·cases h
  split at h
  ·cases h
  rename_i h1 h2
  cases k with
  | zero =>
   simp at hc hv
   subst hc hv
   exact ⟨by simpa using h1, by simpa using h2⟩
  | succ k => exact chk_at h (by simpa using hc) (by simpa using hv)
theorem chkGo_app : ∀ {cs cs' : List Col} {rs rs' : List V}, cs.length = rs.length → chkGo cs rs = 0 → chkGo cs' rs' = 0 → chkGo (cs ++ cs') (rs ++ rs') = 0
 | [], _, [], _, _, _, h => h
 | [], _, _ :: _, _, h, _, _ => by simp at h
 | _ :: _, _, [], _, h, _, _ => by simp at h
 | c :: cs, cs', v :: rs, rs', hl, h, h2 => by
  rw [chkGo] at h
  split at h
  ·cases h
  split at h
  ·cases h
  rename_i a b
  rw [List.cons_append, List.cons_append, chkGo, if_neg a, if_neg b]
  exact chkGo_app (by simpa using hl) h h2
theorem del_at {s : Sou} : ∀ {cs : List Col} {rs : List V}, delGo s cs rs = 0 → ∀ {k : Nat} {c : Col} {v : V}, cs[k]? = some c → rs[k]? = some v → kcolB s c = true → validB v = true ∧ badB c v = false
 | [], _, _, k, c, v, h, _, _ => by simp at h
 | _ :: _, [], _, k, c, v, _, h, _ => by simp at h
 | c0 :: cs, v0 :: rs, h, k, c, v, hc, hv, hk => by
  rw [delGo] at h
  cases k with
  | zero =>
   simp at hc hv
   subst hc hv
   rw [if_pos hk] at h
   split at h
   ·contradiction
   ·rename_i hz
    have hz : chkRow [c0] [v0] = 0 := by omega
    rw [chkRow, if_pos (show [v0].length = [c0].length from rfl)] at hz
    exact chk_at hz (k := 0) rfl rfl
  | succ k =>
   have h2 : delGo s cs rs = 0 := by
    split at h
    ·split at h
     ·contradiction
     ·exact h
    ·split at h
     ·exact h
     ·cases h
   exact del_at h2 (by simpa using hc) (by simpa using hv) hk
theorem ok_kcol {s : Sou} {v : Ver} (h : okV s v) {k : Nat} {c : Col} {x : V} (hc : s.cols[k]? = some c) (hx : v.rc.row[k]? = some x) (hk : kcolB s c = true) : validB x = true ∧ badB c x = false := by
 have hl := fits_len h
 unfold okV fitsV at h
 split at h
 ·simp at h
 split at h
 ·unfold delV at h
  rw [if_pos hl] at h
  exact del_at h hc hx hk
 ·unfold chkRow at h
  rw [if_pos hl] at h
  exact chk_at h hc hx
theorem ok_row {s : Sou} {v : Ver} (h : okV s v) (hd : v.rc.del = false) : chkRow s.cols v.rc.row = 0 := by
 unfold okV fitsV at h
 split at h
 ·simp at h
 rw [if_neg (by rw [hd]; simp)] at h
 exact h
theorem row_valid {s : Sou} {v : Ver} (h : okV s v) (hd : v.rc.del = false) : ∀ x ∈ v.rc.row, validB x = true := fun x hx => by
 have hl := fits_len h
 have hr := ok_row h hd
 unfold chkRow at hr
 rw [if_pos hl] at hr
 obtain ⟨k, hk⟩ := List.getElem?_of_mem hx
 have := (List.getElem?_eq_some_iff.1 hk).1
 exact (chk_at hr (List.getElem?_eq_getElem (show k < s.cols.length by omega)) hk).1
theorem ok_fit {s : Sou} (hs : s.good) {v : Ver} (h : okV s v) (hd : v.rc.del = false) : fitB ⟨v.rc.row, 1⟩ = 0 := by
 have := (okV_len hs h).1
 unfold fitB
 rw [if_neg (by simp only; omega), if_pos (List.all_eq_true.2 (row_valid h hd))]
theorem idxOf_or {α : Type} (p : α → Bool) : ∀ (l : List α) (i : Int), idxOf p l i = -1 ∨ i ≤ idxOf p l i
 | [], _ => .inl rfl
 | c :: cs, i => by
  rw [idxOf]
  split
  ·exact .inr (Int.le_refl _)
  ·rcases idxOf_or p cs (i + 1) with h | h
   ·exact .inl h
   ·exact .inr (by omega)
theorem named_at : ∀ (cs : List Col) (n : ByteArray) (i : Int), 0 ≤ i → i ≤ idxOf (named n) cs i → ∃ c, cs[(idxOf (named n) cs i - i).toNat]? = some c ∧ named n c = true
 | [], n, i, h, h2 => by rw [idxOf] at h2; omega
 | c :: cs, n, i, h, h2 => by
  rw [idxOf] at h2 ⊢
  split
  ·rename_i hc
   exact ⟨c, by rw [Int.sub_self]; rfl, hc⟩
  ·rename_i hc
   rw [if_neg hc] at h2
   have h3 : i + 1 ≤ idxOf (named n) cs (i + 1) := by
    rcases idxOf_or (named n) cs (i + 1) with h5 | h5
    ·omega
    ·exact h5
   obtain ⟨d, h4, h5⟩ := named_at cs n (i + 1) (by omega) h3
   refine ⟨d, ?_, h5⟩
   rw [show (idxOf (named n) cs (i + 1) - i).toNat = (idxOf (named n) cs (i + 1) - (i + 1)).toNat + 1 by omega, List.getElem?_cons_succ]
   exact h4
theorem col_named {cs : List Col} {n : ByteArray} (h : 0 ≤ colIdx cs n) : ∃ c, cs[(colIdx cs n).toNat]? = some c ∧ named n c = true := by
 unfold colIdx at h ⊢
 obtain ⟨c, h1, h2⟩ := named_at cs n 0 (Int.le_refl _) h
 exact ⟨c, by rw [Int.sub_zero] at h1; exact h1, h2⟩
theorem ok_time {s : Sou} (hs : s.good) {v : Ver} (h : okV s v) : 0 ≤ tiV s v ∧ tiV s v ≤ 575999999 ∧ ∃ x, v.rc.row[(colIdx s.cols s.att).toNat]? = some x ∧ x.kind = 4 ∧ x.num = tiV s v := by
 have hl := fits_len h
 obtain ⟨c, hc, hn⟩ := col_named hs.at0
 obtain ⟨c', hc', hk4, hnu⟩ := hs.kind
 rw [hc] at hc'; cases hc'
 have hlt := colIdx_lt s.cols s.att hs.at0
 have hx : v.rc.row[(colIdx s.cols s.att).toNat]? = some v.rc.row[(colIdx s.cols s.att).toNat] := List.getElem?_eq_getElem (by omega)
 have hkc : kcolB s c = true := by
  unfold kcolB
  rw [show eqS c.name s.att = true by
   unfold named at hn; unfold eqS; rw [beq_iff_eq] at hn ⊢; first | exact hn | exact hn.symm]
  rfl
 obtain ⟨h1, h2⟩ := ok_kcol h hc hx hkc
 have ht : tiV s v = v.rc.row[(colIdx s.cols s.att).toNat].num ∧ v.rc.row[(colIdx s.cols s.att).toNat].kind = 4 := by
  have hk : v.rc.row[(colIdx s.cols s.att).toNat].kind = 4 := by
   unfold badB at h2
   rw [hnu, hk4] at h2
   simp at h2
   exact h2.2 h2.1
  refine ⟨?_, hk⟩
  show timeV s v.rc = _
  unfold timeV
  rw [List.getD_eq_getElem?_getD, hx]
  simp only [Option.getD_some]
  have h0 : fitsV s v.rc = 0 := h
  rw [if_neg (by rw [h0, hk]; have := hs.at0; omega)]
 have hv := h1
 unfold validB at hv
 rw [ht.2] at hv
 simp at hv
 exact ⟨by omega, by omega, _, hx, ht.2, ht.1.symm⟩
theorem tm_valid {t : Int} (h0 : 0 ≤ t) (h1 : t ≤ 575999999) : validB (tmV t) = true := by
 unfold validB tmV
 simp [h0, h1]
 rfl
theorem end_valid {s : Sou} (hs : s.good) {L : List Ver} (hok : ∀ v ∈ L, okV s v) {v : Ver} {e : V} (h : EndOf s L v e) : validB e = true ∧ (e.kind = 0 ∨ e.kind = 4) := by
 rcases h with ⟨rfl, _⟩ | ⟨w, hw, _, _, rfl, _⟩
 ·exact ⟨by decide, .inl rfl⟩
 ·obtain ⟨h1, h2, _⟩ := ok_time hs (hok w hw)
  exact ⟨tm_valid h1 h2, .inr rfl⟩
theorem ivs_fit {s : Sou} (hs : s.good) {L : List Ver} (hok : ∀ v ∈ L, okV s v) (hu : Uq s L) {e : Ent} (he : e ∈ ivsV s L) : e.row.length = s.cols.length + 2 ∧ chkRow (hcols s) e.row = 0 ∧ fitB e = 0 ∧ e.cnt = 1 := by
 obtain ⟨v, rv, dv, en, hen, rfl⟩ := (mem_ivs hu e).1 he
 have hov := hok v rv.1
 have hl := fits_len hov
 obtain ⟨t1, t2, _⟩ := ok_time hs hov
 obtain ⟨e1, e2⟩ := end_valid hs hok hen
 have hr := ok_row hov dv
 unfold chkRow at hr
 rw [if_pos hl] at hr
 have hlen : (ivE s v en).row.length = s.cols.length + 2 := ivE_len hl
 refine ⟨hlen, ?_, ?_, rfl⟩
 ·unfold chkRow
  rw [if_pos (by rw [hlen, hcols, List.length_append]; rfl)]
  refine chkGo_app hl.symm hr ?_
  rw [chkGo, if_neg (by rw [tm_valid t1 t2]; simp), if_neg (by simp [badB, tmV]), chkGo, if_neg (by rw [e1]; simp), if_neg (by rcases e2 with h | h <;> simp [badB, h])]; rfl
 ·have hv := row_valid hov dv
  have h10 := (okV_len hs hov).1
  unfold fitB
  rw [if_neg (by rw [hlen]; show ¬ (12 < s.cols.length + 2 ∨ (1 : Int) < -65536 ∨ 65536 < (1 : Int)); have := hs.ten; omega), if_pos]
  refine List.all_eq_true.2 fun x hx => ?_
  rcases List.mem_append.1 (show x ∈ v.rc.row ++ [tmV (tiV s v), en] from hx) with hx | hx
  ·exact hv x hx
  ·rcases List.mem_cons.1 hx with rfl | hx
   ·exact tm_valid t1 t2
   ·rw [List.mem_singleton.1 hx]; exact e1
theorem ivs_bag {s : Sou} (hs : s.good) {L : List Ver} (hok : ∀ v ∈ L, okV s v) (hu : Uq s L) (hl : L.length ≤ 4096) : bagB (ivsV s L) = 0 :=
 (bagB_iff _).2 ⟨Nat.le_trans (ivsV_len s L) hl, fun e he => by obtain ⟨_, _, h1, h2⟩ := ivs_fit hs hok hu he; exact ⟨h1, by rw [h2]; decide⟩, srt_ivs hok hu⟩
attribute [local irreducible] ACalls
set_option maxRecDepth 20000 in
theorem closure_nil {P : Program} (F : F_z0w P) (i k : Nat) (r : Rec) (hn : r.row ≠ []) (hl : r.row.length ≤ 1000) :
  ACalls P F.id [.int .i64 i, .int .i64 k, .agg (recC r), .ptr 0 1 0 0] [.arr 1 [[.nil]]] (fun q H' => q = .tuple [] ∧ H' = [.arr 1 [[.sl 1 1 0 1]], vO [⟨r, i, k⟩]]) := by
 have h0 : ACalls P F.id [.int .i64 i, .int .i64 k, .agg (recC r), .ptr 0 1 0 0] [.arr 1 [[.nil]]] (fun q H' => q = .tuple [] ∧ H' = [.arr 1 [[.sl 2 1 0 1]], .arr 3 [recC r], .arr 5 [verC ⟨r, i, k⟩]]) := by
  refine acalls_of_body F.has ?_
  (conv => whnf); refine ⟨_, copyRecord_spec F.z0y r hn hl _, ?_⟩
  (conv => whnf); refine And.intro (⟨roomMul (by simp) (by omega), roomB_le (by simp)⟩) ?_
  repeat ((conv => whnf); refine And.intro rfl ?_)
  conv => whnf
  rfl
 refine h0.gpI [0, 2] (by simp) (keepB_one rfl rfl rfl) ⟨⟨_, rfl, ob11 (.keep 2 _ _ _ 1 rfl) rfl⟩, ⟨_, rfl, .same _ _ (pureEs_vsC [⟨r, i, k⟩])⟩, trivial⟩ (.tuple [] [] rfl fun i v q h => by simp at h)
set_option maxRecDepth 20000 in
theorem closure_app {P : Program} (F : F_z0w P) (i k : Nat) (r : Rec) (hn : r.row ≠ []) (hl : r.row.length ≤ 1000) (U : List Ver) (hU : U.length ≤ 900000) :
  ACalls P F.id [.int .i64 i, .int .i64 k, .agg (recC r), .ptr 0 1 0 0] [.arr 1 [[.sl 1 U.length 0 U.length]], vO U]
   (fun q H' => q = .tuple [] ∧ H' = [.arr 1 [[.sl 1 (U.length + 1) 0 (U.length + 1)]], vO (U ++ [⟨r, i, k⟩]), .arr 3 [recC r]]) := by
 refine acalls_of_body F.has ?_
 (conv => whnf); refine ⟨_, copyRecord_spec F.z0y r hn hl _, ?_⟩
 (conv => whnf); refine recT (by rw [vsC_length]; exact Nat.beq_refl _) ?_
 (conv => whnf); refine And.intro (⟨roomMul (by simp; omega) (by omega), roomB_le (by simp; omega), rfl, by rw [vsC_length]⟩) ?_
 repeat ((conv => whnf); refine And.intro rfl ?_)
 conv => whnf
 have hcn : vsC U ++ [verC ⟨r, i, k⟩] = vsC (U ++ [⟨r, i, k⟩]) := by rw [vsC_append]; rfl
 have hl2 : (vsC U ++ [verC ⟨r, i, k⟩]).length = U.length + 1 := by rw [hcn, vsC_length]; simp
 show [AObj.arr 1 [[.sl 1 (vsC U ++ [verC ⟨r, i, k⟩]).length 0 (vsC U ++ [verC ⟨r, i, k⟩]).length]], .arr 5 (vsC U ++ [verC ⟨r, i, k⟩]), .arr 3 [recC r]] = _
 rw [hl2, hcn]
theorem one_get {α : Type} {a : α} {k : Nat} {x : α} (h : [a][k]? = some x) : k = 0 ∧ x = a := by
 cases k with
 | zero => cases h; exact ⟨rfl, rfl⟩
 | succ k => simp at h
theorem ren11 {σ : Nat → Nat} {c c1 : AVal} (h : RenN σ c c1) : RenNO σ (.arr 1 [[c]]) (.arr 1 [[c1]]) :=
 .arr 1 _ _ rfl (fun i e e1 h1 h2 => by obtain ⟨rfl, rfl⟩ := one_get h1; obtain ⟨_, rfl⟩ := one_get h2; rfl) fun i j e e1 d d1 h1 h2 h3 h4 => by
  obtain ⟨rfl, rfl⟩ := one_get h1
  obtain ⟨_, rfl⟩ := one_get h2
  obtain ⟨rfl, rfl⟩ := one_get h3
  obtain ⟨_, rfl⟩ := one_get h4
  exact h
theorem closure_nilF {P : Program} (F : F_z0w P) (i k : Nat) (r : Rec) (hn : r.row ≠ []) (hl : r.row.length ≤ 1000) (b0 b1 b3 b4 b5 b6 : AObj) :
  ACalls P F.id [.int .i64 i, .int .i64 k, .agg (recC r), .ptr 2 1 0 0] [b0, b1, .arr 1 [[.nil]], b3, b4, b5, b6]
   (fun q H' => q = .tuple [] ∧ H' = [b0, b1, .arr 1 [[.sl 7 1 0 1]], b3, b4, b5, b6, vO [⟨r, i, k⟩]]) := by
 refine (closure_nil F i k r hn hl).frL [2] (by simp) rfl ⟨⟨_, rfl, .same rfl⟩, trivial⟩ ⟨.closed _ rfl, .closed _ rfl, .closed _ rfl, .ptr 0 1 0 0, trivial⟩ (.tuple [] [] rfl fun i v q h => by simp at h) rfl ⟨⟨_, rfl, ren11 (.sl 1 1 0 1)⟩, ⟨_, rfl, .same (pureEs_vsC [⟨r, i, k⟩])⟩, trivial⟩
  ⟨.inr rfl, .inr rfl, .inl (by simp), .inr rfl, .inr rfl, .inr rfl, .inr rfl, trivial⟩
theorem closure_appF {P : Program} (F : F_z0w P) (i k : Nat) (r : Rec) (hn : r.row ≠ []) (hl : r.row.length ≤ 1000) (U : List Ver) (hU : U.length ≤ 900000) (b0 b1 b3 b4 b6 b7 : AObj) :
  ACalls P F.id [.int .i64 i, .int .i64 k, .agg (recC r), .ptr 2 1 0 0] [b0, b1, .arr 1 [[.sl 5 U.length 0 U.length]], b3, b4, vO U, b6, b7]
   (fun q H' => q = .tuple [] ∧ H' = [b0, b1, .arr 1 [[.sl 5 (U.length + 1) 0 (U.length + 1)]], b3, b4, vO (U ++ [⟨r, i, k⟩]), b6, b7, .arr 3 [recC r]]) := by
 exact (closure_app F i k r hn hl U hU).frL [2, 5] (by simp) rfl ⟨⟨_, rfl, ren11 (.sl 1 _ _ _)⟩, ⟨_, rfl, .same (pureEs_vsC _)⟩, trivial⟩ ⟨.closed _ rfl, .closed _ rfl, .closed _ rfl, .ptr 0 1 0 0, trivial⟩ (.tuple [] [] rfl fun i v q h => by simp at h) rfl
  ⟨⟨_, rfl, ren11 (.sl 1 _ _ _)⟩, ⟨_, rfl, .same (pureEs_vsC _)⟩, ⟨_, rfl, .same rfl⟩, trivial⟩ ⟨.inr rfl, .inr rfl, .inl (by simp), .inr rfl, .inr rfl, .inl (by simp), .inr rfl, .inr rfl, trivial⟩
end Go.AW
