/-
  An abstract machine over the model, the code of functions on it, and their contracts: what the claim needs.
  No condition: definitions, plain laws, contracts over any program that has this code.
-/
import Derived.Test.YtiigcfeklofcaaaZ4
set_option linter.all false
namespace Go.AW
variable [Draws]
attribute [local irreducible] ACalls
def wf (s : Src) (l : List Int) : Nat → Nat → List Rec → List Rec × Nat
  | 0, i, L => (L, i)
  | k + 1, i, L => wf s l k (wrec s l i).2 (L ++ [(wrec s l i).1])

theorem wf_len (s : Src) (l : List Int) : ∀ (k i : Nat) (L : List Rec), (wf s l k i L).1.length = L.length + k
  | 0, _, _ => rfl
  | k + 1, i, L => by rw [wf, wf_len s l k]; simp; omega

def sName : ByteArray := bs [115, 104, 111, 112, 46, 111, 114, 100, 101, 114, 115]

def wfN (l : List Int) : Nat := (nx l 0 7).1.toNat

def wfR (s : Src) (l : List Int) : List Rec × Nat := wf s l (wfN l) (nx l 0 7).2 []

def fileH (s : Src) (id : ByteArray) (l : List Int) (L : List Rec) (j : Nat) (H : List AObj) : Prop :=
  (L = [] ∧ H = [gO l j, .arr 7 [srcC s], .arr 3 [[.str (bs []), .str (bs []), .nil]], .arr 3 [[.str id, .str sName, .nil]]]) ∨
  (L ≠ [] ∧ H = [gO l j, .arr 7 [srcC s], .arr 3 [[.str (bs []), .str (bs []), .nil]], .arr 3 [[.str id, .str sName, .sl 4 L.length 0 L.length]], .arr 3 (rC L)])

set_option maxRecDepth 20000 in
theorem File_raw {P : Program} (F : F_warehouseworld_File P) (id : ByteArray) (s : Src) (hc : s.cols ≠ []) (hcl : s.cols.length ≤ 1000) (hk : s.key.length ≤ 1000) (l : List Int) (hl : l.length ≤ 1000000) :
    ACalls P F.id [.str id, .agg (srcC s), .ptr 0 1 0 0, .int .i64 6] [gO l 0] (fun r H' => ∃ c x y z, r = .agg [.str id, .str sName, c] ∧
      (((wfR s l).1 = [] ∧ c = .nil ∧ H' = [gO l (wfR s l).2, x, y, z]) ∨ ((wfR s l).1 ≠ [] ∧ c = .sl 4 (wfR s l).1.length 0 (wfR s l).1.length ∧ H' = [gO l (wfR s l).2, x, y, z, .arr 3 (rC (wfR s l).1)]))) := by
  have ps : pureEs [srcC s] = true := by simp [pureEs, srcC, srcX, AVal.isPure]
  refine acalls_of_body F.has ?_
  (conv => whnf); refine ACalls.mono (Next_spec F.warehouseworld_Numbers_Next l 0 7 (by omega) hl (by decide) _ 0 rfl) ?_
  rintro r H' ⟨rfl, rfl⟩
  have hb := nx_bnd l 0 7 (by decide)
  have hj := nx_le l 0 7 (by omega)
  conv => whnf
  refine ⟨fun m ρ H1 => ∃ (k j : Nat) (L : List Rec), k = m ∧ j ≤ l.length ∧ L.length + k = wfN l ∧ wf s l k j L = wfR s l ∧ fileH s id l L j H1 ∧
    Sv 32 [(2, .ptr 0 1 0 0), (5, .ptr 1 1 0 0), (8, .ptr 2 1 0 0), (9, .ptr 3 1 0 0), (10, .int .i64 k)] ρ, wfN l, [], ?_, ?_⟩
  · exact ⟨wfN l, _, [], rfl, hj, by simp, rfl, .inl ⟨rfl, rfl⟩, Sv.intro rfl ⟨rfl, rfl, rfl, rfl, intEq (by rw [wfN]; omega), trivial⟩⟩
  have h7 : wfN l ≤ 6 := by rw [wfN]; omega
  rintro m ρ H1 ⟨k, j, L, rfl, hj, hlen, hr, ⟨rfl, rfl⟩ | ⟨hL, rfl⟩, d, rfl⟩
  · (conv => whnf); refine recA (fun hgt => ?_) (fun hgt => ?_)
    · simp at hgt
      obtain ⟨k, rfl⟩ : ∃ k', k = k' + 1 := ⟨k - 1, by omega⟩
      rw [wf] at hr
      (conv => whnf); refine ⟨_, _, Record_spec F.warehouseworld_Record s hc hcl hk l j hj hl _ 0 rfl, ?_⟩
      (conv => whnf); refine And.intro (⟨roomMul (by simp) (by omega), roomB_le (by simp)⟩) ?_
      (conv => whnf); refine And.intro (rfl) ?_
      conv => whnf
      refine ⟨k, by omega, Gp.keep (n := 32) (live := [(2, .ptr 0 1 0 0), (5, .ptr 1 1 0 0), (8, .ptr 2 1 0 0), (9, .ptr 3 1 0 0), (10, .int .i64 k)]) rfl ⟨rfl, rfl, rfl, rfl, intEq (by have := wrapI (((k + 1 : Nat) : Int) - 1) (by omega) (by omega); show IntKind.i64.wrap (((k + 1 : Nat) : Int) - 1) = _; omega), trivial⟩ fun ρ1 h => ⟨k, _, _, rfl, wrec_le s l j hj, by simp; simp at hlen; omega, hr, .inr ⟨by simp, rfl⟩, h⟩⟩
    · simp at hgt
      have hk0 : k = 0 := by omega
      subst hk0
      rw [wf] at hr
      conv => whnf
      rw [← hr]
      exact ⟨_, _, _, _, rfl, .inl ⟨rfl, rfl, rfl⟩⟩
  · have hrl := rC_length L
    (conv => whnf); refine recA (fun hgt => ?_) (fun hgt => ?_)
    · simp at hgt
      obtain ⟨k, rfl⟩ : ∃ k', k = k' + 1 := ⟨k - 1, by omega⟩
      rw [wf] at hr
      (conv => whnf); refine ⟨_, _, Record_spec F.warehouseworld_Record s hc hcl hk l j hj hl _ 0 rfl, ?_⟩
      (conv => whnf); refine recT (by rw [hrl]; exact Nat.beq_refl _) ?_
      (conv => whnf); refine And.intro (⟨roomMul (by simp; omega) (by omega), roomB_le (by simp; omega), rfl, by rw [hrl]⟩) ?_
      (conv => whnf); refine And.intro (rfl) ?_
      conv => whnf
      have hcn : rC L ++ [recC (wrec s l j).1] = rC (L ++ [(wrec s l j).1]) := by rw [rC_append]; rfl
      have hcl2 := (congrArg List.length hcn).trans (rC_length _)
      refine ⟨k, by omega, Gp.keep (n := 32) (live := [(2, .ptr 0 1 0 0), (5, .ptr 1 1 0 0), (8, .ptr 2 1 0 0), (9, .ptr 3 1 0 0), (10, .int .i64 k)]) rfl ⟨rfl, rfl, rfl, rfl, intEq (by have := wrapI (((k + 1 : Nat) : Int) - 1) (by omega) (by omega); show IntKind.i64.wrap (((k + 1 : Nat) : Int) - 1) = _; omega), trivial⟩ fun ρ1 h => ⟨k, _, L ++ [(wrec s l j).1], rfl, wrec_le s l j hj, by simp; omega, hr, .inr ⟨by simp, ?_⟩, h⟩⟩
      rw [← hcl2, ← hcn]
      rfl
    · simp at hgt
      have hk0 : k = 0 := by omega
      subst hk0
      rw [wf] at hr
      conv => whnf
      rw [← hr]
      exact ⟨_, _, _, _, rfl, .inr ⟨hL, rfl, rfl⟩⟩

end Go.AW

namespace Go.AW
variable [Draws]
attribute [local irreducible] ACalls
theorem File_nil {P : Program} (F : F_warehouseworld_File P) (id : ByteArray) (s : Src) (hc : s.cols ≠ []) (hcl : s.cols.length ≤ 1000) (hk : s.key.length ≤ 1000) (l : List Int) (hl : l.length ≤ 1000000) (hn : (wfR s l).1 = []) (H : List AObj) (g : Nat) (ho : H[g]? = some (gO l 0)) :
    ACalls P F.id [.str id, .agg (srcC s), .ptr g 1 0 0, .int .i64 6] H (fun r H' => r = .agg [.str id, .str sName, .nil] ∧ H' = H.set g (gO l (wfR s l).2)) := by
  refine ACalls.fr (args0 := [.str id, .agg (srcC s), .ptr 0 1 0 0, .int .i64 6]) (o1 := gO l (wfR s l).2) ?_ ho rfl rfl (.cl rfl (.cl (by simp [AVal.closed, srcC, srcX, AVal.isPure]) (.pt (.cl rfl trivial)))) (.closed _ rfl)
  refine (File_raw F id s hc hcl hk l hl).gp ?_
  rintro r H' ⟨c, x, y, z, rfl, ⟨_, rfl, rfl⟩ | ⟨h, _⟩⟩
  · exact Gp.res [0] (by simp) (keepB_hd rfl) (H1 := [gO l (wfR s l).2]) ⟨⟨_, rfl, .same _ _ rfl⟩, trivial⟩ (.closed _ rfl) ⟨_, rfl, rfl, rfl⟩
  · exact absurd hn h

theorem File_some {P : Program} (F : F_warehouseworld_File P) (id : ByteArray) (s : Src) (hc : s.cols ≠ []) (hcl : s.cols.length ≤ 1000) (hk : s.key.length ≤ 1000) (l : List Int) (hl : l.length ≤ 1000000) (hn : (wfR s l).1 ≠ []) (H : List AObj) (g : Nat) (ho : H[g]? = some (gO l 0)) :
    ACalls P F.id [.str id, .agg (srcC s), .ptr g 1 0 0, .int .i64 6] H (fun r H' => r = .agg [.str id, .str sName, .sl H.length (wfR s l).1.length 0 (wfR s l).1.length] ∧ H' = H.set g (gO l (wfR s l).2) ++ [.arr 3 (rC (wfR s l).1)]) := by
  refine ACalls.frG (args0 := [.str id, .agg (srcC s), .ptr 0 1 0 0, .int .i64 6]) (o1 := gO l (wfR s l).2) (G := [.arr 3 (rC (wfR s l).1)]) (R := .agg [.str id, .str sName, .sl 1 (wfR s l).1.length 0 (wfR s l).1.length]) ?_ ho rfl rfl ?_ (.cl rfl (.cl (by simp [AVal.closed, srcC, srcX, AVal.isPure]) (.pt (.cl rfl trivial)))) ?_
  · refine (File_raw F id s hc hcl hk l hl).gp ?_
    rintro r H' ⟨c, x, y, z, rfl, ⟨h, _⟩ | ⟨_, rfl, rfl⟩⟩
    · exact absurd h hn
    · refine Gp.res [0, 4] (by simp) (keepB_one rfl rfl rfl) (H1 := [gO l (wfR s l).2, .arr 3 (rC (wfR s l).1)]) (r' := .agg [.str id, .str sName, .sl 1 (wfR s l).1.length 0 (wfR s l).1.length]) ⟨⟨_, rfl, .same _ _ rfl⟩, ⟨_, rfl, .same _ _ (pureEs_rC _)⟩, trivial⟩ ?_ ⟨_, rfl, rfl, rfl⟩
      refine .agg _ _ rfl fun i v r h1 h2 => ?_
      rcases i with _ | _ | _ | i
      · cases h1; cases h2; exact .closed _ rfl
      · cases h1; cases h2; exact .closed _ rfl
      · cases h1; cases h2; exact .keep 4 _ _ _ 1 rfl
      · simp at h1
  · intro x hx
    rw [List.mem_singleton.1 hx]
    exact pureEs_rC _
  · refine .agg _ _ rfl fun i v r h1 h2 => ?_
    rcases i with _ | _ | _ | i
    · cases h1; cases h2; exact .closed _ rfl
    · cases h1; cases h2; exact .closed _ rfl
    · cases h1; cases h2; exact .sl 1 _ _ _
    · simp at h1

def fixR (r : Rec) : Rec := if r.seq < 0 then ⟨r.del, 1073741824, r.row⟩ else r

def fixK : Nat → List Rec → List Rec
  | 0, L => L
  | _ + 1, [] => []
  | k + 1, r :: L => fixR r :: fixK k L

theorem fixK_len : ∀ (k : Nat) (L : List Rec), (fixK k L).length = L.length
  | 0, _ => rfl
  | _ + 1, [] => rfl
  | k + 1, r :: L => by rw [fixK, List.length_cons, fixK_len k L]; rfl

theorem fixK_get : ∀ (k : Nat) (L : List Rec), (fixK k L)[k]? = L[k]?
  | 0, _ => rfl
  | _ + 1, [] => rfl
  | k + 1, r :: L => by simp [fixK, fixK_get k L]

theorem fixK_set : ∀ (k : Nat) (L : List Rec) (r : Rec), L[k]? = some r → fixK (k + 1) L = (fixK k L).set k (fixR r)
  | 0, [], _, h => by simp at h
  | 0, x :: L, r, h => by simp at h; subst h; rfl
  | k + 1, [], _, h => by simp at h
  | k + 1, x :: L, r, h => by
    have := fixK_set k L r (by simpa using h)
    rw [fixK, this, fixK]; rfl

theorem fixK_all : ∀ (L : List Rec), fixK L.length L = L.map fixR
  | [] => rfl
  | r :: L => by rw [List.length_cons, fixK, fixK_all L]; rfl

theorem setEs_rC (l : List Rec) (k : Nat) (r : Rec) : setEs (rC l) k (recC r) = rC (l.set k r) := by rw [setEs_eq]; simp [rC]

theorem set_same {α : Type} : ∀ (l : List α) (k : Nat) (x : α), l[k]? = some x → l.set k x = l
  | [], _, _, h => by simp at h
  | y :: l, 0, x, h => by simp at h; subst h; rfl
  | y :: l, k + 1, x, h => by rw [List.set_cons_succ, set_same l k x (by simpa using h)]

def fileV (l : List Int) (n : Int) : Fil := ⟨wname n, sName, (wfR (wsrc n) l).1.map fixR⟩

set_option maxRecDepth 20000 in
theorem file24_raw {P : Program} (F : F_warehouselaw24_file P) (l : List Int) (n : Int) (hl : l.length ≤ 1000000) (H : List AObj) :
    ACalls P F.id [.list false 1 (iC l), .int .i64 n] H (fun r H' => r = .agg [.str (wname n), .str sName, if (wfR (wsrc n) l).1 = [] then .nil else .list false 3 (rC ((wfR (wsrc n) l).1.map fixR))] ∧ H' = H) := by
  have hc : (wsrc n).cols ≠ [] := by
    rw [wsrc]
    show (if wpart n then _ else _) ≠ []
    split <;> simp [wcols]
  have hcl : (wsrc n).cols.length ≤ 1000 := by
    rw [wsrc]
    show (if wpart n then _ else _ : List Col).length ≤ 1000
    split <;> simp [wcols]
  have hk : (wsrc n).key.length ≤ 1000 := by
    rw [wsrc]
    show (if wpart n then _ else _ : List ByteArray).length ≤ 1000
    split <;> simp
  refine ACalls.pure rfl (acalls_of_body F.has ?_)
  (conv => whnf); refine ACalls.use (wName_spec F.warehouseworld_Name n _) ?_
  (conv => whnf); refine ACalls.use (Source_spec F.warehouseworld_Source n _) ?_
  by_cases hn : (wfR (wsrc n) l).1 = []
  · (conv => whnf); refine ACalls.mono (File_nil F.warehouseworld_File (wname n) (wsrc n) hc hcl hk l hl hn _ 1 rfl) ?_
    rintro r H' ⟨rfl, rfl⟩
    conv => whnf
    refine ⟨fun m ρ H1 => H1 = [.arr 3 [[.str (bs []), .str (bs []), .nil]], gO l (wfR (wsrc n) l).2, .arr 3 [[.str (wname n), .str sName, .nil]]] ∧ Sv 37 [(4, .ptr 0 1 0 0), (6, .ptr 2 1 0 0), (7, .int .i64 0)] ρ, 0, [], ?_, ?_⟩
    · exact ⟨rfl, Sv.intro rfl ⟨rfl, rfl, rfl, trivial⟩⟩
    rintro m ρ H1 ⟨rfl, d, rfl⟩
    conv => whnf
    rw [if_pos hn]
    exact .closed _ rfl
  · (conv => whnf); refine ACalls.mono (File_some F.warehouseworld_File (wname n) (wsrc n) hc hcl hk l hl hn _ 1 rfl) ?_
    rintro r H' ⟨rfl, rfl⟩
    obtain ⟨L, hL⟩ : ∃ L, (wfR (wsrc n) l).1 = L := ⟨_, rfl⟩
    have hL6 : L.length ≤ 6 := by
      have h6 := nx_bnd l 0 7 (by decide)
      rw [← hL, wfR, wf_len, wfN]
      simp; omega
    rw [hL] at hn
    rw [hL, if_neg hn]
    conv => whnf
    refine ⟨fun m ρ H1 => ∃ k : Nat, k + m = L.length ∧ H1 = [.arr 3 [[.str (bs []), .str (bs []), .nil]], gO l (wfR (wsrc n) l).2, .arr 3 (rC (fixK k L)), .arr 3 [[.str (wname n), .str sName, .sl 2 L.length 0 L.length]]] ∧ Sv 37 [(4, .ptr 0 1 0 0), (6, .ptr 3 1 0 0), (7, .int .i64 k)] ρ, L.length, [], ?_, ?_⟩
    · exact ⟨0, by omega, rfl, Sv.intro rfl ⟨rfl, rfl, rfl, trivial⟩⟩
    rintro m ρ H1 ⟨k, hkm, rfl, d, rfl⟩
    have hfl : (rC (fixK k L)).length = L.length := by rw [rC_length, fixK_len]
    have hb : Nat.beq L.length (rC (fixK k L)).length = true := by rw [hfl]; exact Nat.beq_refl _
    (conv => whnf); refine recT (hb) ?_
    (conv => whnf); refine recA (fun hlt => ?_) (fun hlt => ?_)
    · simp at hlt
      have hx : L[k]? = some L[k] := List.getElem?_eq_getElem hlt
      have hidx : (rC (fixK k L))[0 + (k : Int).toNat]? = some (recC L[k]) := by rw [Nat.zero_add, Int.toNat_natCast]; exact rC_at ((fixK_get k L).trans hx)
      (conv => whnf); refine recT (hb) ?_
      (conv => whnf); refine And.intro (by omega) ?_
      (conv => whnf); refine recT (hb) ?_
      (conv => whnf); refine recO (hidx) ?_
      (conv => whnf); refine recA (fun hneg => ?_) (fun hneg => ?_)
      · simp at hneg
        (conv => whnf); refine recT (hb) ?_
        (conv => whnf); refine And.intro (by omega) ?_
        (conv => whnf); refine recT (hb) ?_
        (conv => whnf); refine recO (hidx) ?_
        conv => whnf
        refine ⟨m - 1, by omega, Gp.keep (n := 37) (live := [(4, .ptr 0 1 0 0), (6, .ptr 3 1 0 0), (7, .int .i64 (k + 1 : Nat))]) rfl ⟨rfl, rfl, intEq (wrapI _ (by omega) (by omega)), trivial⟩ fun ρ1 h => ⟨k + 1, by omega, ?_, h⟩⟩
        rw [fixK_set k L _ hx, ← setEs_rC, fixR, if_pos hneg]
        show [AObj.arr 3 [[.str (bs []), .str (bs []), .nil]], gO l (wfR (wsrc n) l).2, .arr 3 (setEs (rC (fixK k L)) (0 + (k : Int).toNat) (recC ⟨L[k].del, 1073741824, L[k].row⟩)), .arr 3 [[.str (wname n), .str sName, .sl 2 L.length 0 L.length]]] = _
        rw [Nat.zero_add, Int.toNat_natCast]
      · simp at hneg
        conv => whnf
        refine ⟨m - 1, by omega, Gp.keep (n := 37) (live := [(4, .ptr 0 1 0 0), (6, .ptr 3 1 0 0), (7, .int .i64 (k + 1 : Nat))]) rfl ⟨rfl, rfl, intEq (wrapI _ (by omega) (by omega)), trivial⟩ fun ρ1 h => ⟨k + 1, by omega, ?_, h⟩⟩
        have : fixK (k + 1) L = fixK k L := by
          rw [fixK_set k L _ hx, fixR, if_neg (by omega)]
          exact set_same _ _ _ ((fixK_get k L).trans hx)
        rw [this]
    · simp at hlt
      have hkl : k = L.length := by omega
      subst hkl
      conv => whnf
      rw [← fixK_all]
      refine .agg _ _ rfl fun i v r h1 h2 => ?_
      rcases i with _ | _ | _ | i
      · cases h1; cases h2; exact .closed _ rfl
      · cases h1; cases h2; exact .closed _ rfl
      · cases h1; cases h2; exact pubFI (by simp) rfl hfl.symm hfl.symm (pureEs_rC _)
      · simp at h1

theorem file24_spec {P : Program} (F : F_warehouselaw24_file P) (l : List Int) (n : Int) (hl : l.length ≤ 1000000) (H : List AObj) :
    ACalls P F.id [.list false 1 (iC l), .int .i64 n] H (fun r H' => r = .agg (fV (fileV l n)) ∧ H' = H) :=
  ACalls.weakR (file24_raw F l n hl H) (by
    rintro r H' ⟨rfl, rfl⟩
    refine ⟨.agg (fV (fileV l n)), .agg _ _ rfl fun i a b h1 h2 => ?_, rfl, rfl⟩
    rcases i with _ | _ | _ | i
    · cases h1; cases h2; exact .refl _
    · cases h1; cases h2; exact .refl _
    · by_cases hn : (wfR (wsrc n) l).1 = []
      · rw [if_pos hn] at h1
        cases h1; cases h2
        rw [fileV, hn]
        exact .nil _ _
      · rw [if_neg hn] at h1
        cases h1; cases h2; exact .refl _
    · simp at h1)

end Go.AW

namespace Go.AW
variable [Draws]
attribute [local irreducible] ACalls
theorem wname_size (n : Int) : (wname n).size ≤ 2 := by
  have h1 := Int.emod_nonneg n (show (12 : Int) ≠ 0 by decide)
  have h2 := Int.emod_lt_of_pos n (show (0 : Int) < 12 by decide)
  have : ∀ k, k < 12 → (wnames.getD k (bs [])).size ≤ 2 := by decide
  exact this _ (by omega)

end Go.AW

namespace Go.AW
variable [Draws]
attribute [local irreducible] ACalls
theorem wv1_valid (k : Int) (l : List Int) (i : Nat) : validB (wv1 k l i).1 = true := by
  have h2 := nx_bnd l i 2 (by decide)
  have h7 := nx_bnd l i 7 (by decide)
  have h5 := nx_bnd l i 5 (by decide)
  have h16 := nx_bnd l i 16 (by decide)
  unfold wv1
  split
  · have : (nx l i 2).1 = 0 ∨ (nx l i 2).1 = 1 := by omega
    rcases this with h | h <;> rw [h] <;> rfl
  split
  · simp [validB, bs_nil]; omega
  split
  · have : ∀ k, k < 5 → validB ⟨3, 0, wtexts.getD k (bs [])⟩ = true := by decide
    exact this _ (by omega)
  · have : ∀ k, k < 16 → validB ⟨4, instL.getD k 0, bs []⟩ = true := by decide
    exact this _ (by omega)

theorem wv_valid (c : Col) (l : List Int) (i : Nat) : validB (wv c l i).1 = true := by
  unfold wv
  repeat' split
  · rfl
  · exact wv1_valid _ _ _
  · exact wv1_valid _ _ _

theorem wr_valid (l : List Int) : ∀ (cs : List Col) (i : Nat) (out : List V), out.all validB = true → (wr l cs i out).1.all validB = true
  | [], _, _, h => h
  | c :: cs, i, out, h => by
    rw [wr]
    exact wr_valid l cs _ _ (by rw [List.all_append, h]; simp [wv_valid])

theorem delR_valid (key : List ByteArray) : ∀ (cs : List Col) (vs : List V), vs.all validB = true → (delR key cs vs).all validB = true
  | [], _, _ => rfl
  | _ :: _, [], _ => rfl
  | c :: cs, v :: vs, h => by
    rw [List.all_cons, Bool.and_eq_true] at h
    rw [delR, List.all_cons, delR_valid key cs vs h.2, Bool.and_true]
    split
    · exact h.1
    · rfl

theorem delR_le (key : List ByteArray) : ∀ (cs : List Col) (vs : List V), (delR key cs vs).length ≤ cs.length
  | [], _ => Nat.zero_le _
  | _ :: _, [] => Nat.zero_le _
  | c :: cs, v :: vs => by rw [delR, List.length_cons, List.length_cons]; have := delR_le key cs vs; omega

theorem set_valid : ∀ (l : List V) (k : Nat) (v : V), l.all validB = true → validB v = true → (l.set k v).all validB = true
  | [], _, _, _, _ => rfl
  | x :: l, 0, v, h, hv => by
    rw [List.all_cons, Bool.and_eq_true] at h
    rw [List.set_cons_zero, List.all_cons, hv, h.2]; rfl
  | x :: l, k + 1, v, h, hv => by
    rw [List.all_cons, Bool.and_eq_true] at h
    rw [List.set_cons_succ, List.all_cons, h.1, set_valid l k v h.2 hv]; rfl

theorem take_valid (l : List V) (k : Nat) (h : l.all validB = true) : (l.take k).all validB = true := by
  rw [List.all_eq_true] at h ⊢
  exact fun x hx => h x (List.mem_of_mem_take hx)

def okR (r : Rec) : Prop := r.seq ≤ 3 ∧ r.row.length ≤ 12 ∧ r.row.all validB = true

theorem wrec_ok (s : Src) (hs : s.cols.length ≤ 12) (l : List Int) (i : Nat) : okR (wrec s l i).1 := by
  have h4 := nx_bnd l i 4 (by decide)
  have hv : (wrow s l i).all validB = true := wr_valid _ _ _ _ rfl
  have hl := wrow_len s l i
  unfold wrec
  split
  · exact ⟨by show (nx l i 4).1 ≤ 3; omega, Nat.le_trans (delR_le _ _ _) hs, delR_valid _ _ _ hv⟩
  split
  · exact ⟨by show (nx l i 4).1 ≤ 3; omega, by show (wrow s l i).length ≤ 12; omega, hv⟩
  split
  · exact ⟨by show (nx l i 4).1 ≤ 3; omega, by show ((wrow s l i).take _).length ≤ 12; rw [List.length_take]; omega, take_valid _ _ hv⟩
  split
  · exact ⟨by show (nx l i 4).1 ≤ 3; omega, by show ((wrow s l i).set _ _).length ≤ 12; rw [List.length_set]; omega, set_valid _ _ _ hv (by decide)⟩
  split
  · exact ⟨by show (-1 : Int) ≤ 3; decide, by show (wrow s l i).length ≤ 12; omega, hv⟩
  · exact ⟨by show (nx l i 4).1 ≤ 3; omega, by show (wrow s l i).length ≤ 12; omega, hv⟩

theorem wf_ok (s : Src) (hs : s.cols.length ≤ 12) (l : List Int) : ∀ (k i : Nat) (L : List Rec), (∀ r ∈ L, okR r) → ∀ r ∈ (wf s l k i L).1, okR r
  | 0, _, _, h => h
  | k + 1, i, L, h => by
    rw [wf]
    refine wf_ok s hs l k _ _ fun r hr => ?_
    rcases List.mem_append.1 hr with hr | hr
    · exact h r hr
    · rw [List.mem_singleton.1 hr]; exact wrec_ok s hs l i

theorem fixR_ok {r : Rec} (h : okR r) : recE (fixR r) = 0 := by
  obtain ⟨h1, h2, h3⟩ := h
  have e : ∀ q : Int, 0 ≤ q → q ≤ 1073741824 → recE ⟨r.del, q, r.row⟩ = 0 := fun q ha hb => by
    rw [recE, if_neg (by show ¬ (q < 0 ∨ 1073741824 < q); omega), rowE, if_neg (by show ¬ 12 < r.row.length; omega), if_pos h3]
  unfold fixR
  split
  · exact e _ (by decide) (by decide)
  · exact e r.seq (by omega) (by omega)

theorem recsE_all : ∀ {l : List Rec}, (∀ r ∈ l, recE r = 0) → recsE l = 0
  | [], _ => rfl
  | x :: l, h => by rw [recsE, if_neg (by simp [h x (List.mem_cons_self ..)]), recsE_all fun r hr => h r (List.mem_cons_of_mem _ hr)]

theorem wsrc_cols (n : Int) : (wsrc n).cols.length ≤ 12 := by
  rw [wsrc]
  show (if wpart n then _ else _ : List Col).length ≤ 12
  split <;> simp [wcols]

theorem fileV_len (l : List Int) (n : Int) : (fileV l n).recs.length ≤ 6 := by
  have h7 := nx_bnd l 0 7 (by decide)
  show ((wfR (wsrc n) l).1.map fixR).length ≤ 6
  rw [List.length_map, wfR, wf_len, wfN]
  simp; omega

theorem fileV_recs (l : List Int) (n : Int) : recsE (fileV l n).recs = 0 := by
  refine recsE_all fun r hr => ?_
  obtain ⟨x, hx, rfl⟩ := List.mem_map.1 hr
  exact fixR_ok (wf_ok _ (wsrc_cols n) _ _ _ _ (fun r h => by simp at h) x hx)

theorem fileV_filE (l : List Int) (n : Int) : filE (fileV l n) = 0 := by
  have h1 := Int.emod_nonneg n (show (12 : Int) ≠ 0 by decide)
  have h2 := Int.emod_lt_of_pos n (show (0 : Int) < 12 by decide)
  have hn : ∀ k, k < 12 → nameB (wnames.getD k (bs [])) = true := by decide
  have hn1 : nameB (fileV l n).id = true := hn _ (by omega)
  have hq : qualB (fileV l n).src = true := by show qualB sName = true; decide
  have := fileV_len l n
  rw [filE, if_neg (by rw [hn1, hq]; simp), if_neg (by omega), fileV_recs]

theorem fileV_E (l : List Int) (n : Int) : encFE (fileV l n) = 0 := by
  have h1 := recsB_len (fileV_recs l n)
  have h2 := fileV_len l n
  have h3 := wname_size n
  rw [encFE, if_neg (by rw [fileV_filE]; simp), if_neg ?_]
  have hi : (fileV l n).id.size ≤ 2 := h3
  have hs : (fileV l n).src.size = 11 := rfl
  simp only [filB, bodyB, headB, List.length_append, List.length_cons, List.length_nil, beN_length, bytesI_length]
  omega

theorem law_small (l : List Int) (n : Int) : (fileV l n).recs.length ≤ 1000000 ∧ ∀ r ∈ (fileV l n).recs, r.row.length ≤ 1000000 := filE_small (fileV_filE l n)

end Go.AW

namespace Go.AW
variable [Draws]
attribute [local irreducible] ACalls
def tO (x y z : List Int) : AObj := .arr 1 [[.list false 1 (bC x)], [.list false 1 (bC y)], [.list false 1 (bC z)]]

end Go.AW

namespace Go.AW
variable [Draws]
inductive Shf (n : Nat) : AVal → AVal → Prop where
  | sc (a : AVal) (h : a.scalar = true) : Shf n a a
  | sl (id ep off len : Nat) : Shf n (.sl id ep off len) (.sl (n + id) ep off len)
  | tuple (vs rs : List AVal) (hl : vs.length = rs.length) (h : ∀ (i : Nat) (v r : AVal), vs[i]? = some v → rs[i]? = some r → Shf n v r) : Shf n (.tuple vs) (.tuple rs)
  | agg (vs rs : List AVal) (hl : vs.length = rs.length) (h : ∀ (i : Nat) (v r : AVal), vs[i]? = some v → rs[i]? = some r → Shf n v r) : Shf n (.agg vs) (.agg rs)

inductive ShfO (n : Nat) : AObj → AObj → Prop where
  | arr (esz : Nat) (es es1 : List (List AVal)) (hl : es1.length = es.length) (hl2 : ∀ (i : Nat) (e e1 : List AVal), es[i]? = some e → es1[i]? = some e1 → e1.length = e.length)
      (h : ∀ (i j : Nat) (e e1 : List AVal) (d d1 : AVal), es[i]? = some e → es1[i]? = some e1 → e[j]? = some d → e1[j]? = some d1 → Shf n d d1 ∧ d1.isCell = true) : ShfO n (.arr esz es) (.arr esz es1)

def AObj.lits : AObj → Prop
  | .arr _ es => ∀ e ∈ es, ∀ d ∈ e, d.scalar = true
  | _ => False

section
variable {P : Program} {C C' : Nat → Nat} {τ τ' : Nat → Option Loc} {H G : List AObj} {w w' : World}
theorem Shf.rel {a b : AVal} (h : Shf H.length a b) (hτ : ∀ k, k < G.length → τ' (H.length + k) = τ k) : ∀ {v : Value}, Rel C w τ G a v → Rel C' w τ' (H ++ G) b v := by
  induction h with
  | sc a h => intro v hr; exact hr.scalar h
  | sl id ep off len =>
    intro v hr
    cases hr with
    | rd h => cases h
    | sl _ _ _ _ a cap esz es ho hep h =>
      have hi := (List.getElem?_eq_some_iff.1 ho).1
      refine .sl _ _ _ _ a cap esz es (by rw [List.getElem?_append_right (by omega), Nat.add_sub_cancel_left]; exact ho) hep fun e => ?_
      rw [hτ id hi]; exact h e
  | tuple vs rs hl h ih =>
    intro v hr
    obtain ⟨us, rfl, hl2, hr2⟩ := hr.tuple_inv
    refine .tuple _ _ (by omega) fun i c u hc hu => ?_
    have hi := (List.getElem?_eq_some_iff.1 hc).1
    have hvi : vs[i]? = some vs[i] := List.getElem?_eq_getElem (by omega)
    exact ih i _ c hvi hc (hr2 i _ u hvi hu)
  | agg vs rs hl h ih =>
    intro v hr
    obtain ⟨us, rfl, hl2, hr2⟩ := hr.agg_inv
    refine .agg _ _ (by omega) fun i c u hc hu => ?_
    have hi := (List.getElem?_eq_some_iff.1 hc).1
    have hvi : vs[i]? = some vs[i] := List.getElem?_eq_getElem (by omega)
    exact ih i _ c hvi hc (hr2 i _ u hvi hu)

theorem Shf.rel2 {G' : List AObj} {a b : AVal} (h : Shf H.length a b) (hg : ∀ (k esz : Nat) (es : List (List AVal)), G[k]? = some (.arr esz es) → ∃ es1, G'[k]? = some (.arr esz es1) ∧ es1.length = es.length) (hτ : ∀ k, k < G.length → τ' (H.length + k) = τ k) : ∀ {v : Value}, Rel C w τ G a v → Rel C' w τ' (H ++ G') b v := by
  induction h with
  | sc a h => intro v hr; exact hr.scalar h
  | sl id ep off len =>
    intro v hr
    cases hr with
    | rd h => cases h
    | sl _ _ _ _ a cap esz es ho hep h =>
      have hi := (List.getElem?_eq_some_iff.1 ho).1
      obtain ⟨es1, h1, h2⟩ := hg id esz es ho
      refine .sl _ _ _ _ a cap esz es1 (by rw [List.getElem?_append_right (by omega), Nat.add_sub_cancel_left]; exact h1) (by omega) fun e => ?_
      rw [hτ id hi, h2]; exact h (by omega)
  | tuple vs rs hl h ih =>
    intro v hr
    obtain ⟨us, rfl, hl2, hr2⟩ := hr.tuple_inv
    refine .tuple _ _ (by omega) fun i c u hc hu => ?_
    have hi := (List.getElem?_eq_some_iff.1 hc).1
    have hvi : vs[i]? = some vs[i] := List.getElem?_eq_getElem (by omega)
    exact ih i _ c hvi hc (hr2 i _ u hvi hu)
  | agg vs rs hl h ih =>
    intro v hr
    obtain ⟨us, rfl, hl2, hr2⟩ := hr.agg_inv
    refine .agg _ _ (by omega) fun i c u hc hu => ?_
    have hi := (List.getElem?_eq_some_iff.1 hc).1
    have hvi : vs[i]? = some vs[i] := List.getElem?_eq_getElem (by omega)
    exact ih i _ c hvi hc (hr2 i _ u hvi hu)

theorem ACalls.borG {f : FuncId} {args bs : List AVal} {R R' : AVal} (h : ACalls P f bs [] (fun r H' => r = R ∧ H' = G)) (hl : args.length = bs.length)
    (hp : ∀ (i : Nat) (a b : AVal), args[i]? = some a → bs[i]? = some b → Pub H 0 [] a b) (hR : Shf H.length R R') (hG : ∀ o ∈ G, o.lits) :
    ACalls P f args H (fun r H' => r = R' ∧ H' = H ++ G) := by
  intro C τ w vs hw hlen hr
  have hw0 : WF (commit C τ H []) τ [] w := by
    refine ⟨fun id o h => by simp at h, fun id o h => by simp at h, fun id o l h => by simp at h, fun id l h => by simp at h, fun i j li lj h => by simp at h, fun b hb => ?_⟩
    by_cases hex : ∃ id l, id < H.length ∧ τ id = some l ∧ l.b = b
    · obtain ⟨id, l, h1, h2, rfl⟩ := hex
      exact hw.locLt h1 h2
    · rw [commit_other fun id l h1 _ h2 h3 => hex ⟨id, l, h1, h2, h3⟩] at hb
      exact hw.lt b hb
  have hc := h (commit C τ H []) τ w vs hw0 (by rw [← hl]; exact hlen) fun i b v hb hv => by
    have hi : i < args.length := by have := (List.getElem?_eq_some_iff.1 hb).1; omega
    exact pub_rel (n := 0) (ids := []) (τ2 := τ) (H2 := []) hw (fun k id h => by simp at h) (hp i args[i] b (List.getElem?_eq_getElem hi) hb) (hr i args[i] v (List.getElem?_eq_getElem hi) hv)
  have fin : ∀ (e : Ending) (w' : World), (∃ v r C' τ' H', e = .returned v ∧ (r = R ∧ H' = G) ∧ Rel C' w' τ' H' r v ∧ St w (PrCall τ [] w) C' τ' H' w' ∧ Step (commit C τ H []) τ [] w C' τ' H' w') →
      ∃ v r C' τ' H', e = .returned v ∧ (r = R' ∧ H' = H ++ G) ∧ Rel C' w' τ' H' r v ∧ St w (PrCall τ H w) C' τ' H' w' ∧ Step C τ H w C' τ' H' w' := by
    rintro e w' ⟨v, r, C1, τ1, H1, rfl, ⟨rfl, rfl⟩, hrel, hst, hstep⟩
    have prall : ∀ b, b < w.heap.size → PrCall τ [] w b := fun b hb => ⟨hb, by rintro ⟨id, l, h, _⟩; simp at h⟩
    have hheap : ∀ b, b < w.heap.size → w'.heap[b]? = w.heap[b]? := fun b hb => hst.fr.prot b (prall b hb)
    have hnew : ∀ id l, id < H1.length → τ1 id = some l → w.heap.size ≤ l.b := fun id l h1 h2 => by
      rcases Nat.lt_or_ge l.b w.heap.size with h3 | h3
      · exact absurd (prall _ h3) (hst.own _ ⟨id, l, h1, h2, rfl⟩)
      · exact h3
    let τ2 : Nat → Option Loc := fun i => if i < H.length then τ i else τ1 (i - H.length)
    have hτ : ∀ i, i < H.length → τ2 i = τ i := fun i hi => by simp only [τ2, if_pos hi]
    have hτn : ∀ k, τ2 (H.length + k) = τ1 k := fun k => by
      simp only [τ2, if_neg (by omega : ¬ H.length + k < H.length), Nat.add_sub_cancel_left]
    let C2 : Nat → Nat := fun b => if b < w.heap.size then C b else C1 b
    have hC2 : ∀ b, b < w.heap.size → C2 b = C b := fun b hb => by simp only [C2, if_pos hb]
    have hC2n : ∀ b, w.heap.size ≤ b → C2 b = C1 b := fun b hb => by simp only [C2, if_neg (by omega : ¬ b < w.heap.size)]
    have step : Step C τ H w C2 τ2 (H ++ H1) w' := by
      refine ⟨fun b => ?_, fun b i hi => cell_heap (hheap b (hw.lt b (by omega))), fun id o ho => ?_, hst.fr.size, hC2⟩
      · by_cases hb : b < w.heap.size
        · rw [hC2 b hb]; exact Nat.le_refl _
        · have : C b = 0 := by
            rcases Nat.eq_zero_or_pos (C b) with h | h
            · exact h
            · exact absurd (hw.lt b h) hb
          omega
      · have hi := (List.getElem?_eq_some_iff.1 ho).1
        exact ⟨o, by rw [List.getElem?_append_left hi]; exact ho, by rw [hτ id hi]; exact o.after_refl _⟩
    have split : ∀ i, i < (H ++ H1).length → i < H.length ∨ ∃ k, i = H.length + k ∧ k < H1.length := fun i hi => by
      rcases Nat.lt_or_ge i H.length with h1 | h1
      · exact .inl h1
      · rw [List.length_append] at hi
        exact .inr ⟨i - H.length, by omega, by omega⟩
    have getn : ∀ k, (H ++ H1)[H.length + k]? = H1[k]? := fun k => by rw [List.getElem?_append_right (by omega), Nat.add_sub_cancel_left]
    have loc : ∀ i l, i < (H ++ H1).length → τ2 i = some l → (i < H.length ∧ τ i = some l ∧ l.b < w.heap.size) ∨ ∃ k, i = H.length + k ∧ k < H1.length ∧ τ1 k = some l ∧ w.heap.size ≤ l.b := fun i l hi ht => by
      rcases split i hi with h1 | ⟨k, rfl, hk⟩
      · rw [hτ i h1] at ht
        exact .inl ⟨h1, ht, hw.locLt h1 ht⟩
      · rw [hτn k] at ht
        exact .inr ⟨k, rfl, hk, ht, hnew k l hk ht⟩
    refine ⟨v, R', C2, τ2, H ++ H1, rfl, ⟨rfl, rfl⟩, hR.rel (fun k _ => hτn k) hrel, ⟨⟨?_, ?_, ?_, ?_, ?_, ?_⟩, ⟨hst.fr.os, hst.fr.tape, hst.fr.output, hst.fr.size, fun b hb => hheap b hb.1, hst.fr.drawn⟩, ?_, fun b hb => hb.1⟩, step⟩
    · intro i o ho
      rcases split i (List.getElem?_eq_some_iff.1 ho).1 with h1 | ⟨k, rfl, hk⟩
      · rw [List.getElem?_append_left h1] at ho; exact hw.ok i o ho
      · rw [getn] at ho; exact hst.wf.ok k o ho
    · intro i o ho ht
      rcases split i (List.getElem?_eq_some_iff.1 ho).1 with h1 | ⟨k, rfl, hk⟩
      · rw [List.getElem?_append_left h1] at ho; rw [hτ i h1] at ht; exact hw.virt i o ho ht
      · rw [getn] at ho; rw [hτn k] at ht; exact hst.wf.virt k o ho ht
    · intro i o l ho ht
      rcases split i (List.getElem?_eq_some_iff.1 ho).1 with h1 | ⟨k, rfl, hk⟩
      · rw [List.getElem?_append_left h1] at ho; rw [hτ i h1] at ht
        exact (hw.objs i o l ho ht).mono step (hheap _ (hw.locLt h1 ht))
      · rw [getn] at ho; rw [hτn k] at ht
        have hlit := hG o (List.mem_of_getElem? ho)
        cases o with
        | iter _ _ => exact hlit.elim
        | map _ => exact hlit.elim
        | arr esz es =>
          obtain ⟨a1, cells, elem, fz, a2, a3, a4, a5⟩ := hst.wf.objs k _ l ho ht
          refine ⟨a1, cells, elem, fz, a2, a3, a4, fun i j e d hi hd => ?_⟩
          obtain ⟨x, hx1, hx2⟩ := a5 i j e d hi hd
          exact ⟨x, hx1, hx2.scalar (hlit e (List.mem_of_getElem? hi) d (List.mem_of_getElem? hd))⟩
    · intro i l hi ht
      rcases loc i l hi ht with ⟨h1, h2, h3⟩ | ⟨k, _, h1, h2, h3⟩
      · rw [hC2 _ h3]; exact hw.comm i l h1 h2
      · rw [hC2n _ h3]; exact hst.wf.comm k l h1 h2
    · intro i j li lj hi hj hti htj hb
      rcases loc i li hi hti with ⟨h1, h2, h3⟩ | ⟨k, e1, h1, h2, h3⟩ <;> rcases loc j lj hj htj with ⟨g1, g2, g3⟩ | ⟨m, e2, g1, g2, g3⟩
      · exact hw.inj i j li lj h1 g1 h2 g2 hb
      · omega
      · omega
      · have := hst.wf.inj k m li lj h1 g1 h2 g2 hb
        omega
    · intro b hb
      by_cases h1 : b < w.heap.size
      · exact Nat.lt_of_lt_of_le h1 hst.fr.size
      · rw [hC2n b (by omega)] at hb; exact hst.wf.lt b hb
    · rintro b ⟨i, l, hi, ht, rfl⟩ hpr
      rcases loc i l hi ht with ⟨h1, h2, h3⟩ | ⟨k, _, h1, h2, h3⟩
      · exact hpr.2 ⟨i, l, h1, h2, rfl⟩
      · have := hpr.1; omega
  unfold CallsX at hc ⊢
  split at hc
  · exact Calls.mono hc fun e w' hh => fin e w' hh
  · exact fin _ _ hc
  · exact hc

theorem ACalls.borG2 {G' : List AObj} {f : FuncId} {args bs : List AVal} {R R' : AVal} (h : ACalls P f bs [] (fun r H' => r = R ∧ H' = G)) (hl : args.length = bs.length)
    (hp : ∀ (i : Nat) (a b : AVal), args[i]? = some a → bs[i]? = some b → Pub H 0 [] a b) (hR : Shf H.length R R') (hlG : G'.length = G.length) (hG : ∀ (k : Nat) (o o1 : AObj), G[k]? = some o → G'[k]? = some o1 → ShfO H.length o o1) :
    ACalls P f args H (fun r H' => r = R' ∧ H' = H ++ G') := by
  intro C τ w vs hw hlen hr
  have hw0 : WF (commit C τ H []) τ [] w := by
    refine ⟨fun id o h => by simp at h, fun id o h => by simp at h, fun id o l h => by simp at h, fun id l h => by simp at h, fun i j li lj h => by simp at h, fun b hb => ?_⟩
    by_cases hex : ∃ id l, id < H.length ∧ τ id = some l ∧ l.b = b
    · obtain ⟨id, l, h1, h2, rfl⟩ := hex
      exact hw.locLt h1 h2
    · rw [commit_other fun id l h1 _ h2 h3 => hex ⟨id, l, h1, h2, h3⟩] at hb
      exact hw.lt b hb
  have hc := h (commit C τ H []) τ w vs hw0 (by rw [← hl]; exact hlen) fun i b v hb hv => by
    have hi : i < args.length := by have := (List.getElem?_eq_some_iff.1 hb).1; omega
    exact pub_rel (n := 0) (ids := []) (τ2 := τ) (H2 := []) hw (fun k id h => by simp at h) (hp i args[i] b (List.getElem?_eq_getElem hi) hb) (hr i args[i] v (List.getElem?_eq_getElem hi) hv)
  have fin : ∀ (e : Ending) (w' : World), (∃ v r C' τ' H', e = .returned v ∧ (r = R ∧ H' = G) ∧ Rel C' w' τ' H' r v ∧ St w (PrCall τ [] w) C' τ' H' w' ∧ Step (commit C τ H []) τ [] w C' τ' H' w') →
      ∃ v r C' τ' H', e = .returned v ∧ (r = R' ∧ H' = H ++ G') ∧ Rel C' w' τ' H' r v ∧ St w (PrCall τ H w) C' τ' H' w' ∧ Step C τ H w C' τ' H' w' := by
    rintro e w' ⟨v, r, C1, τ1, H1, rfl, ⟨rfl, rfl⟩, hrel, hst, hstep⟩
    have prall : ∀ b, b < w.heap.size → PrCall τ [] w b := fun b hb => ⟨hb, by rintro ⟨id, l, h, _⟩; simp at h⟩
    have hheap : ∀ b, b < w.heap.size → w'.heap[b]? = w.heap[b]? := fun b hb => hst.fr.prot b (prall b hb)
    have hnew : ∀ id l, id < H1.length → τ1 id = some l → w.heap.size ≤ l.b := fun id l h1 h2 => by
      rcases Nat.lt_or_ge l.b w.heap.size with h3 | h3
      · exact absurd (prall _ h3) (hst.own _ ⟨id, l, h1, h2, rfl⟩)
      · exact h3
    let τ2 : Nat → Option Loc := fun i => if i < H.length then τ i else τ1 (i - H.length)
    have hτ : ∀ i, i < H.length → τ2 i = τ i := fun i hi => by simp only [τ2, if_pos hi]
    have hτn : ∀ k, τ2 (H.length + k) = τ1 k := fun k => by
      simp only [τ2, if_neg (by omega : ¬ H.length + k < H.length), Nat.add_sub_cancel_left]
    let C2 : Nat → Nat := fun b => if b < w.heap.size then C b else C1 b
    have hC2 : ∀ b, b < w.heap.size → C2 b = C b := fun b hb => by simp only [C2, if_pos hb]
    have hC2n : ∀ b, w.heap.size ≤ b → C2 b = C1 b := fun b hb => by simp only [C2, if_neg (by omega : ¬ b < w.heap.size)]
    have step : Step C τ H w C2 τ2 (H ++ G') w' := by
      refine ⟨fun b => ?_, fun b i hi => cell_heap (hheap b (hw.lt b (by omega))), fun id o ho => ?_, hst.fr.size, hC2⟩
      · by_cases hb : b < w.heap.size
        · rw [hC2 b hb]; exact Nat.le_refl _
        · have : C b = 0 := by
            rcases Nat.eq_zero_or_pos (C b) with h | h
            · exact h
            · exact absurd (hw.lt b h) hb
          omega
      · have hi := (List.getElem?_eq_some_iff.1 ho).1
        exact ⟨o, by rw [List.getElem?_append_left hi]; exact ho, by rw [hτ id hi]; exact o.after_refl _⟩
    have split : ∀ i, i < (H ++ G').length → i < H.length ∨ ∃ k, i = H.length + k ∧ k < H1.length := fun i hi => by
      rcases Nat.lt_or_ge i H.length with h1 | h1
      · exact .inl h1
      · rw [List.length_append] at hi
        exact .inr ⟨i - H.length, by omega, by omega⟩
    have getn : ∀ k, (H ++ G')[H.length + k]? = G'[k]? := fun k => by rw [List.getElem?_append_right (by omega), Nat.add_sub_cancel_left]
    have loc : ∀ i l, i < (H ++ G').length → τ2 i = some l → (i < H.length ∧ τ i = some l ∧ l.b < w.heap.size) ∨ ∃ k, i = H.length + k ∧ k < H1.length ∧ τ1 k = some l ∧ w.heap.size ≤ l.b := fun i l hi ht => by
      rcases split i hi with h1 | ⟨k, rfl, hk⟩
      · rw [hτ i h1] at ht
        exact .inl ⟨h1, ht, hw.locLt h1 ht⟩
      · rw [hτn k] at ht
        exact .inr ⟨k, rfl, hk, ht, hnew k l hk ht⟩
    have hg : ∀ (k esz : Nat) (es : List (List AVal)), H1[k]? = some (.arr esz es) → ∃ es1, G'[k]? = some (.arr esz es1) ∧ es1.length = es.length := fun k esz es hk => by
      have hi := (List.getElem?_eq_some_iff.1 hk).1
      have h1 : G'[k]? = some G'[k] := List.getElem?_eq_getElem (by omega)
      have := hG k _ _ hk h1
      generalize G'[k] = y at h1 this
      cases this with
      | arr _ _ es1 hl _ _ => exact ⟨es1, h1, hl⟩
    have back : ∀ (k : Nat) (o1 : AObj), G'[k]? = some o1 → ∃ o, H1[k]? = some o ∧ ShfO H.length o o1 := fun k o1 hk => by
      have hi := (List.getElem?_eq_some_iff.1 hk).1
      have h1 : H1[k]? = some H1[k] := List.getElem?_eq_getElem (by omega)
      exact ⟨_, h1, hG k _ _ h1 hk⟩
    refine ⟨v, R', C2, τ2, H ++ G', rfl, ⟨rfl, rfl⟩, hR.rel2 hg (fun k _ => hτn k) hrel, ⟨⟨?_, ?_, ?_, ?_, ?_, ?_⟩, ⟨hst.fr.os, hst.fr.tape, hst.fr.output, hst.fr.size, fun b hb => hheap b hb.1, hst.fr.drawn⟩, ?_, fun b hb => hb.1⟩, step⟩
    · intro i o ho
      rcases split i (List.getElem?_eq_some_iff.1 ho).1 with h1 | ⟨k, rfl, hk⟩
      · rw [List.getElem?_append_left h1] at ho; exact hw.ok i o ho
      · rw [getn] at ho
        obtain ⟨o0, ho0, hs⟩ := back k o ho
        have hok := hst.wf.ok k o0 ho0
        cases hs with
        | arr esz es es1 hl hl2 h =>
          intro e1 he1
          obtain ⟨n, hn⟩ := List.getElem?_of_mem he1
          have hnl := (List.getElem?_eq_some_iff.1 hn).1
          have he : es[n]? = some es[n] := List.getElem?_eq_getElem (by omega)
          obtain ⟨g1, g2⟩ := hok _ (List.mem_of_getElem? he)
          have g3 := hl2 n _ _ he hn
          refine ⟨g3.trans g1, fun d1 hd1 => ?_⟩
          obtain ⟨j, hj⟩ := List.getElem?_of_mem hd1
          have hjl := (List.getElem?_eq_some_iff.1 hj).1
          exact (h n j _ _ _ d1 he hn (List.getElem?_eq_getElem (by omega)) hj).2
    · intro i o ho ht
      rcases split i (List.getElem?_eq_some_iff.1 ho).1 with h1 | ⟨k, rfl, hk⟩
      · rw [List.getElem?_append_left h1] at ho; rw [hτ i h1] at ht; exact hw.virt i o ho ht
      · rw [getn] at ho; rw [hτn k] at ht
        obtain ⟨o0, ho0, hs⟩ := back k o ho
        obtain ⟨esz, rfl⟩ := hst.wf.virt k o0 ho0 ht
        cases hs with
        | arr _ _ es1 hl _ _ => exact ⟨esz, by rw [List.eq_nil_of_length_eq_zero hl]⟩
    · intro i o l ho ht
      rcases split i (List.getElem?_eq_some_iff.1 ho).1 with h1 | ⟨k, rfl, hk⟩
      · rw [List.getElem?_append_left h1] at ho; rw [hτ i h1] at ht
        exact (hw.objs i o l ho ht).mono step (hheap _ (hw.locLt h1 ht))
      · rw [getn] at ho; rw [hτn k] at ht
        obtain ⟨o0, ho0, hs⟩ := back k o ho
        have hat := hst.wf.objs k _ l ho0 ht
        cases hs with
        | arr esz es es1 hl hl2 h =>
          obtain ⟨a1, cells, elem, fz, a2, a3, a4, a5⟩ := hat
          refine ⟨by omega, cells, elem, fz, a2, a3, a4, fun i j e1 d1 hi hd => ?_⟩
          have hil := (List.getElem?_eq_some_iff.1 hi).1
          have hjl := (List.getElem?_eq_some_iff.1 hd).1
          have he : es[i]? = some es[i] := List.getElem?_eq_getElem (by omega)
          have g3 := hl2 i _ _ he hi
          have hdd : es[i][j]? = some es[i][j] := List.getElem?_eq_getElem (by omega)
          obtain ⟨x, hx1, hx2⟩ := a5 i j _ _ he hdd
          exact ⟨x, hx1, (h i j _ _ _ _ he hi hdd hd).1.rel2 hg (fun k _ => hτn k) hx2⟩
    · intro i l hi ht
      rcases loc i l hi ht with ⟨h1, h2, h3⟩ | ⟨k, _, h1, h2, h3⟩
      · rw [hC2 _ h3]; exact hw.comm i l h1 h2
      · rw [hC2n _ h3]; exact hst.wf.comm k l h1 h2
    · intro i j li lj hi hj hti htj hb
      rcases loc i li hi hti with ⟨h1, h2, h3⟩ | ⟨k, e1, h1, h2, h3⟩ <;> rcases loc j lj hj htj with ⟨g1, g2, g3⟩ | ⟨m, e2, g1, g2, g3⟩
      · exact hw.inj i j li lj h1 g1 h2 g2 hb
      · omega
      · omega
      · have := hst.wf.inj k m li lj h1 g1 h2 g2 hb
        omega
    · intro b hb
      by_cases h1 : b < w.heap.size
      · exact Nat.lt_of_lt_of_le h1 hst.fr.size
      · rw [hC2n b (by omega)] at hb; exact hst.wf.lt b hb
    · rintro b ⟨i, l, hi, ht, rfl⟩ hpr
      rcases loc i l hi ht with ⟨h1, h2, h3⟩ | ⟨k, _, h1, h2, h3⟩
      · exact hpr.2 ⟨i, l, h1, h2, rfl⟩
      · have := hpr.1; omega
  unfold CallsX at hc ⊢
  split at hc
  · exact Calls.mono hc fun e w' hh => fin e w' hh
  · exact fin _ _ hc
  · exact hc

end
end Go.AW

namespace Go.AW
variable [Draws]
inductive RenN (σ : Nat → Nat) : AVal → AVal → Prop where
  | closed (v : AVal) (h : v.closed = true) : RenN σ v v
  | sl (id ep off len : Nat) : RenN σ (.sl id ep off len) (.sl (σ id) ep off len)
  | ptr (id ep idx fld : Nat) : RenN σ (.ptr id ep idx fld) (.ptr (σ id) ep idx fld)
  | mp (id : Nat) : RenN σ (.mp id) (.mp (σ id))
  | it (id : Nat) : RenN σ (.it id) (.it (σ id))
  | agg (vs rs : List AVal) (hl : vs.length = rs.length) (h : ∀ (i : Nat) (v r : AVal), vs[i]? = some v → rs[i]? = some r → RenN σ v r) : RenN σ (.agg vs) (.agg rs)
  | tuple (vs rs : List AVal) (hl : vs.length = rs.length) (h : ∀ (i : Nat) (v r : AVal), vs[i]? = some v → rs[i]? = some r → RenN σ v r) : RenN σ (.tuple vs) (.tuple rs)
  | fn (f : FuncId) (vs rs : List AVal) (hl : vs.length = rs.length) (h : ∀ (i : Nat) (v r : AVal), vs[i]? = some v → rs[i]? = some r → RenN σ v r) : RenN σ (.fn f vs) (.fn f rs)

theorem RenN.cell {σ : Nat → Nat} {a b : AVal} (h : RenN σ a b) : a.isCell = b.isCell := by cases h <;> rfl

inductive RenNO (σ : Nat → Nat) : AObj → AObj → Prop where
  | arr (esz : Nat) (es es1 : List (List AVal)) (hl : es1.length = es.length) (hl2 : ∀ (i : Nat) (e e1 : List AVal), es[i]? = some e → es1[i]? = some e1 → e1.length = e.length)
      (h : ∀ (i j : Nat) (e e1 : List AVal) (d d1 : AVal), es[i]? = some e → es1[i]? = some e1 → e[j]? = some d → e1[j]? = some d1 → RenN σ d d1) :
      RenNO σ (.arr esz es) (.arr esz es1)
  | iter (s : ByteArray) (p : Nat) : RenNO σ (.iter s p) (.iter s p)
  | map (kvs kvs1 : List (AVal × AVal)) (hl : kvs1.length = kvs.length) (h : ∀ (i : Nat) (e e1 : AVal × AVal), kvs[i]? = some e → kvs1[i]? = some e1 → e1.1 = e.1 ∧ RenN σ e.2 e1.2) : RenNO σ (.map kvs) (.map kvs1)

theorem AVal.closed_of_pure {v : AVal} (h : v.isPure = true) : v.closed = true := by cases v <;> first | rfl | exact h | (simp [AVal.isPure] at h)

theorem RenNO.same {σ : Nat → Nat} {o : AObj} (h : o.clean = true) : RenNO σ o o := by
  cases o with
  | arr esz es => exact .arr esz es es rfl (fun i e e1 h1 h2 => by rw [h1] at h2; cases h2; rfl) fun i j e e1 d d1 h1 h2 h3 h4 => (by
      rw [h1] at h2; cases h2; rw [h3] at h4; cases h4; exact .closed _ (AVal.closed_of_pure (pureEs_get h h1 h3)))
  | iter s p => exact .iter s p
  | map kvs => exact .map kvs kvs rfl fun i e e1 h1 h2 => (by rw [h1] at h2; cases h2; exact ⟨rfl, .closed _ (AVal.closed_of_pure (pureKvs_get h h1))⟩)

theorem RenNO.after {σ : Nat → Nat} {o o0 o1 : AObj} {t t' : Option Loc} (h : RenNO σ o0 o1) (ha : o.after o0 t t') : o.after o1 t t' := by
  cases h with
  | iter => exact ha
  | arr esz es es1 hl _ _ =>
    cases o with
    | iter _ _ => exact ha
    | map _ => exact ha
    | arr z es0 => exact ⟨ha.1, by rw [hl]; exact ha.2.1, by rw [hl]; exact ha.2.2⟩
  | map => cases o <;> exact ha

theorem RenNO.ok {σ : Nat → Nat} {o0 o1 : AObj} (h : RenNO σ o0 o1) (ho : o0.ok) : o1.ok := by
  cases h with
  | iter => exact ho
  | map => exact ho
  | arr esz es es1 hl hl2 hp =>
    intro e1 he1
    obtain ⟨n, hn⟩ := List.getElem?_of_mem he1
    have hnl := (List.getElem?_eq_some_iff.1 hn).1
    have he : es[n]? = some es[n] := List.getElem?_eq_getElem (by omega)
    obtain ⟨g1, g2⟩ := ho _ (List.mem_of_getElem? he)
    refine ⟨(hl2 n _ _ he hn).trans g1, fun d1 hd1 => ?_⟩
    obtain ⟨j, hj⟩ := List.getElem?_of_mem hd1
    have hjl := (List.getElem?_eq_some_iff.1 hj).1
    have := hl2 n _ _ he hn
    have hd : es[n][j]? = some es[n][j] := List.getElem?_eq_getElem (by omega)
    rw [← (hp n j _ _ _ d1 he hn hd hj).cell]
    exact g2 _ (List.mem_of_getElem? hd)

section
variable {P : Program} {C C' : Nat → Nat} {τ τ' : Nat → Option Loc} {H H' : List AObj} {w w' : World}
structure SameAt (σ : Nat → Nat) (τ : Nat → Option Loc) (H : List AObj) (τ' : Nat → Option Loc) (H' : List AObj) : Prop where
  obj : ∀ (k : Nat) (x : AObj), H[k]? = some x → ∃ y, H'[σ k]? = some y ∧ RenNO σ x y
  loc : ∀ (k : Nat), k < H.length → τ' (σ k) = τ k

theorem RenN.rel {σ : Nat → Nat} {a b : AVal} (h : RenN σ a b) (s : SameAt σ τ H τ' H') : ∀ {u : Value}, Rel C w τ H a u → Rel C w τ' H' b u := by
  have lt : ∀ {k : Nat} {x : AObj}, H[k]? = some x → k < H.length := fun h => (List.getElem?_eq_some_iff.1 h).1
  induction h with
  | closed v h => intro u hu; exact hu.closed h (fun _ => Nat.le_refl _) (fun _ _ _ => rfl)
  | sl k ep off len =>
    intro u hu
    cases hu with
    | rd h => cases h
    | sl _ _ _ _ a cap esz es ho hep h3 =>
      obtain ⟨y, hy, hry⟩ := s.obj k _ ho
      cases hry with
      | arr _ _ es1 hl1 _ _ => exact .sl _ ep off len a cap esz es1 hy (by omega) fun e => by rw [s.loc k (lt ho), hl1]; exact h3 (by omega)
  | ptr k ep idx fld =>
    intro u hu
    cases hu with
    | rd h => cases h
    | ptr _ _ _ _ a esz es ho hep h3 =>
      obtain ⟨y, hy, hry⟩ := s.obj k _ ho
      cases hry with
      | arr _ _ es1 hl1 _ _ => exact .ptr _ ep idx fld a esz es1 hy (by omega) fun e => by rw [s.loc k (lt ho)]; exact h3 (by omega)
  | mp k =>
    intro u hu
    cases hu with
    | rd h => cases h
    | mp _ kvs l ho ht =>
      obtain ⟨y, hy, hry⟩ := s.obj k _ ho
      cases hry with
      | map _ kvs1 => exact .mp _ kvs1 l hy (by rw [s.loc k (lt ho)]; exact ht)
  | it k =>
    intro u hu
    cases hu with
    | rd h => cases h
    | it _ s0 pos l ho ht =>
      obtain ⟨y, hy, hry⟩ := s.obj k _ ho
      cases hry with
      | iter => exact .it _ s0 pos l hy (by rw [s.loc k (lt ho)]; exact ht)
  | agg vs rs hl h ih =>
    intro u hu
    obtain ⟨us, rfl, hl2, hr2⟩ := hu.agg_inv
    refine .agg _ _ (by omega) fun i c v hc hv => ?_
    have hi := (List.getElem?_eq_some_iff.1 hc).1
    have hvi : vs[i]? = some vs[i] := List.getElem?_eq_getElem (by omega)
    exact ih i _ c hvi hc (hr2 i _ v hvi hv)
  | tuple vs rs hl h ih =>
    intro u hu
    obtain ⟨us, rfl, hl2, hr2⟩ := hu.tuple_inv
    refine .tuple _ _ (by omega) fun i c v hc hv => ?_
    have hi := (List.getElem?_eq_some_iff.1 hc).1
    have hvi : vs[i]? = some vs[i] := List.getElem?_eq_getElem (by omega)
    exact ih i _ c hvi hc (hr2 i _ v hvi hv)
  | fn f vs rs hl h ih =>
    intro u hu
    cases hu with
    | rd h0 =>
      cases h0
      have : rs = [] := List.eq_nil_of_length_eq_zero (by simpa using hl.symm)
      subst this
      exact .rd (.fn f)
    | fn _ _ us hl2 hr2 =>
      refine .fn _ _ _ (by omega) fun i c v hc hv => ?_
      have hi := (List.getElem?_eq_some_iff.1 hc).1
      have hvi : vs[i]? = some vs[i] := List.getElem?_eq_getElem (by omega)
      exact ih i _ c hvi hc (hr2 i _ v hvi hv)

theorem RenNO.at {σ : Nat → Nat} {x y : AObj} {l : Loc} (h : RenNO σ x y) (s : SameAt σ τ H τ' H') (ho : ObjAt C w τ H l x) : ObjAt C w τ' H' l y := by
  cases h with
  | iter => exact ho
  | map kvs kvs1 hl hp =>
    obtain ⟨es, clock, a1, a2, a3⟩ := ho
    refine ⟨es, clock, a1, by omega, fun i e kv he hkv => ?_⟩
    have hi := (List.getElem?_eq_some_iff.1 hkv).1
    have h0 : kvs[i]? = some kvs[i] := List.getElem?_eq_getElem (by omega)
    obtain ⟨g1, g2⟩ := hp i _ kv h0 hkv
    obtain ⟨g3, g4⟩ := a3 i e _ he h0
    exact ⟨by rw [g1]; exact g3, g2.rel s g4⟩
  | arr esz es es1 hl hl2 hp =>
    obtain ⟨a1, cells, elem, fz, a2, a3, a4, a5⟩ := ho
    refine ⟨by omega, cells, elem, fz, a2, a3, a4, fun i j e1 d1 hi hd => ?_⟩
    have hil := (List.getElem?_eq_some_iff.1 hi).1
    have hjl := (List.getElem?_eq_some_iff.1 hd).1
    have he : es[i]? = some es[i] := List.getElem?_eq_getElem (by omega)
    have hl3 := hl2 i _ _ he hi
    have hd0 : es[i][j]? = some es[i][j] := List.getElem?_eq_getElem (by omega)
    obtain ⟨v, hx1, hx2⟩ := a5 i j _ _ he hd0
    exact ⟨v, hx1, (hp i j _ _ _ d1 he hi hd0 hd).rel s hx2⟩

end
def RenArgs (σ : Nat → Nat) : List AVal → List AVal → Prop
  | [], [] => True
  | a :: asv, b :: bs => RenN σ a b ∧ RenArgs σ asv bs
  | _, _ => False

theorem RenArgs.get {σ : Nat → Nat} : ∀ {asv bs : List AVal}, RenArgs σ asv bs → asv.length = bs.length ∧ ∀ (i : Nat) (a b : AVal), asv[i]? = some a → bs[i]? = some b → RenN σ a b
  | [], [], _ => ⟨rfl, fun i a b h => by simp at h⟩
  | a :: asv, b :: bs, h => by
    obtain ⟨h1, h2⟩ := RenArgs.get h.2
    refine ⟨by simp [h1], fun i x y hx hy => ?_⟩
    cases i with
    | zero => simp at hx hy; subst hx hy; exact h.1
    | succ i => exact h2 i x y (by simpa using hx) (by simpa using hy)
  | [], _ :: _, h => h.elim
  | _ :: _, [], h => h.elim

end Go.AW

namespace Go.AW
variable [Draws]
attribute [local irreducible] ACalls
set_option maxRecDepth 20000 in
theorem value_Decode_raw {P : Program} (F : F_value_Decode P) (ex : Bool) (l : List Int) (hby : Byt l) (hl : l.length ≤ 1000000) (rs0 : List V) (hdc : dcV l = some rs0) :
    ACalls P F.id [.list ex 1 (bC l)] [] (fun r H' => r = .tuple [.sl 0 rs0.length 0 rs0.length, .int .i64 0] ∧ H' = [.arr 3 (vC rs0)]) := by
  unfold dcV at hdc
  split at hdc
  · cases hdc
  rename_i hne
  have h0 : ¬ l.length = 0 := fun h => hne (.inl h)
  have h1 : ¬ 12 < l.getD 0 0 := fun h => hne (.inr h)
  obtain ⟨r0, hdec0⟩ : ∃ r0, decN (l.getD 0 0).toNat (l.drop 1) = some (rs0, r0) ∧ r0 = [] := by
    split at hdc
    · rename_i rs e; cases hdc; exact ⟨[], e, rfl⟩
    · cases hdc
  obtain ⟨hdec0, rfl⟩ := hdec0
  have hpos : 0 < l.length := by omega
  obtain ⟨n, hn, hd0, hnm⟩ := get_drop hpos
  rw [List.drop_zero] at hd0
  have hnb := hby n hnm
  have gn := getD_of hn
  rw [gn] at h1 hdec0
  refine acalls_of_body F.has ?_
  (conv => whnf); refine recF (by rw [bC_length]; exact decide_eq_false (by omega)) ?_
  (conv => whnf); refine And.intro (by decide) ?_
  (conv => whnf); refine recO (bC_at hn) ?_
  (conv => whnf); refine recF (by simp; omega) ?_
  (conv => whnf); refine And.intro (by decide) ?_
  (conv => whnf); refine recO (bC_at hn) ?_
  (conv => whnf); refine And.intro (⟨by decide, by rw [bC_length]; omega⟩) ?_
  conv => whnf
  refine ⟨fun m ρ H => ∃ (k : Nat) (rs : List V) (r : List Int) (x : Bool), k + m = n.toNat ∧ rs.length = k ∧ Byt r ∧ r.length ≤ l.length ∧
    (some (rs0, []) = match decN m r with | some (rs2, r2) => some (rs ++ rs2, r2) | none => none) ∧ H = [.arr 3 (vC rs)] ∧
    Sv 50 [(0, .list x 1 (bC r)), (5, .sl 0 k 0 k), (23, .int .i64 n), (24, .int .i64 k)] ρ, n.toNat, [(5, 3)], ?_, ?_⟩
  · refine ⟨0, [], l.drop 1, ex && true, by omega, rfl, hby.drop 1, by simp, ?_, by rfl, Sv.intro rfl ⟨?_, rfl, intEq (wrapI n (by omega) (by omega)), rfl, trivial⟩⟩
    · rw [hdec0]; rfl
    · show AVal.list (ex && true) 1 (((bC l).take (bC l).length).drop (Int.toNat 1)) = _
      rw [List.take_length, show Int.toNat 1 = 1 from rfl, bC_drop]
  rintro m ρ H ⟨k, rs, r, x, hk, hrs, hrb, hrl, hdec, rfl, d, rfl⟩
  (conv => whnf); refine recA (fun hlt => ?_) (fun hlt => ?_)
  · simp at hlt
    obtain ⟨m, rfl⟩ : ∃ j, m = j + 1 := ⟨m - 1, by omega⟩
    (conv => whnf); refine ACalls.use (value_decode_spec F.value_decode x r hrb (by omega) _) ?_
    have hu := decV_used r hrb
    rw [decN_succ] at hdec
    have hok : ¬ ((decV r).2 = 0 ∨ validB (decV r).1 = false) := fun hb => by rw [if_pos hb] at hdec; cases hdec
    rw [if_neg hok] at hdec
    simp only [not_or, Bool.not_eq_false] at hok
    (conv => whnf); refine recF (by simp; exact hok.1) ?_
    (conv => whnf); refine ACalls.use (value_Valid_spec F.value_Valid (decV r).1 _) ?_
    (conv => whnf); refine recF (by simp; exact hok.2) ?_
    (conv => whnf); refine recT (by simp [vC_length, hrs]) ?_
    (conv => whnf); refine And.intro (⟨roomMul (by simp; omega) (by omega), roomB_le (by simp; omega), rfl, by simp [vC_length, hrs]⟩) ?_
    (conv => whnf); refine And.intro (⟨hu.1, by rw [bC_length]; omega⟩) ?_
    conv => whnf
    refine And.intro (by (conv => whnf); refine And.intro ⟨hu.1, by rw [bC_length]; omega⟩ ?_; (conv => whnf)) ?_
    conv => whnf
    have hkey : vC (rs ++ [(decV r).1]) = vC rs ++ [valC (decV r).1] := by rw [vC_append]; rfl
    have hlen : (vC rs ++ [valC (decV r).1]).length = k + 1 := by simp [vC_length, hrs]
    refine ⟨m, by omega, Gp.one 0 3 (vC (rs ++ [(decV r).1])) ?_ (pureEs_vC _) rfl ?_ fun ρ1 h => ⟨k + 1, rs ++ [(decV r).1], r.drop (decV r).2.toNat, x && true, by omega, by simp [hrs], hrb.drop _, by simp; omega, ?_, rfl, h⟩⟩
    · rw [hkey]; rfl
    · refine ⟨pubEq ?_ rfl, pubSl (k := 0) rfl rfl hlen hlen, .closed _ rfl, pub_int (wrapI ((k : Int) + 1) (by omega) (by omega)), trivial⟩
      show AVal.list (x && true) 1 (((bC r).take (bC r).length).drop (decV r).2.toNat) = _
      rw [List.take_length, bC_drop]
    · rw [hdec]
      cases decN m (r.drop (decV r).2.toNat) with
      | none => rfl
      | some p => simp
  · simp at hlt
    have : m = 0 := by omega
    subst this
    simp only [decN, List.append_nil, Option.some.injEq, Prod.mk.injEq] at hdec
    obtain ⟨rfl, rfl⟩ := hdec
    conv => whnf
    subst hrs
    exact ⟨rfl, rfl⟩

theorem value_Decode_own {P : Program} (F : F_value_Decode P) (ex : Bool) (l : List Int) (hby : Byt l) (hl : l.length ≤ 1000000) (rs0 : List V) (hdc : dcV l = some rs0) (H : List AObj) :
    ACalls P F.id [.list ex 1 (bC l)] H (fun r H' => r = .tuple [.sl H.length rs0.length 0 rs0.length, .int .i64 0] ∧ H' = H ++ [.arr 3 (vC rs0)]) := by
  refine (value_Decode_raw F ex l hby hl rs0 hdc).lift rfl ?_
  rintro r H1 ⟨rfl, rfl⟩
  refine ⟨[0], _, [.arr 3 (vC rs0)], .tuple _ [.sl H.length rs0.length 0 rs0.length, .int .i64 0] rfl fun i v r hv hr => ?_, by simp, rfl, fun k id h => ?_, rfl, rfl⟩
  · rcases i with _ | _ | i
    · cases hv; cases hr; exact .keep 0 _ _ _ 0 rfl
    · cases hv; cases hr; exact .closed _ rfl
    · simp at hv
  · rcases k with _ | k
    · cases h; exact ⟨rfl, 3, _, rfl, pureEs_vC _⟩
    · simp at h

set_option maxRecDepth 20000 in
theorem record_ownr {P : Program} (F : F_batch_reader_record P) (s : RdS) (hby : Byt s.rest) (hl : s.rest.length ≤ 1000000) (hok : (dcV (rqL s)).isSome = true) :
    ACalls P F.id [.ptr 0 1 0 0] [rdO s] (fun r H' => r = .agg [.bool (recV s).del, .int .i64 (recV s).seq, .sl 1 (recV s).row.length 0 (recV s).row.length] ∧ H' = [rdO (recS s), .arr 3 (vC (recV s).row)]) := by
  have b1 : Byt (tkS 1 s).rest := tkS_byt hby
  have b2 : Byt (tkS 4 (tkS 1 s)).rest := tkS_byt b1
  have b3 : Byt (rq3 s).rest := tkS_byt b2
  have hL : (rqL s).length ≤ 1000000 := Nat.le_trans (tkL_len2 _ _) (Nat.le_trans (Nat.le_trans (tkS_len _ _) (Nat.le_trans (tkS_len _ _) (tkS_len _ _))) hl)
  obtain ⟨rs, hc⟩ : ∃ rs, dcV (rqL s) = some rs := Option.isSome_iff_exists.1 hok
  have e1 : (recV s).row = rs := by rw [recV, hc]; rfl
  have e2 : recS s = rq4 s := by rw [recS, hc]
  rw [e1, e2]
  refine ACalls.gp (Q0 := fun r H' => r = .agg [.bool (recV s).del, .int .i64 (recV s).seq, .sl 3 rs.length 0 rs.length] ∧ ∃ x y, H' = [rdO (rq4 s), x, y, .arr 3 (vC rs)]) ?_ (by
    rintro r H' ⟨rfl, x, y, rfl⟩
    refine Gp.res [0, 3] (by simp) (keepB_one rfl rfl rfl) (H1 := [rdO (rq4 s), .arr 3 (vC rs)]) ⟨⟨_, rfl, .same _ _ rfl⟩, ⟨_, rfl, .same _ _ (pureEs_vC _)⟩, trivial⟩ (r' := .agg [.bool (recV s).del, .int .i64 (recV s).seq, .sl 1 rs.length 0 rs.length]) (.agg _ _ rfl fun i v r hv hr => ?_) ⟨_, rfl, rfl, rfl⟩
    rcases i with _ | _ | _ | i
    · cases hv; cases hr; exact .closed _ rfl
    · cases hv; cases hr; exact .closed _ rfl
    · cases hv; cases hr; exact .keep 3 _ _ _ 1 rfl
    · simp at hv)
  refine acalls_of_body F.has ?_
  (conv => whnf); refine ACalls.mono (rnumber_spec F.batch_reader_number 1 (by omega) (by omega) s hby _ 0 rfl) ?_
  rintro r H' ⟨rfl, rfl⟩
  (conv => whnf); refine ACalls.mono (rnumber_spec F.batch_reader_number 4 (by omega) (by omega) (tkS 1 s) b1 _ 0 rfl) ?_
  rintro r H' ⟨rfl, rfl⟩
  (conv => whnf); refine ACalls.mono (rnumber_spec F.batch_reader_number 2 (by omega) (by omega) (tkS 4 (tkS 1 s)) b2 _ 0 rfl) ?_
  rintro r H' ⟨rfl, rfl⟩
  (conv => whnf); refine ACalls.mono (take_spec F.batch_reader_take _ (nbV_bound (by omega) (by omega) b2).1 (rq3 s) _ 0 rfl) ?_
  rintro r H' ⟨rfl, rfl⟩
  (conv => whnf); refine ACalls.mono (value_Decode_own F.value_Decode false (rqL s) (tkL_byt b3) hL rs hc _) ?_
  rintro r H' ⟨rfl, rfl⟩
  conv => whnf
  exact ⟨rfl, _, _, rfl⟩

end Go.AW

namespace Go.AW
variable [Draws]
attribute [local irreducible] ACalls
theorem record_own {P : Program} (F : F_batch_reader_record P) (s : RdS) (hby : Byt s.rest) (hl : s.rest.length ≤ 1000000) (hok : (dcV (rqL s)).isSome = true) (H : List AObj) (id : Nat) (ho : H[id]? = some (rdO s)) :
    ACalls P F.id [.ptr id 1 0 0] H (fun r H' => r = .agg [.bool (recV s).del, .int .i64 (recV s).seq, .sl H.length (recV s).row.length 0 (recV s).row.length] ∧ H' = H.set id (rdO (recS s)) ++ [.arr 3 (vC (recV s).row)]) := by
  refine (record_ownr F s hby hl hok).frG ho rfl rfl (fun x hx => ?_) (.pt trivial) (.agg _ _ rfl fun i v r hv hr => ?_)
  · rw [List.mem_singleton.1 hx]
    exact pureEs_vC _
  · rcases i with _ | _ | _ | i
    · cases hv; cases hr; exact .closed _ rfl
    · cases hv; cases hr; exact .closed _ rfl
    · cases hv; cases hr; exact .sl 1 _ _ _
    · simp at hv

theorem flP_bad : ∀ (k : Nat) (s : RdS) (L : List Rec), s.bad = true → (flP k s L).2 = s
  | 0, _, _, _ => rfl
  | k + 1, s, L, h => by rw [flP, if_pos h]

def oRec (b : Nat) (r : Rec) : List AVal := [.bool r.del, .int .i64 r.seq, .sl b r.row.length 0 r.row.length]

def oC : Nat → List Rec → List (List AVal)
  | _, [] => []
  | b, r :: L => oRec b r :: oC (b + 1) L

def rowO (L : List Rec) : List AObj := L.map fun r => .arr 3 (vC r.row)

theorem oC_length : ∀ (b : Nat) (L : List Rec), (oC b L).length = L.length
  | _, [] => rfl
  | b, r :: L => by rw [oC, List.length_cons, oC_length, List.length_cons]

theorem oC_snoc : ∀ (b : Nat) (L : List Rec) (r : Rec), oC b (L ++ [r]) = oC b L ++ [oRec (b + L.length) r]
  | b, [], r => rfl
  | b, x :: L, r => by
    rw [List.cons_append, oC, oC_snoc (b + 1) L r, oC, List.cons_append, List.length_cons]
    congr 2
    rw [show b + 1 + L.length = b + (L.length + 1) by omega]

theorem rowO_length (L : List Rec) : (rowO L).length = L.length := by simp [rowO]

theorem rowO_snoc (L : List Rec) (r : Rec) : rowO (L ++ [r]) = rowO L ++ [.arr 3 (vC r.row)] := by simp [rowO]

def recHo (s0 s : RdS) (res : AObj) (L : List Rec) (c : AVal) (H : List AObj) : Prop :=
  (L = [] ∧ c = .nil ∧ H = [rdO s, res, fobj s0 .nil]) ∨ (L ≠ [] ∧ c = .sl 3 L.length 0 L.length ∧ H = rdO s :: res :: fobj s0 (.sl 3 L.length 0 L.length) :: .arr 3 (oC 4 L) :: rowO L)

end Go.AW

namespace Go.AW
variable [Draws]
attribute [local irreducible] ACalls
set_option maxRecDepth 20000 in
theorem batch_Encode_own0 {P : Program} (F : F_batch_Encode P) (f : Fil) (hi : f.id.size ≤ 50000) (hs : f.src.size ≤ 50000) (h0 : encFE f = 0) :
    ACalls P F.id [.agg (fV f)] [] (fun r H' => r = .tuple [.sl 0 (filB f).length 0 (filB f).length, .int .i64 0] ∧ H' = [.arr 1 (bC (filB f))]) := by
  refine ACalls.gp (Q0 := fun r H' => r = .tuple [.sl 1 (filB f).length 0 (filB f).length, .int .i64 0] ∧ H' = [.arr 3 [fV f], .arr 1 (bC (filB f))]) (acalls_of_body F.has ?_) (by
    rintro r H' ⟨rfl, rfl⟩
    refine Gp.res [1] (by simp) (fun k n hk => by simp at hk) (H1 := [.arr 1 (bC (filB f))]) ⟨⟨_, rfl, .same _ _ (pureEs_bC _)⟩, trivial⟩ (r' := .tuple [.sl 0 (filB f).length 0 (filB f).length, .int .i64 0]) (.tuple _ _ rfl fun i v r hv hr => ?_) ⟨_, rfl, rfl, rfl⟩
    rcases i with _ | _ | i
    · cases hv; cases hr; exact .keep 1 _ _ _ 0 rfl
    · cases hv; cases hr; exact .closed _ rfl
    · simp at hv)
  (conv => whnf); refine ACalls.use (batch_Validate_spec F.batch_Validate f (by omega) _) ?_
  (conv => whnf); refine recA (fun h1 => ?_) (fun h1 => ?_)
  · replace h1 : (!(filE f == 0)) = true := h1
    simp at h1
    have hE : encFE f = filE f := by rw [encFE, if_pos h1]
    rw [h0] at hE; exact absurd hE.symm h1
  replace h1 : (!(filE f == 0)) = false := h1
  simp at h1
  have hrec : recsE f.recs = 0 ∧ f.recs.length ≤ 1024 := by
    unfold filE at h1
    split at h1
    · cases h1
    · split at h1
      · cases h1
      · exact ⟨h1, by omega⟩
  have hE : encFE f = if 65536 < (filB f).length then 2 else 0 := by rw [encFE, if_neg (by simp [h1])]
  (conv => whnf); refine ⟨_, _, putText_spec F.batch_putText [.arr 3 [fV f], .arr 1 (bC [87, 72, 70, 49])] 1 (bC [87, 72, 70, 49]) f.id rfl (by simp [bC]) (by omega), ?_⟩
  (conv => whnf); refine ⟨_, _, putText_spec F.batch_putText [.arr 3 [fV f], .arr 1 (bC [87, 72, 70, 49] ++ bC (u8 f.id.size :: bytesI f.id))] 1 (bC [87, 72, 70, 49] ++ bC (u8 f.id.size :: bytesI f.id)) f.src rfl (by simp [bC, bytesI_length]; omega) (by omega), ?_⟩
  repeat ((conv => whnf); refine And.intro rfl ?_)
  have hhead : bC (headB f) = bC [87, 72, 70, 49] ++ bC (u8 f.id.size :: bytesI f.id) ++ bC (u8 f.src.size :: bytesI f.src) ++ bC (w2 (rC f.recs).length) := by
    rw [rC_length, w2_eq]; simp [headB, bC]
  have hhl : (headB f).length ≤ 100100 := by simp [headB, bytesI_length, beN_length]; omega
  (conv => whnf); refine ACalls.mono (put2_spec F.batch_put2 [.arr 3 [fV f], .arr 1 (bC [87, 72, 70, 49] ++ bC (u8 f.id.size :: bytesI f.id) ++ bC (u8 f.src.size :: bytesI f.src))] 1 (bC [87, 72, 70, 49] ++ bC (u8 f.id.size :: bytesI f.id) ++ bC (u8 f.src.size :: bytesI f.src)) (rC f.recs).length rfl (by simp [bC, bytesI_length]; omega)) ?_
  rintro r H' ⟨rfl, rfl⟩
  rw [← hhead]
  have hbl : ∀ k, (headB f ++ (f.recs.take k).flatMap recB).length ≤ 980000 := fun k => by
    have h1 : ∀ l : List Rec, recsE l = 0 → recsE (l.take k) = 0 := by
      intro l
      induction l generalizing k with
      | nil => intro _; simp [recsE]
      | cons r l ih =>
        intro h
        cases k with
        | zero => simp [recsE]
        | succ k =>
          rw [recsE] at h
          split at h
          · rename_i hx; exact absurd h hx
          · rename_i hx
            rw [List.take_succ_cons, recsE, if_neg hx]
            exact ih k h
    have h2 := recsB_len (h1 _ hrec.1)
    have h3 : (f.recs.take k).length ≤ f.recs.length := by rw [List.length_take]; omega
    rw [List.length_append]; omega
  conv => whnf
  refine ⟨fun m ρ H1 => ∃ k : Nat, k + m = f.recs.length ∧ H1 = [.arr 3 [fV f], .arr 1 (bC (headB f ++ (f.recs.take k).flatMap recB))] ∧
    Sv 45 [(5, .sl 1 (headB f ++ (f.recs.take k).flatMap recB).length 0 (headB f ++ (f.recs.take k).flatMap recB).length), (27, .list false 3 (rC f.recs)), (28, .int .i64 f.recs.length), (29, .int .i64 k)] ρ, f.recs.length, [], ?_, ?_⟩
  · refine ⟨0, by omega, by simp, Sv.intro rfl ⟨slCast (by rw [bC_length]; simp), rfl, intEq (by rw [rC_length]), rfl, trivial⟩⟩
  rintro m ρ H1 ⟨k, hk, rfl, d, rfl⟩
  (conv => whnf); refine recA (fun hlt => ?_) (fun hlt => ?_)
  · simp at hlt
    obtain ⟨x, hx, hd, hxm⟩ := get_drop hlt
    have htk : headB f ++ (f.recs.take (k + 1)).flatMap recB = headB f ++ (f.recs.take k).flatMap recB ++ recB x := by rw [List.take_add_one, hx]; simp
    (conv => whnf); refine And.intro (by omega) ?_
    (conv => whnf); refine recO (rC_at hx) ?_
    (conv => whnf); refine ACalls.mono (putRecord_spec F.batch_putRecord _ _ (headB f ++ (f.recs.take k).flatMap recB) x (hbl k) (recsE_zero hrec.1 x hxm)) ?_
    rintro q H' ⟨rfl, rfl⟩
    rw [← htk]
    conv => whnf
    refine ⟨m - 1, by omega, Gp.first 2 [.arr 3 [fV f], .arr 1 (bC (headB f ++ (f.recs.take (k + 1)).flatMap recB))] rfl rfl (by simp [pureO, pureEs_bC]; simp [pureEs, fV, AVal.isPure]) rfl ?_ fun ρ1 h => ⟨k + 1, by omega, rfl, h⟩⟩
    exact ⟨.keep 1 _ _ _ 1 rfl, .closed _ rfl, .closed _ rfl, pub_int (wrapI ((k : Int) + 1) (by omega) (by omega)), trivial⟩
  simp at hlt
  have hkl : f.recs.take k = f.recs := List.take_of_length_le hlt
  have hb9 := hbl k
  rw [hkl] at hb9 ⊢
  rw [show headB f ++ f.recs.flatMap recB = bodyB f from rfl] at hb9 ⊢
  (conv => whnf); refine ACalls.use (Checksum_own F.batch_Checksum (bodyB f) (by omega) _ 1 rfl) ?_
  have hp := put4_spec F.batch_put4 [.arr 3 [fV f], .arr 1 (bC (bodyB f))] 1 (bC (bodyB f)) (fnv (bodyB f)) rfl (by rw [bC_length]; omega)
  rw [p4_eq _ (fnv_bound _).1 (fnv_bound _).2, ← bC_append, show bodyB f ++ beN 4 (fnv (bodyB f)) = filB f from rfl, bC_length, bC_length] at hp
  (conv => whnf); refine ACalls.mono (hp) ?_
  rintro q H' ⟨rfl, rfl⟩
  (conv => whnf); refine recT (by rw [bC_length]; exact Nat.beq_refl _) ?_
  (conv => whnf); refine recA (fun h2 => ?_) (fun h2 => ?_)
  · simp at h2
    have hE2 : encFE f = 2 := by rw [hE, if_pos (by omega)]
    rw [h0] at hE2; cases hE2
  · simp at h2
    have hE2 : encFE f = 0 := by rw [hE, if_neg (by omega)]
    conv => whnf
    exact ⟨rfl, rfl⟩

theorem oC_get : ∀ (b : Nat) (L : List Rec) (i : Nat) (r : Rec), L[i]? = some r → (oC b L)[i]? = some (oRec (b + i) r)
  | b, x :: L, 0, r, h => by cases h; rfl
  | b, x :: L, i + 1, r, h => by
    have := oC_get (b + 1) L i r (by simpa using h)
    rw [oC, List.getElem?_cons_succ, this, show b + 1 + i = b + (i + 1) by omega]

theorem own_pub {H : List AObj} {f : Fil} {rid b n : Nat} (hn : n = f.recs.length) (ho : H[rid]? = some (.arr 3 (oC b f.recs))) (hrow : ∀ (i : Nat) (r : Rec), f.recs[i]? = some r → H[b + i]? = some (.arr 3 (vC r.row))) :
    Pub H 0 [] (.agg [.str f.id, .str f.src, .sl rid n 0 n]) (.agg (fV f)) := by
  subst hn
  have key : Pub H 0 [] (.sl rid f.recs.length 0 f.recs.length) (.list false 3 (((rC f.recs).drop 0).take f.recs.length)) := by
    have both : ∀ (i : Nat) (e e1 : List AVal), (oC b f.recs)[i]? = some e → (rC f.recs)[i]? = some e1 → ∃ r, f.recs[i]? = some r ∧ e = oRec (b + i) r ∧ e1 = recC r := fun i e e1 he he1 => by
      have hi := (List.getElem?_eq_some_iff.1 he).1
      rw [oC_length] at hi
      have hr : f.recs[i]? = some f.recs[i] := List.getElem?_eq_getElem hi
      rw [oC_get b _ i _ hr] at he
      rw [rC_at hr] at he1
      exact ⟨_, hr, (Option.some.inj he).symm, (Option.some.inj he1).symm⟩
    refine .frzN rid _ 0 _ 3 (oC b f.recs) (rC f.recs) ho (by rw [oC_length]) (by simp) (by rw [rC_length, oC_length]) (fun i e e1 he he1 => ?_) (fun i j e1 d1 he1 hd1 => ?_) (fun i j e e1 d d1 he he1 hd hd1 => ?_)
    · obtain ⟨r, _, rfl, rfl⟩ := both i e e1 he he1; rfl
    · exact pureEs_get (pureEs_rC f.recs) he1 hd1
    · obtain ⟨r, hr, rfl, rfl⟩ := both i e e1 he he1
      rcases j with _ | _ | _ | j
      · cases hd; cases hd1; exact .closed _ rfl
      · cases hd; cases hd1; exact .closed _ rfl
      · cases hd; cases hd1
        exact pubFI (by simp) (hrow i r hr) (by rw [vC_length]) (by rw [vC_length]) (pureEs_vC _)
      · simp [oRec] at hd
  rw [List.drop_zero, List.take_of_length_le (by rw [rC_length]; exact Nat.le_refl _)] at key
  refine .agg _ _ rfl fun i v r hv hr => ?_
  rcases i with _ | _ | _ | i
  · cases hv; cases hr; exact .closed _ rfl
  · cases hv; cases hr; exact .closed _ rfl
  · cases hv; cases hr; exact key
  · simp at hv

theorem batch_Encode_lent {P : Program} (F : F_batch_Encode P) (f : Fil) (hi : f.id.size ≤ 50000) (hs : f.src.size ≤ 50000) (h0 : encFE f = 0) (H : List AObj) (a : AVal) (hp : Pub H 0 [] a (.agg (fV f))) :
    ACalls P F.id [a] H (fun r H' => r = .tuple [.sl H.length (filB f).length 0 (filB f).length, .int .i64 0] ∧ H' = H ++ [.arr 1 (bC (filB f))]) := by
  refine (batch_Encode_own0 F f hi hs h0).borG rfl (fun i x y hx hy => ?_) (.tuple _ _ rfl fun i v r hv hr => ?_) (fun o ho => ?_)
  · rcases i with _ | i
    · cases hx; cases hy; exact hp
    · simp at hx
  · rcases i with _ | _ | i
    · cases hv; cases hr; exact .sl 0 _ _ _
    · cases hv; cases hr; exact .sc _ rfl
    · simp at hv
  · rw [List.mem_singleton.1 ho]
    intro e he d hd
    rw [bC] at he
    obtain ⟨x, _, rfl⟩ := List.mem_map.1 he
    rw [List.mem_singleton.1 hd]; rfl

end Go.AW

namespace Go.AW
variable [Draws]
theorem gpO_mk2 {H : List AObj} {ids : List Nat} : ∀ {is : List Nat} {r : List AObj}, is.length = r.length → (∀ (j id : Nat) (o1 : AObj), is[j]? = some id → r[j]? = some o1 → ∃ o, H[id]? = some o ∧ ObP H ids o o1) → gpO H ids is r
  | [], [], _, _ => trivial
  | [], _ :: _, h, _ => by simp at h
  | _ :: _, [], h, _ => by simp at h
  | id :: is, o1 :: r, hl, h => ⟨h 0 id o1 rfl rfl, gpO_mk2 (by simpa using hl) fun j id o1 h1 h2 => h (j + 1) id o1 (by simpa using h1) (by simpa using h2)⟩

theorem oC_inv {b : Nat} {L : List Rec} {i : Nat} {e : List AVal} (h : (oC b L)[i]? = some e) : ∃ r, L[i]? = some r ∧ e = oRec (b + i) r := by
  have hi := (List.getElem?_eq_some_iff.1 h).1
  rw [oC_length] at hi
  have hr : L[i]? = some L[i] := List.getElem?_eq_getElem hi
  rw [oC_get b _ i _ hr] at h
  exact ⟨_, hr, (Option.some.inj h).symm⟩

theorem obOC {H : List AObj} {ids : List Nat} (b b' : Nat) (L : List Rec) (h : ∀ j, j < L.length → ids[b' + j]? = some (b + j)) : ObP H ids (.arr 3 (oC b L)) (.arr 3 (oC b' L)) := by
  refine .map 3 _ _ (by rw [oC_length, oC_length]) (fun i e e1 h1 h2 => ?_) fun i j e e1 d d1 h1 h2 h3 h4 => ?_
  · obtain ⟨x, _, rfl⟩ := oC_inv h1
    obtain ⟨y, _, rfl⟩ := oC_inv h2
    rfl
  · obtain ⟨x, hx, rfl⟩ := oC_inv h1
    obtain ⟨y, hy, rfl⟩ := oC_inv h2
    rw [hx] at hy; cases hy
    have hi := (List.getElem?_eq_some_iff.1 hx).1
    rcases j with _ | _ | _ | j
    · cases h3; cases h4; exact ⟨.closed _ rfl, rfl⟩
    · cases h3; cases h4; exact ⟨.closed _ rfl, rfl⟩
    · cases h3; cases h4; exact ⟨pubSl (h i hi) (Nat.zero_add _).symm rfl rfl, rfl⟩
    · simp [oRec] at h3

theorem rowO_get {L : List Rec} {i : Nat} {o : AObj} (h : (rowO L)[i]? = some o) : ∃ r, o = .arr 3 (vC r) := by
  rw [rowO, List.getElem?_map] at h
  obtain ⟨r, _, rfl⟩ := Option.map_eq_some_iff.1 h
  exact ⟨_, rfl⟩

def fileHo (s0 s : RdS) (L : List Rec) : List AObj := rdO s :: resO :: fobj s0 (.sl 3 L.length 0 L.length) :: .arr 3 (oC 4 L) :: rowO L

theorem fileHo_length (s0 s : RdS) (L : List Rec) : (fileHo s0 s L).length = 4 + L.length := by simp [fileHo, rowO_length]; omega

theorem gpo_file (s0 s : RdS) (L : List Rec) (X : List AObj) : gpO (fileHo s0 s L ++ X) (List.range (4 + L.length)) (List.range (4 + L.length)) (fileHo s0 s L) := by
  refine gpO_mk2 (by rw [List.length_range, fileHo_length]) fun j id o1 h1 h2 => ?_
  have hj := (List.getElem?_eq_some_iff.1 h2).1
  have hj2 := hj
  rw [fileHo_length] at hj2
  rw [List.getElem?_range hj2] at h1
  cases h1
  have hin : ∀ k, k < 4 + L.length → (List.range (4 + L.length))[k]? = some k := fun k hk => List.getElem?_range hk
  refine ⟨o1, by rw [List.getElem?_append_left hj]; exact h2, ?_⟩
  match j, h2, hj2 with
  | 0, h2, _ => cases h2; exact .same _ _ rfl
  | 1, h2, _ => cases h2; exact .same _ _ rfl
  | 2, h2, _ => cases h2; exact ob3 (pubSl (hin 3 (by omega)) (Nat.zero_add _).symm rfl rfl) rfl
  | 3, h2, _ => cases h2; exact obOC 4 4 L fun j hj => hin _ (by omega)
  | j + 4, h2, _ =>
    obtain ⟨r, rfl⟩ := rowO_get (L := L) (i := j) h2
    exact .same _ _ (pureEs_vC _)

theorem gpo_file1 (s0 s : RdS) (r : Rec) (x : AObj) : gpO [rdO s, resO, fobj s0 (.sl 5 1 0 1), .arr 3 (vC r.row), x, .arr 3 [oRec 3 r]] [0, 1, 2, 5, 3] [0, 1, 2, 5, 3] (fileHo s0 s [r]) := by
  refine ⟨⟨_, rfl, .same _ _ rfl⟩, ⟨_, rfl, .same _ _ rfl⟩, ⟨_, rfl, ob3 (pubSl (k := 3) rfl rfl rfl rfl) rfl⟩, ⟨_, rfl, ?_⟩, ⟨_, rfl, .same _ _ (pureEs_vC _)⟩, trivial⟩
  exact obOC 3 4 [r] fun j hj => by
    have : j = 0 := by simpa using hj
    subst this; rfl

end Go.AW

namespace Go.AW
def c_warehouseref24_CopyFile : AFunc := ⟨37, [.cell true 3 2], (.seq (.region [ ⟨(some 1), .box (.t 0), none⟩, ⟨(some 2), .alloc [(.str (bs [])), (.str (bs [])), .nil], none⟩]) (.seq (.region [ ⟨(some 6), .fieldAddr 0 (.t 1), none⟩, ⟨(some 7), .load false 1 (.t 6), none⟩, ⟨(some 8), .fieldAddr 1 (.t 1), none⟩, ⟨(some 9), .load false 1 (.t 8), none⟩, ⟨(some 10), .build [(.str (bs [])), (.str (bs [])), .nil] [(0, 1, (.t 7)), (1, 1, (.t 9))], none⟩, ⟨(some 3), .alloc [(.str (bs [])), (.str (bs [])), .nil], none⟩, ⟨none, .store 3 (.t 3) (.t 10), none⟩]) (.seq (.seq (.region [ ⟨(some 4), .move (.c (.int .i64 0)), none⟩]) (.block 0 (.loop (.seq (.seq (.region [ ⟨(some 11), .move (.t 4), none⟩, ⟨(some 12), .fieldAddr 2 (.t 1), none⟩, ⟨(some 13), .load false 1 (.t 12), none⟩, ⟨(some 14), .len (.t 13), none⟩, ⟨(some 15), .bin .lss (.t 11) (.t 14), none⟩]) (.cond (.t 15) .skip (.exit 0))) (.seq (.block 1 (.seq (.region [ ⟨(some 18), .fieldAddr 2 (.t 1), none⟩, ⟨(some 19), .load false 1 (.t 18), none⟩, ⟨(some 20), .move (.t 4), none⟩, ⟨(some 21), .indexAddr 3 (.t 19) (.t 20), none⟩, ⟨(some 22), .load true 3 (.t 21), none⟩, ⟨(some 5), .alloc [(.bool false), (.int .i64 0), .nil], none⟩, ⟨none, .store 3 (.t 5) (.t 22), none⟩]) (.draw [ (⟨(some 23), .fieldAddr 2 (.t 3), none⟩, []), (⟨(some 24), .load false 1 (.t 23), none⟩, [5, 3]), (⟨(some 25), .fieldAddr 0 (.t 5), none⟩, []), (⟨(some 26), .load false 1 (.t 25), none⟩, [5]), (⟨(some 27), .fieldAddr 1 (.t 5), none⟩, []), (⟨(some 28), .load false 1 (.t 27), none⟩, [5]), (⟨(some 29), .fieldAddr 2 (.t 5), none⟩, []), (⟨(some 30), .load false 1 (.t 29), none⟩, []), (⟨(some 31), .append 3 32 [(.int .i64 0), (.int .i64 0), (.str (bs []))] (.c .nil) (.t 30), none⟩, []), (⟨(some 32), .build [(.bool false), (.int .i64 0), .nil] [(0, 1, (.t 26)), (1, 1, (.t 28)), (2, 1, (.t 31))], none⟩, []), (⟨(some 33), .buildSliceO 3 1 [(.bool false), (.int .i64 0), .nil] [(0, (.t 32))], none⟩, []), (⟨(some 34), .append 3 40 [(.bool false), (.int .i64 0), .nil] (.t 24) (.t 33), none⟩, []), (⟨(some 35), .fieldAddr 2 (.t 3), none⟩, []), (⟨none, .store 1 (.t 35) (.t 34), none⟩, [])]))) (.region [ ⟨(some 16), .move (.t 4), none⟩, ⟨(some 17), .bin .add (.t 16) (.c (.int .i64 1)), none⟩, ⟨(some 4), .move (.t 17), none⟩])))))) (.seq (.region [ ⟨(some 36), .load true 3 (.t 3), none⟩, ⟨none, .store 3 (.t 2) (.t 36), none⟩]) .ret))))⟩

structure F_warehouseref24_CopyFile (P : Program) where
  id : FuncId
  has : Has P id [33] c_warehouseref24_CopyFile

def c_batch_reader_fileB (f_batch_reader_take : FuncId) (f_batch_reader_text : FuncId) (f_batch_reader_number : FuncId) (f_batch_reader_record : FuncId) : AFunc := ⟨39, [.cell true 3 2], (.seq (.region [ ⟨(some 2), .alloc [(.str (bs [])), (.str (bs [])), .nil], none⟩]) (.seq (.seq (.region [ ⟨(some 5), .move (.t 0), none⟩, ⟨(some 6), .call f_batch_reader_take [(.t 5), (.c (.int .i64 4))], none⟩, ⟨(some 7), .convBS (.t 6), none⟩, ⟨(some 8), .bin .neq (.t 7) (.c (.str (bs [87, 72, 70, 49]))), none⟩]) (.cond (.t 8) (.region [ ⟨(some 9), .move (.t 0), none⟩, ⟨(some 10), .nop (.t 9), none⟩, ⟨(some 11), .fieldAddr 1 (.t 10), none⟩, ⟨none, .store 1 (.t 11) (.c (.bool true)), none⟩]) .skip)) (.seq (.region [ ⟨(some 12), .move (.t 0), none⟩, ⟨(some 13), .call f_batch_reader_text [(.t 12)], none⟩, ⟨(some 14), .build [(.str (bs [])), (.str (bs [])), .nil] [(0, 1, (.t 13))], none⟩, ⟨(some 3), .alloc [(.str (bs [])), (.str (bs [])), .nil], none⟩, ⟨none, .store 3 (.t 3) (.t 14), none⟩]) (.seq (.region [ ⟨(some 15), .move (.t 0), none⟩, ⟨(some 16), .call f_batch_reader_text [(.t 15)], none⟩, ⟨(some 17), .fieldAddr 1 (.t 3), none⟩, ⟨none, .store 1 (.t 17) (.t 16), none⟩]) (.seq (.seq (.region [ ⟨(some 18), .move (.t 0), none⟩, ⟨(some 19), .call f_batch_reader_number [(.t 18), (.c (.int .i64 2))], none⟩, ⟨(some 4), .move (.t 19), none⟩]) (.block 0 (.loop (.seq (.seq (.region [ ⟨(some 20), .move (.t 4), none⟩, ⟨(some 21), .bin .gtr (.t 20) (.c (.int .i64 0)), none⟩, ⟨(some 22), .move (.t 21), none⟩, ⟨(some 23), .move (.t 0), some (some 22, true)⟩, ⟨(some 24), .nop (.t 23), some (some 22, true)⟩, ⟨(some 25), .fieldAddr 1 (.t 24), some (some 22, true)⟩, ⟨(some 26), .load false 1 (.t 25), some (some 22, true)⟩, ⟨(some 27), .un .not (.t 26), some (some 22, true)⟩, ⟨(some 28), .pick (.t 22) (.t 27) (.c (.bool false)), none⟩]) (.cond (.t 28) .skip (.exit 0))) (.seq (.block 1 (.draw [ (⟨(some 31), .fieldAddr 2 (.t 3), none⟩, []), (⟨(some 32), .load false 1 (.t 31), none⟩, [4, 3]), (⟨(some 33), .move (.t 0), none⟩, []), (⟨(some 34), .callE f_batch_reader_record [(.t 33)], none⟩, []), (⟨(some 35), .buildSliceO 3 1 [(.bool false), (.int .i64 0), .nil] [(0, (.t 34))], none⟩, []), (⟨(some 36), .append 3 40 [(.bool false), (.int .i64 0), .nil] (.t 32) (.t 35), none⟩, []), (⟨(some 37), .fieldAddr 2 (.t 3), none⟩, []), (⟨none, .store 1 (.t 37) (.t 36), none⟩, [])])) (.region [ ⟨(some 29), .move (.t 4), none⟩, ⟨(some 30), .bin .sub (.t 29) (.c (.int .i64 1)), none⟩, ⟨(some 4), .move (.t 30), none⟩])))))) (.seq (.region [ ⟨(some 38), .load true 3 (.t 3), none⟩, ⟨none, .store 3 (.t 2) (.t 38), none⟩]) .ret))))))⟩

structure F_batch_reader_fileB (P : Program) where
  id : FuncId
  batch_reader_take : F_batch_reader_take P
  batch_reader_text : F_batch_reader_text P
  batch_reader_number : F_batch_reader_number P
  batch_reader_record : F_batch_reader_record P
  has : Has P id [34, 35] (c_batch_reader_fileB batch_reader_take.id batch_reader_text.id batch_reader_number.id batch_reader_record.id)

def c_batch_DecodeB (f_batch_Checksum : FuncId) (f_batch_put4 : FuncId) (f_bytes_Equal : FuncId) (f_batch_reader_file : FuncId) (f_batch_Encode : FuncId) : AFunc := ⟨69, [.cell true 3 2, .tmp 3], (.seq (.region [ ⟨(some 2), .alloc [(.str (bs [])), (.str (bs [])), .nil], none⟩, ⟨(some 3), .move (.c (.int .i64 0)), none⟩]) (.seq (.seq (.region [ ⟨(some 8), .move (.t 0), none⟩, ⟨(some 9), .len (.t 8), none⟩, ⟨(some 10), .bin .gtr (.t 9) (.c (.int .i64 65536)), none⟩]) (.cond (.t 10) (.seq (.region [ ⟨(some 11), .build [(.str (bs [])), (.str (bs [])), .nil] [], none⟩, ⟨none, .store 3 (.t 2) (.t 11), none⟩, ⟨(some 3), .move (.c (.int .i64 2)), none⟩]) .ret) .skip)) (.seq (.seq (.draw [ (⟨(some 12), .move (.t 0), none⟩, []), (⟨(some 13), .len (.t 12), none⟩, []), (⟨(some 14), .bin .lss (.t 13) (.c (.int .i64 4)), none⟩, []), (⟨(some 15), .move (.t 14), none⟩, []), (⟨(some 16), .move (.t 0), some (some 15, false)⟩, []), (⟨(some 17), .move (.t 0), some (some 15, false)⟩, []), (⟨(some 18), .len (.t 17), some (some 15, false)⟩, []), (⟨(some 19), .bin .sub (.t 18) (.c (.int .i64 4)), some (some 15, false)⟩, []), (⟨(some 20), .slice 1 (.t 16) (some (.t 19)) none, some (some 15, false)⟩, []), (⟨(some 21), .move (.t 0), some (some 15, false)⟩, []), (⟨(some 22), .move (.t 0), some (some 15, false)⟩, []), (⟨(some 23), .len (.t 22), some (some 15, false)⟩, []), (⟨(some 24), .bin .sub (.t 23) (.c (.int .i64 4)), some (some 15, false)⟩, []), (⟨(some 25), .slice 1 (.t 21) none (some (.t 24)), some (some 15, false)⟩, []), (⟨(some 26), .call f_batch_Checksum [(.t 25)], some (some 15, false)⟩, []), (⟨(some 27), .call f_batch_put4 [(.c .nil), (.t 26)], some (some 15, false)⟩, []), (⟨(some 28), .call f_bytes_Equal [(.t 20), (.t 27)], some (some 15, false)⟩, []), (⟨(some 29), .un .not (.t 28), some (some 15, false)⟩, []), (⟨(some 30), .pick (.t 15) (.c (.bool true)) (.t 29), none⟩, [])]) (.cond (.t 30) (.seq (.region [ ⟨(some 31), .build [(.str (bs [])), (.str (bs [])), .nil] [], none⟩, ⟨none, .store 3 (.t 2) (.t 31), none⟩, ⟨(some 3), .move (.c (.int .i64 12)), none⟩]) .ret) .skip)) (.seq (.region [ ⟨(some 32), .move (.t 0), none⟩, ⟨(some 33), .move (.t 0), none⟩, ⟨(some 34), .len (.t 33), none⟩, ⟨(some 35), .bin .sub (.t 34) (.c (.int .i64 4)), none⟩, ⟨(some 36), .slice 1 (.t 32) none (some (.t 35)), none⟩, ⟨(some 37), .build [.nil, (.bool false)] [(0, 1, (.t 36))], none⟩, ⟨(some 38), .box (.t 37), none⟩, ⟨(some 4), .move (.t 38), none⟩]) (.seq (.region [ ⟨(some 39), .move (.t 4), none⟩, ⟨(some 40), .call f_batch_reader_file [(.t 39)], none⟩, ⟨(some 5), .alloc [(.str (bs [])), (.str (bs [])), .nil], none⟩, ⟨none, .store 3 (.t 5) (.t 40), none⟩]) (.seq (.seq (.region [ ⟨(some 41), .move (.t 4), none⟩, ⟨(some 42), .nop (.t 41), none⟩, ⟨(some 43), .fieldAddr 1 (.t 42), none⟩, ⟨(some 44), .load false 1 (.t 43), none⟩, ⟨(some 45), .move (.t 44), none⟩, ⟨(some 46), .move (.t 4), some (some 45, false)⟩, ⟨(some 47), .nop (.t 46), some (some 45, false)⟩, ⟨(some 48), .fieldAddr 0 (.t 47), some (some 45, false)⟩, ⟨(some 49), .load false 1 (.t 48), some (some 45, false)⟩, ⟨(some 50), .len (.t 49), some (some 45, false)⟩, ⟨(some 51), .bin .gtr (.t 50) (.c (.int .i64 0)), some (some 45, false)⟩, ⟨(some 52), .pick (.t 45) (.c (.bool true)) (.t 51), none⟩]) (.cond (.t 52) (.seq (.region [ ⟨(some 53), .build [(.str (bs [])), (.str (bs [])), .nil] [], none⟩, ⟨none, .store 3 (.t 2) (.t 53), none⟩, ⟨(some 3), .move (.c (.int .i64 11)), none⟩]) .ret) .skip)) (.seq (.seq (.region [ ⟨(some 55), .load true 3 (.t 5), none⟩, ⟨(some 56), .call f_batch_Encode [(.t 55)], none⟩, ⟨(some 54), .move (.t 56), none⟩, ⟨(some 57), .extract (.t 54) 0, none⟩, ⟨(some 58), .extract (.t 54) 1, none⟩, ⟨(some 6), .move (.t 57), none⟩, ⟨(some 7), .move (.t 58), none⟩]) (.seq (.region [ ⟨(some 59), .move (.t 7), none⟩, ⟨(some 60), .bin .neq (.t 59) (.c (.int .i64 0)), none⟩, ⟨(some 61), .move (.t 60), none⟩, ⟨(some 62), .move (.t 6), some (some 61, false)⟩, ⟨(some 63), .move (.t 0), some (some 61, false)⟩, ⟨(some 64), .call f_bytes_Equal [(.t 62), (.t 63)], some (some 61, false)⟩, ⟨(some 65), .un .not (.t 64), some (some 61, false)⟩, ⟨(some 66), .pick (.t 61) (.c (.bool true)) (.t 65), none⟩]) (.cond (.t 66) (.seq (.region [ ⟨(some 67), .build [(.str (bs [])), (.str (bs [])), .nil] [], none⟩, ⟨none, .store 3 (.t 2) (.t 67), none⟩, ⟨(some 3), .move (.c (.int .i64 11)), none⟩]) .ret) .skip))) (.seq (.region [ ⟨(some 68), .load true 3 (.t 5), none⟩, ⟨none, .store 3 (.t 2) (.t 68), none⟩, ⟨(some 3), .move (.c (.int .i64 0)), none⟩]) .ret))))))))⟩

structure F_batch_DecodeB (P : Program) where
  id : FuncId
  batch_Checksum : F_batch_Checksum P
  batch_put4 : F_batch_put4 P
  bytes_Equal : F_bytes_Equal P
  batch_reader_file : F_batch_reader_fileB P
  batch_Encode : F_batch_Encode P
  has : Has P id [] (c_batch_DecodeB batch_Checksum.id batch_put4.id bytes_Equal.id batch_reader_file.id batch_Encode.id)

def c_warehouselaw24_BatchOwns (f_warehouselaw24_known : FuncId) (f_warehouselaw24_file : FuncId) (f_warehouseref24_CopyFile : FuncId) (f_batch_Encode : FuncId) (f_warehouseref24_SameFile : FuncId) (f_batch_Decode : FuncId) : AFunc := ⟨110, [.tmp 4], (.seq (.region [ ⟨(some 4), .move (.c (.bool false)), none⟩]) (.seq (.seq (.region [ ⟨(some 18), .move (.t 0), none⟩, ⟨(some 19), .len (.t 18), none⟩, ⟨(some 20), .bin .gtr (.t 19) (.c (.int .i64 80)), none⟩]) (.cond (.t 20) (.seq (.region [ ⟨(some 21), .call f_warehouselaw24_known [], none⟩, ⟨(some 4), .move (.t 21), none⟩]) .ret) .skip)) (.seq (.region [ ⟨(some 22), .move (.t 0), none⟩, ⟨(some 23), .move (.t 1), none⟩, ⟨(some 24), .call f_warehouselaw24_file [(.t 22), (.t 23)], none⟩, ⟨(some 5), .alloc [(.str (bs [])), (.str (bs [])), .nil], none⟩, ⟨none, .store 3 (.t 5) (.t 24), none⟩]) (.seq (.region [ ⟨(some 25), .load true 3 (.t 5), none⟩, ⟨(some 26), .call f_warehouseref24_CopyFile [(.t 25)], none⟩, ⟨(some 6), .alloc [(.str (bs [])), (.str (bs [])), .nil], none⟩, ⟨none, .store 3 (.t 6) (.t 26), none⟩]) (.seq (.region [ ⟨(some 28), .load true 3 (.t 6), none⟩, ⟨(some 29), .call f_batch_Encode [(.t 28)], none⟩, ⟨(some 27), .move (.t 29), none⟩, ⟨(some 30), .extract (.t 27) 0, none⟩, ⟨(some 31), .extract (.t 27) 1, none⟩, ⟨(some 7), .move (.t 30), none⟩, ⟨(some 8), .move (.t 31), none⟩]) (.seq (.seq (.region [ ⟨(some 32), .move (.t 8), none⟩, ⟨(some 33), .bin .neq (.t 32) (.c (.int .i64 0)), none⟩, ⟨(some 34), .move (.t 33), none⟩, ⟨(some 35), .load true 3 (.t 6), some (some 34, false)⟩, ⟨(some 36), .load true 3 (.t 5), some (some 34, false)⟩, ⟨(some 37), .call f_warehouseref24_SameFile [(.t 35), (.t 36)], some (some 34, false)⟩, ⟨(some 38), .un .not (.t 37), some (some 34, false)⟩, ⟨(some 39), .pick (.t 34) (.c (.bool true)) (.t 38), none⟩]) (.cond (.t 39) (.seq (.region [ ⟨(some 4), .move (.c (.bool false)), none⟩]) .ret) .skip)) (.seq (.region [ ⟨(some 41), .move (.t 7), none⟩, ⟨(some 42), .call f_batch_Decode [(.t 41)], none⟩, ⟨(some 40), .move (.t 42), none⟩, ⟨(some 43), .extract (.t 40) 0, none⟩, ⟨(some 44), .extract (.t 40) 1, none⟩, ⟨(some 9), .alloc [(.str (bs [])), (.str (bs [])), .nil], none⟩, ⟨none, .store 3 (.t 9) (.t 43), none⟩, ⟨(some 10), .move (.t 44), none⟩]) (.seq (.seq (.region [ ⟨(some 45), .move (.t 7), none⟩, ⟨(some 46), .len (.t 45), none⟩, ⟨(some 47), .move (.c (.int .i64 0)), none⟩]) (.block 0 (.loop (.seq (.region [ ⟨(some 48), .bin .lss (.t 47) (.t 46), none⟩]) (.seq (.cond (.t 48) .skip (.exit 0)) (.seq (.block 1 (.seq (.region [ ⟨(some 49), .move (.t 47), none⟩, ⟨(some 11), .move (.t 49), none⟩]) (.region [ ⟨(some 50), .move (.t 7), none⟩, ⟨(some 51), .move (.t 11), none⟩, ⟨(some 52), .indexAddr 1 (.t 50) (.t 51), none⟩, ⟨none, .store 1 (.t 52) (.c (.int .u8 7)), none⟩]))) (.region [ ⟨(some 53), .bin .add (.t 47) (.c (.int .i64 1)), none⟩, ⟨(some 47), .move (.t 53), none⟩]))))))) (.seq (.seq (.region [ ⟨(some 54), .load true 3 (.t 9), none⟩, ⟨(some 55), .load true 3 (.t 5), none⟩, ⟨(some 56), .call f_warehouseref24_SameFile [(.t 54), (.t 55)], none⟩, ⟨(some 57), .un .not (.t 56), none⟩]) (.cond (.t 57) (.seq (.region [ ⟨(some 4), .move (.c (.bool false)), none⟩]) .ret) .skip)) (.seq (.seq (.region [ ⟨(some 58), .fieldAddr 2 (.t 9), none⟩, ⟨(some 59), .load false 1 (.t 58), none⟩, ⟨(some 60), .len (.t 59), none⟩, ⟨(some 61), .move (.c (.int .i64 0)), none⟩]) (.block 2 (.loop (.seq (.region [ ⟨(some 62), .bin .lss (.t 61) (.t 60), none⟩]) (.seq (.cond (.t 62) .skip (.exit 2)) (.seq (.block 3 (.seq (.region [ ⟨(some 63), .move (.t 61), none⟩, ⟨(some 12), .move (.t 63), none⟩]) (.seq (.region [ ⟨(some 64), .fieldAddr 2 (.t 9), none⟩, ⟨(some 65), .load false 1 (.t 64), none⟩, ⟨(some 66), .move (.t 12), none⟩, ⟨(some 67), .indexAddr 3 (.t 65) (.t 66), none⟩, ⟨(some 68), .fieldAddr 2 (.t 67), none⟩, ⟨(some 69), .load false 1 (.t 68), none⟩, ⟨(some 70), .len (.t 69), none⟩, ⟨(some 71), .move (.c (.int .i64 0)), none⟩]) (.block 4 (.loop (.seq (.region [ ⟨(some 72), .bin .lss (.t 71) (.t 70), none⟩]) (.seq (.cond (.t 72) .skip (.exit 4)) (.seq (.block 5 (.seq (.region [ ⟨(some 73), .move (.t 71), none⟩, ⟨(some 13), .move (.t 73), none⟩]) (.region [ ⟨(some 74), .fieldAddr 2 (.t 9), none⟩, ⟨(some 75), .load false 1 (.t 74), none⟩, ⟨(some 76), .move (.t 12), none⟩, ⟨(some 77), .indexAddr 3 (.t 75) (.t 76), none⟩, ⟨(some 78), .fieldAddr 2 (.t 77), none⟩, ⟨(some 79), .load false 1 (.t 78), none⟩, ⟨(some 80), .move (.t 13), none⟩, ⟨(some 81), .build [(.int .i64 0), (.int .i64 0), (.str (bs []))] [], none⟩, ⟨(some 82), .indexAddr 3 (.t 79) (.t 80), none⟩, ⟨none, .store 3 (.t 82) (.t 81), none⟩]))) (.region [ ⟨(some 83), .bin .add (.t 71) (.c (.int .i64 1)), none⟩, ⟨(some 71), .move (.t 83), none⟩]))))))))) (.region [ ⟨(some 84), .bin .add (.t 61) (.c (.int .i64 1)), none⟩, ⟨(some 61), .move (.t 84), none⟩]))))))) (.seq (.region [ ⟨(some 86), .load true 3 (.t 6), none⟩, ⟨(some 87), .call f_batch_Encode [(.t 86)], none⟩, ⟨(some 85), .move (.t 87), none⟩, ⟨(some 88), .extract (.t 85) 0, none⟩, ⟨(some 89), .extract (.t 85) 1, none⟩, ⟨(some 14), .move (.t 88), none⟩, ⟨(some 15), .move (.t 89), none⟩]) (.seq (.region [ ⟨(some 91), .move (.t 14), none⟩, ⟨(some 92), .call f_batch_Decode [(.t 91)], none⟩, ⟨(some 90), .move (.t 92), none⟩, ⟨(some 93), .extract (.t 90) 0, none⟩, ⟨(some 94), .extract (.t 90) 1, none⟩, ⟨(some 16), .alloc [(.str (bs [])), (.str (bs [])), .nil], none⟩, ⟨none, .store 3 (.t 16) (.t 93), none⟩, ⟨(some 17), .move (.t 94), none⟩]) (.seq (.region [ ⟨(some 95), .move (.t 17), none⟩, ⟨(some 96), .bin .eql (.t 95) (.c (.int .i64 0)), none⟩, ⟨(some 97), .move (.t 96), none⟩, ⟨(some 98), .load true 3 (.t 16), some (some 97, true)⟩, ⟨(some 99), .load true 3 (.t 5), some (some 97, true)⟩, ⟨(some 100), .call f_warehouseref24_SameFile [(.t 98), (.t 99)], some (some 97, true)⟩, ⟨(some 101), .pick (.t 97) (.t 100) (.c (.bool false)), none⟩, ⟨(some 102), .move (.t 101), none⟩, ⟨(some 103), .load true 3 (.t 6), some (some 102, true)⟩, ⟨(some 104), .load true 3 (.t 5), some (some 102, true)⟩, ⟨(some 105), .call f_warehouseref24_SameFile [(.t 103), (.t 104)], some (some 102, true)⟩, ⟨(some 106), .pick (.t 102) (.t 105) (.c (.bool false)), none⟩, ⟨(some 107), .move (.t 106), none⟩, ⟨(some 108), .call f_warehouselaw24_known [], some (some 107, true)⟩, ⟨(some 109), .pick (.t 107) (.t 108) (.c (.bool false)), none⟩, ⟨(some 4), .move (.t 109), none⟩]) .ret)))))))))))))⟩

structure F_warehouselaw24_BatchOwns (P : Program) where
  id : FuncId
  warehouselaw24_known : F_warehouselaw24_known P
  warehouselaw24_file : F_warehouselaw24_file P
  warehouseref24_CopyFile : F_warehouseref24_CopyFile P
  batch_Encode : F_batch_Encode P
  warehouseref24_SameFile : F_warehouseref24_SameFile P
  batch_Decode : F_batch_DecodeB P
  has : Has P id [] (c_warehouselaw24_BatchOwns warehouselaw24_known.id warehouselaw24_file.id warehouseref24_CopyFile.id batch_Encode.id warehouseref24_SameFile.id batch_Decode.id)

end Go.AW

namespace Go.AW
variable [Draws]
attribute [local irreducible] ACalls
theorem snocK_to {H : List AObj} {o : AObj} {n : Nat} {k : Nat → List AObj → Prop} (h : k (n + H.length) (H ++ [o])) : snocK H o n k := by rw [snocK_eq]; exact h

theorem at_end (X : List AObj) (a b c d o : AObj) : (a :: b :: c :: d :: (X ++ [o]))[0 + 1 + 1 + 1 + 1 + X.length]? = some o := by
  rw [show 0 + 1 + 1 + 1 + 1 + X.length = X.length + 1 + 1 + 1 + 1 by omega]
  simp

theorem gpo_round {s0 s : RdS} {L1 : List Rec} {es : List (List AVal)} {n1 : Nat} {Y : List AObj} {x : AObj} (hes : es = oC 4 L1) (hn : n1 = L1.length) (hY : Y = rowO L1) :
    gpO (rdO s :: resO :: fobj s0 (.sl 3 n1 0 n1) :: .arr 3 es :: (Y ++ [x])) (List.range (4 + L1.length)) (List.range (4 + L1.length)) (fileHo s0 s L1) := by
  subst hes hn hY
  exact gpo_file s0 s L1 [x]

theorem keepP_range {H : List AObj} {n id ep idx fld : Nat} (h : id < n) : Pub H 0 (List.range n) (.ptr id ep idx fld) (.ptr id ep idx fld) := by
  have := Pub.keepP (H1 := H) (n := 0) (ids := List.range n) id ep idx fld id (List.getElem?_range h)
  rwa [Nat.zero_add] at this

set_option maxRecDepth 20000 in
theorem file_ownr {P : Program} (F : F_batch_reader_fileB P) (s : RdS) (hby : Byt s.rest) (hl : s.rest.length ≤ 1000000) (hbad0 : (flS s).bad = false) :
    ACalls P F.id [.ptr 0 1 0 0] [rdO s] (fun r H' => ∃ c, r = .agg [.str (txV (fl1 s)), .str (txV (fl2 s)), c] ∧ ∃ res, recHo s (flS s) res (flV s).recs c H') := by
  have b1 := fl1_byt hby
  have b2 : Byt (fl2 s).rest := txS_byt b1
  have b3 : Byt (fl3 s).rest := txS_byt b2
  have b4 : Byt (fl4 s).rest := tkS_byt b3
  have l4 : (fl4 s).rest.length ≤ s.rest.length := Nat.le_trans (tkS_len _ _) (Nat.le_trans (txS_len _) (Nat.le_trans (txS_len _) (fl1_len s)))
  have n0 := nbV_bound (n := 2) (by omega) (by omega) b3
  have nn : (flN s).toNat ≤ 65535 := by
    have h1 := num_bnd _ (tkL_byt (n := 2) b3)
    have h2 := tkL_len (n := 2) (s := fl3 s) (by omega)
    have h3 : (256 : Int) ^ (tkL 2 (fl3 s)).length ≤ 256 ^ 2 := by
      have : (256 : Nat) ^ (tkL 2 (fl3 s)).length ≤ 256 ^ 2 := Nat.pow_le_pow_right (by omega) (by omega)
      exact_mod_cast this
    have h4 : (256 : Int) ^ 2 = 65536 := by decide
    show (num (tkL 2 (fl3 s))).toNat ≤ 65535
    omega
  refine acalls_of_body F.has ?_
  (conv => whnf); refine ACalls.mono (take_spec F.batch_reader_take 4 (by omega) s _ 0 rfl) ?_
  rintro r H' ⟨rfl, rfl⟩
  (conv => whnf); refine ⟨_, bytesOf_bC _, ?_⟩
  (conv => whnf); refine recA (fun hm => ?_) (fun hm => ?_)
  · replace hm : (!((strOf (tkL 4 s)).data.toList == (bs [87, 72, 70, 49]).data.toList)) = true := hm
    have hf : fl1 s = ⟨(tkS 4 s).rest, true⟩ := by rw [fl1, if_neg (by rw [magic]; simpa using hm)]
    (conv => whnf); refine ACalls.mono (rtext_spec F.batch_reader_text (fl1 s) b1 _ 0 (by rw [hf]; rfl)) ?_
    rintro r H' ⟨rfl, rfl⟩
    (conv => whnf); refine ACalls.mono (rtext_spec F.batch_reader_text (fl2 s) b2 _ 0 rfl) ?_
    rintro r H' ⟨rfl, rfl⟩
    (conv => whnf); refine ACalls.mono (rnumber_spec F.batch_reader_number 2 (by omega) (by omega) (fl3 s) b3 _ 0 rfl) ?_
    rintro r H' ⟨rfl, rfl⟩
    conv => whnf
    refine ⟨fun m ρ H1 => ∃ (k : Nat) (st : RdS) (L : List Rec) (c : AVal), m = k ∧ flP k st L = flP (flN s).toNat (fl4 s) [] ∧ L.length + k ≤ 65535 ∧ Byt st.rest ∧ st.rest.length ≤ s.rest.length ∧ recHo s st resO L c H1 ∧
      Sv 39 [(0, .ptr 0 1 0 0), (2, .ptr 1 1 0 0), (3, .ptr 2 1 0 0), (4, .int .i64 k)] ρ, (flN s).toNat, [], ?_, ?_⟩
    · exact ⟨(flN s).toNat, fl4 s, [], .nil, rfl, rfl, by simpa using nn, b4, l4, .inl ⟨rfl, rfl, rfl⟩, Sv.intro rfl ⟨rfl, rfl, rfl, intEq (by show nbV 2 (fl3 s) = _; rw [flN]; omega), trivial⟩⟩
    rintro m ρ H1 ⟨k, st, L, c, rfl, hr, hle, hb, hlr, hH, d, rfl⟩
    have hok : 0 < m → st.bad = false → (dcV (rqL st)).isSome = true := fun h0 hb0 => by
      obtain ⟨k, rfl⟩ : ∃ j, m = j + 1 := ⟨m - 1, by omega⟩
      rw [flP, if_neg (by simp [hb0])] at hr
      cases hc : dcV (rqL st) with
      | some x => rfl
      | none =>
        have hbad2 : (recS st).bad = true := by rw [recS, hc]
        have := flP_bad k (recS st) (L ++ [recV st]) hbad2
        rw [hr] at this
        have h3 : (flS s).bad = true := by rw [flS, this]; exact hbad2
        rw [hbad0] at h3; cases h3
    rcases hH with ⟨hL, rfl, rfl⟩ | ⟨hL, rfl, rfl⟩
    · (conv => whnf); refine recA (fun hlt => ?_) (fun hlt => ?_)
      · simp at hlt
        obtain ⟨k, rfl⟩ : ∃ j, m = j + 1 := ⟨m - 1, by omega⟩
        (conv => whnf); refine recA (fun hbad => ?_) (fun hbad => ?_)
        · replace hbad : (!st.bad) = true := hbad
          simp at hbad
          rw [flP, if_neg (by simp [hbad])] at hr
          (conv => whnf); refine ⟨_, _, record_own F.batch_reader_record st hb (by omega) (hok (by omega) hbad) _ 0 rfl, ?_⟩
          (conv => whnf); refine And.intro (⟨roomMul (by simp) (by omega), roomB_le (by simp)⟩) ?_
          repeat ((conv => whnf); refine And.intro rfl ?_)
          conv => whnf
          subst hL
          refine ⟨k, by omega, Gp.keepL [0, 1, 2, 5, 3] (by simp) (keepB_one rfl rfl rfl) (gpo_file1 s (recS st) (recV st) _) rfl ?_ fun ρ1 h => ⟨k, recS st, [] ++ [recV st], _, rfl, hr, by simp; simp at hle; omega, recS_byt hb, Nat.le_trans (recS_len st) hlr, .inr ⟨by simp, rfl, rfl⟩, h⟩⟩
          exact ⟨.keepP 0 _ _ _ 0 rfl, .keepP 1 _ _ _ 1 rfl, .keepP 2 _ _ _ 2 rfl, pub_int (by have := wrapI (((k + 1 : Nat) : Int) - 1) (by omega) (by omega); show IntKind.i64.wrap (((k + 1 : Nat) : Int) - 1) = _; omega), trivial⟩
        · replace hbad : (!st.bad) = false := hbad
          simp at hbad
          have hv : (flV s).recs = L ∧ flS s = st := by
            rw [flV, flS, ← hr]
            (rw [flP, if_pos hbad]; exact ⟨rfl, rfl⟩)
          conv => whnf
          rw [hv.1, hv.2]
          exact ⟨_, rfl, _, .inl ⟨hL, rfl, rfl⟩⟩
      · simp at hlt
        have hk0 : m = 0 := by omega
        subst hk0
        have hv : (flV s).recs = L ∧ flS s = st := by
          rw [flV, flS, ← hr]
          exact ⟨rfl, rfl⟩
        conv => whnf
        rw [hv.1, hv.2]
        exact ⟨_, rfl, _, .inl ⟨hL, rfl, rfl⟩⟩
    · (conv => whnf); refine recA (fun hlt => ?_) (fun hlt => ?_)
      · simp at hlt
        obtain ⟨k, rfl⟩ : ∃ j, m = j + 1 := ⟨m - 1, by omega⟩
        (conv => whnf); refine recA (fun hbad => ?_) (fun hbad => ?_)
        · replace hbad : (!st.bad) = true := hbad
          simp at hbad
          rw [flP, if_neg (by simp [hbad])] at hr
          (conv => whnf); refine ⟨_, _, record_own F.batch_reader_record st hb (by omega) (hok (by omega) hbad) _ 0 rfl, ?_⟩
          (conv => whnf)
          refine snocK_to ?_
          (conv => whnf); refine recO (at_end _ _ _ _ _ _) ?_
          conv => whnf
          (conv => whnf); refine recT (by rw [oC_length]; exact Nat.beq_refl _) ?_
          (conv => whnf); refine And.intro (⟨roomMul (by simp; omega) (by omega), roomB_le (by simp; omega), rfl, by rw [oC_length]⟩) ?_
          repeat ((conv => whnf); refine And.intro rfl ?_)
          conv => whnf
          refine ⟨k, by omega, Gp.keepL (H1 := fileHo s (recS st) (L ++ [recV st])) (List.range (4 + (L ++ [recV st]).length)) List.nodup_range (keepB_one (by rw [List.getElem?_range (by omega)]) rfl rfl) (gpo_round ?_ ?_ ?_) rfl ?_ fun ρ1 h => ⟨k, recS st, L ++ [recV st], _, rfl, hr, by simp; omega, recS_byt hb, Nat.le_trans (recS_len st) hlr, .inr ⟨by simp, rfl, rfl⟩, h⟩⟩
          · rw [oC_snoc]
            show oC 4 L ++ [[AVal.bool (recV st).del, AVal.int .i64 (recV st).seq, AVal.sl (fileHo s st L).length (recV st).row.length 0 (recV st).row.length]] = _
            rw [fileHo_length]
            rfl
          · show (oC 4 L ++ [[AVal.bool (recV st).del, AVal.int .i64 (recV st).seq, AVal.sl (fileHo s st L).length (recV st).row.length 0 (recV st).row.length]]).length = _
            rw [List.length_append, oC_length, List.length_append]; rfl
          · rw [rowO_snoc]; rfl
          · exact ⟨keepP_range (by omega), keepP_range (by omega), keepP_range (by omega), pub_int (by have := wrapI (((k + 1 : Nat) : Int) - 1) (by omega) (by omega); show IntKind.i64.wrap (((k + 1 : Nat) : Int) - 1) = _; omega), trivial⟩
        · replace hbad : (!st.bad) = false := hbad
          simp at hbad
          have hv : (flV s).recs = L ∧ flS s = st := by
            rw [flV, flS, ← hr]
            (rw [flP, if_pos hbad]; exact ⟨rfl, rfl⟩)
          conv => whnf
          rw [hv.1, hv.2]
          exact ⟨_, rfl, _, .inr ⟨hL, rfl, rfl⟩⟩
      · simp at hlt
        have hk0 : m = 0 := by omega
        subst hk0
        have hv : (flV s).recs = L ∧ flS s = st := by
          rw [flV, flS, ← hr]
          exact ⟨rfl, rfl⟩
        conv => whnf
        rw [hv.1, hv.2]
        exact ⟨_, rfl, _, .inr ⟨hL, rfl, rfl⟩⟩
  · replace hm : (!((strOf (tkL 4 s)).data.toList == (bs [87, 72, 70, 49]).data.toList)) = false := hm
    have hf : fl1 s = tkS 4 s := by rw [fl1, if_pos (by rw [magic]; simpa using hm)]
    (conv => whnf); refine ACalls.mono (rtext_spec F.batch_reader_text (fl1 s) b1 _ 0 (by rw [hf]; rfl)) ?_
    rintro r H' ⟨rfl, rfl⟩
    (conv => whnf); refine ACalls.mono (rtext_spec F.batch_reader_text (fl2 s) b2 _ 0 rfl) ?_
    rintro r H' ⟨rfl, rfl⟩
    (conv => whnf); refine ACalls.mono (rnumber_spec F.batch_reader_number 2 (by omega) (by omega) (fl3 s) b3 _ 0 rfl) ?_
    rintro r H' ⟨rfl, rfl⟩
    conv => whnf
    refine ⟨fun m ρ H1 => ∃ (k : Nat) (st : RdS) (L : List Rec) (c : AVal), m = k ∧ flP k st L = flP (flN s).toNat (fl4 s) [] ∧ L.length + k ≤ 65535 ∧ Byt st.rest ∧ st.rest.length ≤ s.rest.length ∧ recHo s st resO L c H1 ∧
      Sv 39 [(0, .ptr 0 1 0 0), (2, .ptr 1 1 0 0), (3, .ptr 2 1 0 0), (4, .int .i64 k)] ρ, (flN s).toNat, [], ?_, ?_⟩
    · exact ⟨(flN s).toNat, fl4 s, [], .nil, rfl, rfl, by simpa using nn, b4, l4, .inl ⟨rfl, rfl, rfl⟩, Sv.intro rfl ⟨rfl, rfl, rfl, intEq (by show nbV 2 (fl3 s) = _; rw [flN]; omega), trivial⟩⟩
    rintro m ρ H1 ⟨k, st, L, c, rfl, hr, hle, hb, hlr, hH, d, rfl⟩
    have hok : 0 < m → st.bad = false → (dcV (rqL st)).isSome = true := fun h0 hb0 => by
      obtain ⟨k, rfl⟩ : ∃ j, m = j + 1 := ⟨m - 1, by omega⟩
      rw [flP, if_neg (by simp [hb0])] at hr
      cases hc : dcV (rqL st) with
      | some x => rfl
      | none =>
        have hbad2 : (recS st).bad = true := by rw [recS, hc]
        have := flP_bad k (recS st) (L ++ [recV st]) hbad2
        rw [hr] at this
        have h3 : (flS s).bad = true := by rw [flS, this]; exact hbad2
        rw [hbad0] at h3; cases h3
    rcases hH with ⟨hL, rfl, rfl⟩ | ⟨hL, rfl, rfl⟩
    · (conv => whnf); refine recA (fun hlt => ?_) (fun hlt => ?_)
      · simp at hlt
        obtain ⟨k, rfl⟩ : ∃ j, m = j + 1 := ⟨m - 1, by omega⟩
        (conv => whnf); refine recA (fun hbad => ?_) (fun hbad => ?_)
        · replace hbad : (!st.bad) = true := hbad
          simp at hbad
          rw [flP, if_neg (by simp [hbad])] at hr
          (conv => whnf); refine ⟨_, _, record_own F.batch_reader_record st hb (by omega) (hok (by omega) hbad) _ 0 rfl, ?_⟩
          (conv => whnf); refine And.intro (⟨roomMul (by simp) (by omega), roomB_le (by simp)⟩) ?_
          repeat ((conv => whnf); refine And.intro rfl ?_)
          conv => whnf
          subst hL
          refine ⟨k, by omega, Gp.keepL [0, 1, 2, 5, 3] (by simp) (keepB_one rfl rfl rfl) (gpo_file1 s (recS st) (recV st) _) rfl ?_ fun ρ1 h => ⟨k, recS st, [] ++ [recV st], _, rfl, hr, by simp; simp at hle; omega, recS_byt hb, Nat.le_trans (recS_len st) hlr, .inr ⟨by simp, rfl, rfl⟩, h⟩⟩
          exact ⟨.keepP 0 _ _ _ 0 rfl, .keepP 1 _ _ _ 1 rfl, .keepP 2 _ _ _ 2 rfl, pub_int (by have := wrapI (((k + 1 : Nat) : Int) - 1) (by omega) (by omega); show IntKind.i64.wrap (((k + 1 : Nat) : Int) - 1) = _; omega), trivial⟩
        · replace hbad : (!st.bad) = false := hbad
          simp at hbad
          have hv : (flV s).recs = L ∧ flS s = st := by
            rw [flV, flS, ← hr]
            (rw [flP, if_pos hbad]; exact ⟨rfl, rfl⟩)
          conv => whnf
          rw [hv.1, hv.2]
          exact ⟨_, rfl, _, .inl ⟨hL, rfl, rfl⟩⟩
      · simp at hlt
        have hk0 : m = 0 := by omega
        subst hk0
        have hv : (flV s).recs = L ∧ flS s = st := by
          rw [flV, flS, ← hr]
          exact ⟨rfl, rfl⟩
        conv => whnf
        rw [hv.1, hv.2]
        exact ⟨_, rfl, _, .inl ⟨hL, rfl, rfl⟩⟩
    · (conv => whnf); refine recA (fun hlt => ?_) (fun hlt => ?_)
      · simp at hlt
        obtain ⟨k, rfl⟩ : ∃ j, m = j + 1 := ⟨m - 1, by omega⟩
        (conv => whnf); refine recA (fun hbad => ?_) (fun hbad => ?_)
        · replace hbad : (!st.bad) = true := hbad
          simp at hbad
          rw [flP, if_neg (by simp [hbad])] at hr
          (conv => whnf); refine ⟨_, _, record_own F.batch_reader_record st hb (by omega) (hok (by omega) hbad) _ 0 rfl, ?_⟩
          (conv => whnf)
          refine snocK_to ?_
          (conv => whnf); refine recO (at_end _ _ _ _ _ _) ?_
          conv => whnf
          (conv => whnf); refine recT (by rw [oC_length]; exact Nat.beq_refl _) ?_
          (conv => whnf); refine And.intro (⟨roomMul (by simp; omega) (by omega), roomB_le (by simp; omega), rfl, by rw [oC_length]⟩) ?_
          repeat ((conv => whnf); refine And.intro rfl ?_)
          conv => whnf
          refine ⟨k, by omega, Gp.keepL (H1 := fileHo s (recS st) (L ++ [recV st])) (List.range (4 + (L ++ [recV st]).length)) List.nodup_range (keepB_one (by rw [List.getElem?_range (by omega)]) rfl rfl) (gpo_round ?_ ?_ ?_) rfl ?_ fun ρ1 h => ⟨k, recS st, L ++ [recV st], _, rfl, hr, by simp; omega, recS_byt hb, Nat.le_trans (recS_len st) hlr, .inr ⟨by simp, rfl, rfl⟩, h⟩⟩
          · rw [oC_snoc]
            show oC 4 L ++ [[AVal.bool (recV st).del, AVal.int .i64 (recV st).seq, AVal.sl (fileHo s st L).length (recV st).row.length 0 (recV st).row.length]] = _
            rw [fileHo_length]
            rfl
          · show (oC 4 L ++ [[AVal.bool (recV st).del, AVal.int .i64 (recV st).seq, AVal.sl (fileHo s st L).length (recV st).row.length 0 (recV st).row.length]]).length = _
            rw [List.length_append, oC_length, List.length_append]; rfl
          · rw [rowO_snoc]; rfl
          · exact ⟨keepP_range (by omega), keepP_range (by omega), keepP_range (by omega), pub_int (by have := wrapI (((k + 1 : Nat) : Int) - 1) (by omega) (by omega); show IntKind.i64.wrap (((k + 1 : Nat) : Int) - 1) = _; omega), trivial⟩
        · replace hbad : (!st.bad) = false := hbad
          simp at hbad
          have hv : (flV s).recs = L ∧ flS s = st := by
            rw [flV, flS, ← hr]
            (rw [flP, if_pos hbad]; exact ⟨rfl, rfl⟩)
          conv => whnf
          rw [hv.1, hv.2]
          exact ⟨_, rfl, _, .inr ⟨hL, rfl, rfl⟩⟩
      · simp at hlt
        have hk0 : m = 0 := by omega
        subst hk0
        have hv : (flV s).recs = L ∧ flS s = st := by
          rw [flV, flS, ← hr]
          exact ⟨rfl, rfl⟩
        conv => whnf
        rw [hv.1, hv.2]
        exact ⟨_, rfl, _, .inr ⟨hL, rfl, rfl⟩⟩

end Go.AW

namespace Go.AW
variable [Draws]
attribute [local irreducible] ACalls
def keepI (n : Nat) : List Nat := 0 :: 3 :: (List.range n).map (· + 4)

theorem keepI_at {n j : Nat} (h : j < n) : (keepI n)[2 + j]? = some (4 + j) := by
  rw [keepI, show 2 + j = j + 1 + 1 by omega, List.getElem?_cons_succ, List.getElem?_cons_succ, List.getElem?_map, List.getElem?_range h, Option.map_some, Nat.add_comm]

theorem keepI_nodup (n : Nat) : (keepI n).Nodup := by
  rw [keepI, List.nodup_cons, List.nodup_cons]
  refine ⟨by simp, by simp, ?_⟩
  exact List.Pairwise.map _ (fun a b h e => h (by omega)) List.nodup_range

def recsO (s : RdS) (L : List Rec) : List AObj := rdO s :: .arr 3 (oC 2 L) :: rowO L

theorem gpo_keepI (s0 s : RdS) (res : AObj) (L : List Rec) : gpO (rdO s :: res :: fobj s0 (.sl 3 L.length 0 L.length) :: .arr 3 (oC 4 L) :: rowO L) (keepI L.length) (keepI L.length) (recsO s L) := by
  refine gpO_mk2 (by simp [keepI, recsO, rowO_length]) fun j id o1 h1 h2 => ?_
  match j, h1, h2 with
  | 0, h1, h2 => cases h1; cases h2; exact ⟨_, rfl, .same _ _ rfl⟩
  | 1, h1, h2 => cases h1; cases h2; exact ⟨_, rfl, obOC 4 2 L fun j hj => keepI_at hj⟩
  | j + 2, h1, h2 =>
    have h2 : (rowO L)[j]? = some o1 := h2
    have hj : j < L.length := by have := (List.getElem?_eq_some_iff.1 h2).1; rwa [rowO_length] at this
    have e := keepI_at (n := L.length) hj
    rw [Nat.add_comm 2 j, h1] at e
    cases e
    obtain ⟨r, rfl⟩ := rowO_get h2
    refine ⟨_, ?_, .same _ _ (pureEs_vC _)⟩
    rw [show 4 + j = j + 1 + 1 + 1 + 1 by omega]
    simpa using h2

set_option maxRecDepth 20000 in
theorem file_own {P : Program} (F : F_batch_reader_fileB P) (s : RdS) (hby : Byt s.rest) (hl : s.rest.length ≤ 1000000) (hbad0 : (flS s).bad = false) :
    ACalls P F.id [.ptr 0 1 0 0] [rdO s] (fun r H' => ((flV s).recs = [] ∧ r = .agg [.str (flV s).id, .str (flV s).src, .nil] ∧ H' = [rdO (flS s)]) ∨
      ((flV s).recs ≠ [] ∧ r = .agg [.str (flV s).id, .str (flV s).src, .sl 1 (flV s).recs.length 0 (flV s).recs.length] ∧ H' = recsO (flS s) (flV s).recs)) := by
  refine (file_ownr F s hby hl hbad0).gp ?_
  rintro r H' ⟨c, rfl, res, ⟨hL, rfl, rfl⟩ | ⟨hL, rfl, rfl⟩⟩
  · refine Gp.res [0] (by simp) (keepB_one rfl rfl rfl) (H1 := [rdO (flS s)]) ⟨⟨_, rfl, .same _ _ rfl⟩, trivial⟩ (r' := .agg [.str (flV s).id, .str (flV s).src, .nil]) (.closed _ rfl) ?_
    exact ⟨_, rfl, .inl ⟨hL, rfl, rfl⟩⟩
  · refine Gp.res (keepI (flV s).recs.length) (keepI_nodup _) (keepB_one rfl rfl rfl) (H1 := recsO (flS s) (flV s).recs) (gpo_keepI s (flS s) res _) (r' := .agg [.str (flV s).id, .str (flV s).src, .sl 1 (flV s).recs.length 0 (flV s).recs.length]) (.agg _ _ rfl fun i v r hv hr => ?_) ?_
    · rcases i with _ | _ | _ | i
      · cases hv; cases hr; exact .closed _ rfl
      · cases hv; cases hr; exact .closed _ rfl
      · cases hv; cases hr; exact .keep 3 _ _ _ 1 rfl
      · simp at hv
    · exact ⟨_, rfl, .inr ⟨hL, rfl, rfl⟩⟩

end Go.AW

namespace Go.AW
variable [Draws]
attribute [local irreducible] ACalls
theorem renOC {σ : Nat → Nat} (b b' : Nat) (L : List Rec) (h : ∀ j, j < L.length → σ (b + j) = b' + j) : RenO σ (.arr 3 (oC b L)) (.arr 3 (oC b' L)) := by
  refine .arr 3 _ _ (by rw [oC_length, oC_length]) (fun i e e1 h1 h2 => ?_) fun i j e e1 d d1 h1 h2 h3 h4 => ?_
  · obtain ⟨x, _, rfl⟩ := oC_inv h1
    obtain ⟨y, _, rfl⟩ := oC_inv h2
    rfl
  · obtain ⟨x, hx, rfl⟩ := oC_inv h1
    obtain ⟨y, hy, rfl⟩ := oC_inv h2
    rw [hx] at hy; cases hy
    have hi := (List.getElem?_eq_some_iff.1 hx).1
    rcases j with _ | _ | _ | j
    · cases h3; cases h4; exact ⟨.closed _ rfl, rfl⟩
    · cases h3; cases h4; exact ⟨.closed _ rfl, rfl⟩
    · cases h3; cases h4
      refine ⟨?_, rfl⟩
      rw [← h i hi]
      exact .sl (b + i) _ _ _
    · simp [oRec] at h3

theorem file_ownF {P : Program} (F : F_batch_reader_fileB P) (s : RdS) (hby : Byt s.rest) (hl : s.rest.length ≤ 1000000) (hbad0 : (flS s).bad = false) (H : List AObj) (id : Nat) (ho : H[id]? = some (rdO s)) :
    ACalls P F.id [.ptr id 1 0 0] H (fun r H' => ((flV s).recs = [] ∧ r = .agg [.str (flV s).id, .str (flV s).src, .nil] ∧ H' = H.set id (rdO (flS s))) ∨
      ((flV s).recs ≠ [] ∧ r = .agg [.str (flV s).id, .str (flV s).src, .sl H.length (flV s).recs.length 0 (flV s).recs.length] ∧ H' = H.set id (rdO (flS s)) ++ (.arr 3 (oC (H.length + 1) (flV s).recs) :: rowO (flV s).recs))) := by
  obtain ⟨hal, ha⟩ := (show FrArgs id [.ptr 0 1 0 0] [.ptr id 1 0 0] from .pt trivial).get
  refine ACalls.frame1 ho rfl hal ha (file_own F s hby hl hbad0) ?_
  rintro r H1 (⟨h0, rfl, rfl⟩ | ⟨h0, rfl, rfl⟩)
  · exact ⟨_, rdO (flS s), rdO (flS s), [], [], rfl, .closed _ rfl, .same _ rfl, rfl, fun k x y h => by simp at h, .inl ⟨h0, rfl, by simp⟩⟩
  · refine ⟨.agg [.str (flV s).id, .str (flV s).src, .sl H.length (flV s).recs.length 0 (flV s).recs.length], rdO (flS s), rdO (flS s), .arr 3 (oC 2 (flV s).recs) :: rowO (flV s).recs, .arr 3 (oC (H.length + 1) (flV s).recs) :: rowO (flV s).recs, rfl, .agg _ _ rfl fun i v r hv hr => ?_, .same _ rfl, rfl, fun k x y h1 h2 => ?_, .inr ⟨h0, rfl, rfl⟩⟩
    · rcases i with _ | _ | _ | i
      · cases hv; cases hr; exact .closed _ rfl
      · cases hv; cases hr; exact .closed _ rfl
      · cases hv; cases hr; exact .sl 1 _ _ _
      · simp at hv
    · rcases k with _ | k
      · cases h1; cases h2
        exact renOC 2 (H.length + 1) _ fun j hj => by rw [show 2 + j = (j + 1) + 1 by omega, frN]; omega
      · have h1 : (rowO (flV s).recs)[k]? = some x := h1
        have h2 : (rowO (flV s).recs)[k]? = some y := h2
        rw [h1] at h2; cases h2
        obtain ⟨r, rfl⟩ := rowO_get h1
        exact .same _ (pureEs_vC _)

end Go.AW

namespace Go.AW
variable [Draws]
attribute [local irreducible] ACalls
theorem ACalls.borP {P : Program} {f : FuncId} {args bs : List AVal} {R : AVal} {H : List AObj} (hR : R.scalar = true) (h : ACalls P f bs [] (fun r H' => r = R ∧ H' = [])) (hl : args.length = bs.length)
    (hp : ∀ (i : Nat) (a b : AVal), args[i]? = some a → bs[i]? = some b → Pub H 0 [] a b) : ACalls P f args H (fun r H' => r = R ∧ H' = H) := by
  have := h.borG hl hp (.sc R hR) (fun o ho => by simp at ho)
  simpa using this

theorem setO_at {H : List AObj} {n : Nat} {o : AObj} {k : List AObj → Prop} {H' : List AObj} (h : H.set n o = H') (hk : k H') : setO H n o k := by rw [setO_eq, h]; exact hk

theorem at_snoc (H : List AObj) (o : AObj) : (H ++ [o])[0 + H.length]? = some o := by simp

theorem set_snoc (H : List AObj) (o o' : AObj) : (H ++ [o]).set (0 + H.length) o' = H ++ [o'] := by simp

theorem at_old {H X : List AObj} {i : Nat} {o : AObj} (h : H[i]? = some o) : (H ++ X)[i]? = some o := by rw [List.getElem?_append_left (List.getElem?_eq_some_iff.1 h).1]; exact h

theorem lentEq (H : List AObj) (a b : List Int) : ∀ (i : Nat) (x y : AVal), [AVal.sl H.length a.length 0 a.length, .list false 1 (bC b)][i]? = some x → [AVal.list false 1 (bC a), .list false 1 (bC b)][i]? = some y → Pub (H ++ [.arr 1 (bC a)]) 0 [] x y := fun i x y hx hy => by
  rcases i with _ | _ | i
  · cases hx; cases hy
    exact pubFI (by simp) (by simp) (by rw [bC_length]) (by rw [bC_length]) (pureEs_bC _)
  · cases hx; cases hy; exact .closed _ rfl
  · simp at hx

theorem set_old2 {H : List AObj} {o b a o' : AObj} (h : H[0]? = some o) : (H ++ [b] ++ [a]).set 0 o' = H.set 0 o' ++ [b] ++ [a] := by
  cases H with
  | nil => simp at h
  | cons x xs => rfl

theorem set_at {H : List AObj} {i : Nat} {o o' : AObj} (h : H[i]? = some o) : (H.set i o')[i]? = some o' := by
  rw [List.getElem?_set_self (List.getElem?_eq_some_iff.1 h).1]

def keepR (n : Nat) : List Nat := 2 :: (List.range n).map (· + 3)

theorem keepR_at {n j : Nat} (h : j < n) : (keepR n)[1 + j]? = some (3 + j) := by
  rw [keepR, show 1 + j = j + 1 by omega, List.getElem?_cons_succ, List.getElem?_map, List.getElem?_range h, Option.map_some, Nat.add_comm]

theorem keepR_nodup (n : Nat) : (keepR n).Nodup := by
  rw [keepR, List.nodup_cons]
  refine ⟨by simp, ?_⟩
  exact List.Pairwise.map _ (fun a b h e => h (by omega)) List.nodup_range

theorem gpo_keepR (o0 o1 : AObj) (L : List Rec) (X : List AObj) : gpO (o0 :: o1 :: .arr 3 (oC 3 L) :: (rowO L ++ X)) (keepR L.length) (keepR L.length) (.arr 3 (oC 1 L) :: rowO L) := by
  refine gpO_mk2 (by simp [keepR, rowO_length]) fun j id o1 h1 h2 => ?_
  match j, h1, h2 with
  | 0, h1, h2 => cases h1; cases h2; exact ⟨_, rfl, obOC 3 1 L fun j hj => keepR_at hj⟩
  | j + 1, h1, h2 =>
    have h2 : (rowO L)[j]? = some o1 := h2
    have hj : j < L.length := by have := (List.getElem?_eq_some_iff.1 h2).1; rwa [rowO_length] at this
    have e := keepR_at (n := L.length) hj
    rw [Nat.add_comm 1 j, h1] at e
    cases e
    obtain ⟨r, rfl⟩ := rowO_get h2
    refine ⟨_, ?_, .same _ _ (pureEs_vC _)⟩
    rw [show 3 + j = j + 1 + 1 + 1 by omega]
    rw [List.getElem?_cons_succ, List.getElem?_cons_succ, List.getElem?_cons_succ]
    exact at_old h2

def decOwn (f : Fil) (r : AVal) (H' : List AObj) : Prop :=
  (f.recs = [] ∧ r = .tuple [.agg [.str f.id, .str f.src, .nil], .int .i64 0] ∧ H' = []) ∨
  (f.recs ≠ [] ∧ r = .tuple [.agg [.str f.id, .str f.src, .sl 0 f.recs.length 0 f.recs.length], .int .i64 0] ∧ H' = .arr 3 (oC 1 f.recs) :: rowO f.recs)

set_option maxRecDepth 20000 in
set_option maxHeartbeats 4000000 in
theorem batch_Decode_own0 {P : Program} (F : F_batch_DecodeB P) (l : List Int) (hby : Byt l) (hz0 : decFE l = 0) :
    ACalls P F.id [.list false 1 (bC l)] [] (decOwn (flV (dS l))) := by
  have h1 : ¬ 65536 < l.length := fun h => by rw [decFE, if_pos (by omega)] at hz0; cases hz0
  have hsum : sumBad l = false := by
    cases h : sumBad l with
    | false => rfl
    | true => rw [decFE, if_neg (by omega), if_pos h] at hz0; cases hz0
  have h2 : ¬ l.length < 4 := fun h => by rw [sumBad, decide_eq_true h] at hsum; cases hsum
  have h45 : ¬ ((flS (dS l)).bad = true ∨ 0 < (flS (dS l)).rest.length) := fun h => by
    rw [decFE, if_neg (by omega), if_neg (by rw [hsum]; simp), if_pos h] at hz0; cases hz0
  have h6 : ¬ (encFE (flV (dS l)) ≠ 0 ∨ filB (flV (dS l)) ≠ l) := fun h => by
    rw [decFE, if_neg (by omega), if_neg (by rw [hsum]; simp), if_neg h45, if_pos h] at hz0; cases hz0
  simp only [not_or, Bool.not_eq_true, Nat.not_lt, Nat.le_zero, ne_eq, Decidable.not_not] at h45 h6
  refine ACalls.gp (Q0 := fun r H2 => ((flV (dS l)).recs = [] ∧ r = .tuple [.agg [.str (flV (dS l)).id, .str (flV (dS l)).src, .nil], .int .i64 0]) ∨
    ((flV (dS l)).recs ≠ [] ∧ r = .tuple [.agg [.str (flV (dS l)).id, .str (flV (dS l)).src, .sl 2 (flV (dS l)).recs.length 0 (flV (dS l)).recs.length], .int .i64 0] ∧ ∃ o0 o1 X, H2 = o0 :: o1 :: .arr 3 (oC 3 (flV (dS l)).recs) :: (rowO (flV (dS l)).recs ++ X))) ?_ (by
    rintro r H2 (⟨h, rfl⟩ | ⟨h, rfl, o0, o1, X, rfl⟩)
    · refine Gp.res [] (by simp) (fun k n hk => by simp at hk) (H1 := []) trivial (r' := .tuple [.agg [.str (flV (dS l)).id, .str (flV (dS l)).src, .nil], .int .i64 0]) (pub2 (.closed _ rfl) (.closed _ rfl)) ⟨_, rfl, .inl ⟨h, rfl, rfl⟩⟩
    · refine Gp.res (keepR (flV (dS l)).recs.length) (keepR_nodup _) (fun k n hk => by simp at hk) (gpo_keepR o0 o1 _ X) (r' := .tuple [.agg [.str (flV (dS l)).id, .str (flV (dS l)).src, .sl 0 (flV (dS l)).recs.length 0 (flV (dS l)).recs.length], .int .i64 0]) (pub2 (.agg _ _ rfl fun i v r hv hr => ?_) (.closed _ rfl)) ⟨_, rfl, .inr ⟨h, rfl, rfl⟩⟩
      rcases i with _ | _ | _ | i
      · cases hv; cases hr; exact .closed _ rfl
      · cases hv; cases hr; exact .closed _ rfl
      · cases hv; cases hr; exact .keep 2 _ _ _ 0 rfl
      · simp at hv)
  refine acalls_of_body F.has ?_
  (conv => whnf); refine recF (by simp [bC_length]; omega) ?_
  (conv => whnf); refine recF (by simp [bC_length]; omega) ?_
  have ew : IntKind.i64.wrap (((bC l).length : Int) - 4) = ((l.length - 4 : Nat) : Int) := by rw [bC_length, wrapI _ (by omega) (by omega)]; omega
  have et : (IntKind.i64.wrap (((bC l).length : Int) - 4)).toNat = l.length - 4 := by rw [ew, Int.toNat_natCast]
  have es1 : List.drop (IntKind.i64.wrap (((bC l).length : Int) - 4)).toNat (List.take (bC l).length (bC l)) = bC (l.drop (l.length - 4)) := by rw [et, List.take_length, bC_drop]
  have es2 : List.drop 0 (List.take (IntKind.i64.wrap (((bC l).length : Int) - 4)).toNat (bC l)) = bC (l.take (l.length - 4)) := by rw [et, List.drop_zero, bC_take]
  have hbt : Byt (l.take (l.length - 4)) := fun x hx => hby x (List.mem_of_mem_take hx)
  have hbd : Byt (l.drop (l.length - 4)) := fun x hx => hby x (List.mem_of_mem_drop hx)
  have hlt : (l.take (l.length - 4)).length ≤ 65536 := by rw [List.length_take]; omega
  (conv => whnf); refine And.intro (by rw [ew, bC_length]; omega) ?_
  (conv => whnf); refine And.intro (by rw [ew, bC_length]; omega) ?_
  conv => whnf
  rw [es1, es2]
  (conv => whnf); refine ⟨_, Checksum_spec F.batch_Checksum false (l.take (l.length - 4)) (by omega) _, ?_⟩
  (conv => whnf); refine ⟨_, put4_nil F.batch_put4 (fnv (l.take (l.length - 4))) _, ?_⟩
  conv => whnf
  rw [p4_eq _ (fnv_bound _).1 (fnv_bound _).2]
  (conv => whnf); refine ⟨_, bytesEqual_spec F.bytes_Equal false false (l.drop (l.length - 4)) (beN 4 (fnv (l.take (l.length - 4)))) hbd (beN_byt _ _) _, ?_⟩
  have hsb : sumBad l = !(l.drop (l.length - 4) == beN 4 (fnv (l.take (l.length - 4)))) := by rw [sumBad, decide_eq_false (by omega), Bool.false_or]
  (conv => whnf); refine recF (by rw [← hsb, hsum]) ?_
  (conv => whnf); refine And.intro (by rw [ew, bC_length]; omega) ?_
  conv => whnf
  rw [es2]
  (conv => whnf); refine ACalls.mono (file_ownF F.batch_reader_file (dS l) hbt (by show (l.take (l.length - 4)).length ≤ 1000000; omega) h45.1 _ 1 rfl) ?_
  rintro r H' (⟨hL, rfl, rfl⟩ | ⟨hL, rfl, hH⟩)
  · have z1 : (flV (dS l)).id.size ≤ 50000 := Nat.le_trans (txV_size (fl1_byt hbt)) (by omega)
    have z2 : (flV (dS l)).src.size ≤ 50000 := Nat.le_trans (txV_size (txS_byt (fl1_byt hbt))) (by omega)
    (conv => whnf); refine recF (h45.1) ?_
    (conv => whnf); refine recF (by show decide (((bC (flS (dS l)).rest).length : Int) > 0) = false; rw [bC_length, h45.2]; rfl) ?_
    have hen := fun H => (batch_Encode_spec F.batch_Encode (flV (dS l)) z1 z2 H).weakD (args := [.agg [.str (flV (dS l)).id, .str (flV (dS l)).src, .nil]]) (.cons (.aggs (.cons (.refl _) (.cons (.refl _) (.cons (by rw [hL]; exact .nil false 3) .nil)))) .nil)
    rw [encFR, if_pos h6.1] at hen
    (conv => whnf); refine ACalls.use (hen _) ?_
    conv => whnf
    (conv => whnf); refine ACalls.use (bytesEqual_spec F.bytes_Equal false false (filB (flV (dS l))) l (filB_byt _) hby _) ?_
    (conv => whnf); refine recF (by rw [h6.2, beq_self_eq_true]; rfl) ?_
    conv => whnf
    exact .inl ⟨hL, rfl⟩
  · have z1 : (flV (dS l)).id.size ≤ 50000 := Nat.le_trans (txV_size (fl1_byt hbt)) (by omega)
    have z2 : (flV (dS l)).src.size ≤ 50000 := Nat.le_trans (txV_size (txS_byt (fl1_byt hbt))) (by omega)
    have hH : H' = resO :: rdO (flS (dS l)) :: .arr 3 (oC 3 (flV (dS l)).recs) :: rowO (flV (dS l)).recs := hH
    have g0 : H'[0]? = some resO := by rw [hH]; rfl
    have g1 : H'[1]? = some (rdO (flS (dS l))) := by rw [hH]; rfl
    have g2 : H'[2]? = some (.arr 3 (oC 3 (flV (dS l)).recs)) := by rw [hH]; rfl
    have gr : ∀ (i : Nat) (r : Rec), (flV (dS l)).recs[i]? = some r → H'[3 + i]? = some (.arr 3 (vC r.row)) := fun i r hr => by
      rw [hH, show 3 + i = i + 1 + 1 + 1 by omega]
      simp [rowO, hr]
    (conv => whnf)
    refine snocK_to ?_
    (conv => whnf); refine recO (at_snoc _ _) ?_
    (conv => whnf)
    refine setO_at (set_snoc _ _ _) ?_
    (conv => whnf); refine recO (at_old g1) ?_
    (conv => whnf); refine recF (h45.1) ?_
    (conv => whnf); refine recO (at_old g1) ?_
    (conv => whnf); refine recF (by show decide (((bC (flS (dS l)).rest).length : Int) > 0) = false; rw [bC_length, h45.2]; rfl) ?_
    (conv => whnf); refine recO (at_snoc _ _) ?_
    conv => whnf
    (conv => whnf); refine ACalls.mono (batch_Encode_lent F.batch_Encode (flV (dS l)) z1 z2 h6.1 _ _ (own_pub rfl (at_old g2) fun i r hr => at_old (gr i r hr))) ?_
    rintro r2 H2 ⟨rfl, rfl⟩
    conv => whnf
    (conv => whnf); refine ACalls.use (ACalls.borP rfl (bytesEqual_spec F.bytes_Equal false false (filB (flV (dS l))) l (filB_byt _) hby []) rfl (lentEq _ _ _)) ?_
    (conv => whnf); refine recF (by rw [h6.2, beq_self_eq_true]; rfl) ?_
    (conv => whnf); refine recO (at_old (at_snoc _ _)) ?_
    (conv => whnf); refine recO (at_old (at_old g0)) ?_
    (conv => whnf)
    refine setO_at (set_old2 g0) ?_
    (conv => whnf); refine recO (at_old (at_old (set_at g0))) ?_
    conv => whnf
    exact .inr ⟨hL, rfl, _, _, _, by rw [hH]; simp; exact ⟨rfl, rfl, rfl⟩⟩

end Go.AW

namespace Go.AW
variable [Draws]
attribute [local irreducible] ACalls
def dcdR (f : Fil) (n : Nat) : AVal := .agg [.str f.id, .str f.src, if f.recs = [] then .nil else .sl n f.recs.length 0 f.recs.length]

def dcdO (f : Fil) (n : Nat) : List AObj := if f.recs = [] then [] else .arr 3 (oC (n + 1) f.recs) :: rowO f.recs

theorem shfOC (n b : Nat) (L : List Rec) : ShfO n (.arr 3 (oC b L)) (.arr 3 (oC (n + b) L)) := by
  refine .arr 3 _ _ (by rw [oC_length, oC_length]) (fun i e e1 h1 h2 => ?_) fun i j e e1 d d1 h1 h2 h3 h4 => ?_
  · obtain ⟨x, _, rfl⟩ := oC_inv h1
    obtain ⟨y, _, rfl⟩ := oC_inv h2
    rfl
  · obtain ⟨x, hx, rfl⟩ := oC_inv h1
    obtain ⟨y, hy, rfl⟩ := oC_inv h2
    rw [hx] at hy; cases hy
    rcases j with _ | _ | _ | j
    · cases h3; cases h4; exact ⟨.sc _ rfl, rfl⟩
    · cases h3; cases h4; exact ⟨.sc _ rfl, rfl⟩
    · cases h3; cases h4
      refine ⟨?_, rfl⟩
      rw [Nat.add_assoc]
      exact .sl _ _ _ _
    · simp [oRec] at h3

theorem shfVC (n : Nat) (r : List V) : ShfO n (.arr 3 (vC r)) (.arr 3 (vC r)) := by
  refine .arr 3 _ _ rfl (fun i e e1 h1 h2 => by rw [h1] at h2; cases h2; rfl) fun i j e e1 d d1 h1 h2 h3 h4 => ?_
  rw [h1] at h2; cases h2
  rw [h3] at h4; cases h4
  rw [vC, List.getElem?_map] at h1
  obtain ⟨v, _, rfl⟩ := Option.map_eq_some_iff.1 h1
  rcases j with _ | _ | _ | j
  · cases h3; exact ⟨.sc _ rfl, rfl⟩
  · cases h3; exact ⟨.sc _ rfl, rfl⟩
  · cases h3; exact ⟨.sc _ rfl, rfl⟩
  · simp [valC] at h3

theorem batch_Decode_lent {P : Program} (F : F_batch_DecodeB P) (l : List Int) (hby : Byt l) (hz0 : decFE l = 0) (H : List AObj) (a : AVal) (hp : Pub H 0 [] a (.list false 1 (bC l))) :
    ACalls P F.id [a] H (fun r H' => r = .tuple [dcdR (flV (dS l)) H.length, .int .i64 0] ∧ H' = H ++ dcdO (flV (dS l)) H.length) := by
  have h := batch_Decode_own0 F l hby hz0
  have hl : ∀ (i : Nat) (x y : AVal), [a][i]? = some x → [AVal.list false 1 (bC l)][i]? = some y → Pub H 0 [] x y := fun i x y hx hy => by
    rcases i with _ | i
    · cases hx; cases hy; exact hp
    · simp at hx
  by_cases h0 : (flV (dS l)).recs = []
  · have h1 : ACalls P F.id [.list false 1 (bC l)] [] (fun r H' => r = .tuple [.agg [.str (flV (dS l)).id, .str (flV (dS l)).src, .nil], .int .i64 0] ∧ H' = []) := h.mono fun r H' hq => by
      rcases hq with ⟨_, rfl, rfl⟩ | ⟨hn, _⟩
      · exact ⟨rfl, rfl⟩
      · exact absurd h0 hn
    rw [dcdR, dcdO, if_pos h0, if_pos h0]
    exact h1.borG rfl hl (.sc _ rfl) (fun o ho => by simp at ho)
  · have h1 : ACalls P F.id [.list false 1 (bC l)] [] (fun r H' => r = .tuple [.agg [.str (flV (dS l)).id, .str (flV (dS l)).src, .sl 0 (flV (dS l)).recs.length 0 (flV (dS l)).recs.length], .int .i64 0] ∧ H' = .arr 3 (oC 1 (flV (dS l)).recs) :: rowO (flV (dS l)).recs) := h.mono fun r H' hq => by
      rcases hq with ⟨hn, _⟩ | ⟨_, rfl, rfl⟩
      · exact absurd hn h0
      · exact ⟨rfl, rfl⟩
    rw [dcdR, dcdO, if_neg h0, if_neg h0]
    refine h1.borG2 rfl hl (.tuple _ _ rfl fun i v r hv hr => ?_) rfl fun k o o1 hk hk1 => ?_
    · rcases i with _ | _ | i
      · cases hv; cases hr
        refine .agg _ _ rfl fun i v r hv hr => ?_
        rcases i with _ | _ | _ | i
        · cases hv; cases hr; exact .sc _ rfl
        · cases hv; cases hr; exact .sc _ rfl
        · cases hv; cases hr; exact .sl 0 _ _ _
        · simp at hv
      · cases hv; cases hr; exact .sc _ rfl
      · simp at hv
    · rcases k with _ | k
      · cases hk; cases hk1; exact shfOC _ _ _
      · have hk : (rowO (flV (dS l)).recs)[k]? = some o := hk
        have hk1 : (rowO (flV (dS l)).recs)[k]? = some o1 := hk1
        rw [hk] at hk1; cases hk1
        obtain ⟨r, rfl⟩ := rowO_get hk
        exact shfVC _ _

theorem obRows {H : List AObj} {ids : List Nat} (L : List Rec) (r : Rec) (idr n : Nat) (hid : idr ∉ ids) (ho : H[idr]? = some (.arr 3 (vC r.row))) (hn : n = r.row.length) :
    ObP H ids (.arr 3 (rC L ++ [[.bool r.del, .int .i64 r.seq, .sl idr n 0 n]])) (.arr 3 (rC (L ++ [r]))) := by
  subst hn
  rw [rC_append]
  have hlast : rC [r] = [recC r] := rfl
  rw [hlast]
  refine .map 3 _ _ (by simp) (fun i e e1 h1 h2 => ?_) fun i j e e1 d d1 h1 h2 h3 h4 => ?_
  · by_cases hi : i < (rC L).length
    · rw [List.getElem?_append_left hi] at h1 h2
      rw [h1] at h2; cases h2; rfl
    · rw [List.getElem?_append_right (by omega)] at h1 h2
      rcases hk : i - (rC L).length with _ | k
      · rw [hk] at h1 h2; cases h1; cases h2; rfl
      · rw [hk] at h1; simp at h1
  · by_cases hi : i < (rC L).length
    · rw [List.getElem?_append_left hi] at h1 h2
      rw [h1] at h2; cases h2
      rw [h3] at h4; cases h4
      have := pureEs_get (pureEs_rC L) h1 h3
      exact ⟨.closed _ (AVal.closed_of_pure this), AVal.isCell_of_isPure this⟩
    · rw [List.getElem?_append_right (by omega)] at h1 h2
      rcases hk : i - (rC L).length with _ | k
      · rw [hk] at h1 h2; cases h1; cases h2
        rcases j with _ | _ | _ | j
        · cases h3; cases h4; exact ⟨.closed _ rfl, rfl⟩
        · cases h3; cases h4; exact ⟨.closed _ rfl, rfl⟩
        · cases h3; cases h4; exact ⟨pubFI hid ho (by rw [vC_length]) (by rw [vC_length]) (pureEs_vC _), rfl⟩
        · simp at h3
      · rw [hk] at h1; simp at h1

set_option maxRecDepth 20000 in
theorem CopyFile_raw {P : Program} (F : F_warehouseref24_CopyFile P) (f : Fil) (hf : f.recs.length ≤ 1000000) (hr : ∀ r ∈ f.recs, r.row.length ≤ 1000000) :
    ACalls P F.id [.agg (fV f)] [] (fun r H' => ∃ c, r = .agg [.str f.id, .str f.src, c] ∧ ((f.recs = [] ∧ c = .nil) ∨ (c = .sl 3 f.recs.length 0 f.recs.length ∧ H'[3]? = some (.arr 3 (rC f.recs))))) := by
  refine acalls_of_body F.has ?_
  conv => whnf
  refine ⟨fun m ρ H1 => ∃ (k : Nat) (c : AVal), k + m = f.recs.length ∧ ((f.recs.take k = [] ∧ c = .nil ∧ H1 = [.arr 3 [fV f], resO, .arr 3 [[.str f.id, .str f.src, c]]]) ∨ (f.recs.take k ≠ [] ∧ c = .sl 3 k 0 k ∧ H1 = [.arr 3 [fV f], resO, .arr 3 [[.str f.id, .str f.src, c]], .arr 3 (rC (f.recs.take k))])) ∧
    Sv 37 [(1, .ptr 0 1 0 0), (2, .ptr 1 1 0 0), (3, .ptr 2 1 0 0), (4, .int .i64 k)] ρ, f.recs.length, [], ?_, ?_⟩
  · exact ⟨0, .nil, by omega, .inl ⟨by simp, rfl, rfl⟩, Sv.intro rfl ⟨rfl, rfl, rfl, rfl, trivial⟩⟩
  rintro m ρ H1 ⟨k, c, hk, ⟨h0, rfl, rfl⟩ | ⟨h0, rfl, rfl⟩, d, rfl⟩
  · (conv => whnf); refine recA (fun hlt => ?_) (fun hlt => ?_)
    · simp [rC_length] at hlt
      obtain ⟨x, hx, hd, hxm⟩ := get_drop hlt
      have hxr := hr x hxm
      have htk : f.recs.take (k + 1) = f.recs.take k ++ [x] := by rw [List.take_add_one, hx]; rfl
      have hk0 : k = 0 := by
        have := congrArg List.length h0
        rw [List.length_take, Nat.min_eq_left (by omega)] at this; exact this
      (conv => whnf); refine And.intro (by omega) ?_
      (conv => whnf); refine recO (rC_at hx) ?_
      (conv => whnf); refine And.intro (⟨roomMul (by rw [vC_length]; omega) (by omega), roomB_le (by rw [vC_length]; omega)⟩) ?_
      (conv => whnf); refine And.intro (⟨roomMul (by simp) (by omega), roomB_le (by simp)⟩) ?_
      repeat ((conv => whnf); refine And.intro rfl ?_)
      conv => whnf
      refine ⟨m - 1, by omega, Gp.keepL (H1 := [.arr 3 [fV f], resO, .arr 3 [[.str f.id, .str f.src, .sl 3 (k + 1) 0 (k + 1)]], .arr 3 (rC (f.recs.take (k + 1)))]) [0, 1, 2, 6] (by simp) (fun k n hk => by simp at hk) ?_ rfl ?_ fun ρ1 h => ⟨k + 1, _, by omega, .inr ⟨?_, rfl, rfl⟩, h⟩⟩
      · refine ⟨⟨_, rfl, .same _ _ (by simp [pureEs, fV, AVal.isPure])⟩, ⟨_, rfl, .same _ _ rfl⟩, ⟨_, rfl, ob3 (pubSl (k := 3) rfl rfl (by rw [hk0]; rfl) (by rw [hk0]; rfl)) rfl⟩, ⟨_, rfl, ?_⟩, trivial⟩
        rw [htk, h0]
        exact obRows (ids := [0, 1, 2, 6]) (H := [.arr 3 [fV f], resO, .arr 3 [[.str f.id, .str f.src, .sl 6 1 0 1]], .arr 3 [recC x], .arr 3 (vC x.row), .arr 3 [[.bool x.del, .int .i64 x.seq, .sl 4 (vC x.row).length 0 (vC x.row).length]], .arr 3 (rC [] ++ [[.bool x.del, .int .i64 x.seq, .sl 4 (vC x.row).length 0 (vC x.row).length]])]) [] x 4 (vC x.row).length (by simp) rfl (by rw [vC_length])
      · exact ⟨.keepP 0 _ _ _ 0 rfl, .keepP 1 _ _ _ 1 rfl, .keepP 2 _ _ _ 2 rfl, pub_int (wrapI ((k : Int) + 1) (by omega) (by omega)), trivial⟩
      · rw [htk]; simp
    · simp [rC_length] at hlt
      conv => whnf
      exact ⟨_, rfl, .inl ⟨by rw [← List.take_of_length_le hlt]; exact h0, rfl⟩⟩
  · (conv => whnf); refine recA (fun hlt => ?_) (fun hlt => ?_)
    · simp [rC_length] at hlt
      obtain ⟨x, hx, hd, hxm⟩ := get_drop hlt
      have hxr := hr x hxm
      have htk : f.recs.take (k + 1) = f.recs.take k ++ [x] := by rw [List.take_add_one, hx]; rfl
      (conv => whnf); refine And.intro (by omega) ?_
      (conv => whnf); refine recO (rC_at hx) ?_
      (conv => whnf); refine And.intro (⟨roomMul (by rw [vC_length]; omega) (by omega), roomB_le (by rw [vC_length]; omega)⟩) ?_
      (conv => whnf); refine recT (by rw [rC_length, List.length_take, Nat.min_eq_left (by omega)]; exact Nat.beq_refl _) ?_
      (conv => whnf); refine And.intro (⟨roomMul (by simp; omega) (by omega), roomB_le (by simp; omega), rfl, by rw [rC_length, List.length_take]; omega⟩) ?_
      repeat ((conv => whnf); refine And.intro rfl ?_)
      conv => whnf
      refine ⟨m - 1, by omega, Gp.keepL (H1 := [.arr 3 [fV f], resO, .arr 3 [[.str f.id, .str f.src, .sl 3 (k + 1) 0 (k + 1)]], .arr 3 (rC (f.recs.take (k + 1)))]) [0, 1, 2, 3] (by simp) (fun k n hk => by simp at hk) ?_ rfl ?_ fun ρ1 h => ⟨k + 1, _, by omega, .inr ⟨?_, rfl, rfl⟩, h⟩⟩
      · have hlen : (rC (f.recs.take k) ++ [[AVal.bool x.del, AVal.int .i64 x.seq, AVal.sl 5 (vC x.row).length 0 (vC x.row).length]]).length = k + 1 := by
          rw [List.length_append, rC_length, List.length_take, Nat.min_eq_left (by omega)]; rfl
        refine ⟨⟨_, rfl, .same _ _ (by simp [pureEs, fV, AVal.isPure])⟩, ⟨_, rfl, .same _ _ rfl⟩, ⟨_, rfl, ob3 (pubSl (k := 3) rfl rfl hlen hlen) rfl⟩, ⟨_, rfl, ?_⟩, trivial⟩
        rw [htk]
        exact obRows (ids := [0, 1, 2, 3]) (H := [.arr 3 [fV f], resO, .arr 3 [[.str f.id, .str f.src, .sl 3 _ 0 _]], .arr 3 (rC (f.recs.take k) ++ [[.bool x.del, .int .i64 x.seq, .sl 5 (vC x.row).length 0 (vC x.row).length]]), .arr 3 [recC x], .arr 3 (vC x.row), .arr 3 [[.bool x.del, .int .i64 x.seq, .sl 5 (vC x.row).length 0 (vC x.row).length]]]) (f.recs.take k) x 5 (vC x.row).length (by simp) rfl (by rw [vC_length])
      · exact ⟨.keepP 0 _ _ _ 0 rfl, .keepP 1 _ _ _ 1 rfl, .keepP 2 _ _ _ 2 rfl, pub_int (wrapI ((k : Int) + 1) (by omega) (by omega)), trivial⟩
      · rw [htk]; simp
    · simp [rC_length] at hlt
      have hkl : k = f.recs.length := by omega
      subst hkl
      conv => whnf
      refine ⟨_, rfl, .inr ⟨rfl, ?_⟩⟩
      rw [List.take_of_length_le (Nat.le_refl _)]; rfl

theorem CopyFile_spec {P : Program} (F : F_warehouseref24_CopyFile P) (f : Fil) (hf : f.recs.length ≤ 1000000) (hr : ∀ r ∈ f.recs, r.row.length ≤ 1000000) (H : List AObj) :
    ACalls P F.id [.agg (fV f)] H (fun r H' => r = .agg (fV f) ∧ H' = H) := by
  refine ACalls.weakRD (Q := fun r H' => ∃ c : AVal, ((c = .nil ∧ f.recs = []) ∨ c = .list false 3 (rC f.recs)) ∧ r = .agg [.str f.id, .str f.src, c] ∧ H' = H) ?_ (by
    rintro r H' ⟨c, hc, rfl, rfl⟩
    refine ⟨_, .aggs (.cons (.refl _) (.cons (.refl _) (.cons ?_ .nil))), rfl, rfl⟩
    rcases hc with ⟨rfl, h⟩ | rfl
    · rw [h]; exact .nil false 3
    · exact .refl _)
  have := ACalls.lift0 (P := P) (H := H) (f := F.id) (args := [.agg (fV f)]) (R := fun r => ∃ c : AVal, ((c = .nil ∧ f.recs = []) ∨ c = .list false 3 (rC f.recs)) ∧ r = .agg [.str f.id, .str f.src, c]) rfl ((CopyFile_raw F f hf hr).mono fun r H1 hq => ?_)
  · exact this.mono fun r H' h => by
      obtain ⟨⟨c, hc, rfl⟩, rfl⟩ := h
      exact ⟨c, hc, rfl, rfl⟩
  · obtain ⟨c, rfl, ⟨h0, rfl⟩ | ⟨rfl, ho⟩⟩ := hq
    · exact ⟨.agg [.str f.id, .str f.src, .nil], .closed _ rfl, _, .inl ⟨rfl, h0⟩, rfl⟩
    · refine ⟨.agg [.str f.id, .str f.src, .list false 3 (rC f.recs)], .agg _ _ rfl fun i v r hv hr => ?_, _, .inr rfl, rfl⟩
      rcases i with _ | _ | _ | i
      · cases hv; cases hr; exact .closed _ rfl
      · cases hv; cases hr; exact .closed _ rfl
      · cases hv; cases hr; exact pubFI (by simp) ho (by rw [rC_length]) (by rw [rC_length]) (pureEs_rC _)
      · simp at hv

end Go.AW

namespace Go.AW
variable [Draws]
attribute [local irreducible] ACalls
structure RowsI (f : Fil) (x : Nat) (K : List AObj) : Prop where
  g0 : K[0]? = some (.arr 3 [fV f])
  g1 : K[1]? = some (.arr 3 [fV f])
  g3 : K[3]? = some (.arr 3 (oC 4 f.recs))
  gx : K[x]? = some (.arr 3 [[.str f.id, .str f.src, .sl 3 f.recs.length 0 f.recs.length]])
  gr : ∀ (i : Nat) (r : Rec), f.recs[i]? = some r → ∃ es : List V, K[4 + i]? = some (.arr 3 (vC es)) ∧ es.length = r.row.length

theorem RowsI.set {f : Fil} {x : Nat} {K : List AObj} (h : RowsI f x K) (hx : x = 4 + f.recs.length) {i : Nat} {r : Rec} {es : List V} (hi : f.recs[i]? = some r) (he : es.length = r.row.length) : RowsI f x (K.set (4 + i) (.arr 3 (vC es))) := by
  have hil := (List.getElem?_eq_some_iff.1 hi).1
  refine ⟨?_, ?_, ?_, ?_, fun j q hj => ?_⟩
  · rw [List.getElem?_set_ne (by omega)]; exact h.g0
  · rw [List.getElem?_set_ne (by omega)]; exact h.g1
  · rw [List.getElem?_set_ne (by omega)]; exact h.g3
  · rw [List.getElem?_set_ne (by omega)]; exact h.gx
  · by_cases e : j = i
    · subst e
      rw [hi] at hj; cases hj
      obtain ⟨es0, h1, _⟩ := h.gr j r hi
      exact ⟨es, set_at h1, he⟩
    · rw [List.getElem?_set_ne (by omega)]; exact h.gr j q hj

theorem set_setK (K : List AObj) (i : Nat) (a b : AObj) : (K.set i a).set i b = K.set i b := by simp

theorem at_set2 {K : List AObj} {i j : Nat} {o a : AObj} (h : K[j]? = some o) (hne : i ≠ j) : (K.set i a)[j]? = some o := by rw [List.getElem?_set_ne hne]; exact h

theorem lent2 {H : List AObj} {a a1 b : AVal} (h : Pub H 0 [] a a1) (hb : b.closed = true) : ∀ (i : Nat) (x y : AVal), [a, b][i]? = some x → [a1, b][i]? = some y → Pub H 0 [] x y := fun i x y hx hy => by
  rcases i with _ | _ | i
  · cases hx; cases hy; exact h
  · cases hx; cases hy; exact .closed _ hb
  · simp at hx

set_option maxRecDepth 20000 in
set_option maxHeartbeats 4000000 in
theorem law_BatchOwns {P : Program} (F : F_warehouselaw24_BatchOwns P) (l : List Int) (n : Int) :
    ACalls P F.id [.list false 1 (iC l), .int .i64 n] [] (fun r _ => r = .bool true) := by
  have fin : ∀ H, ACalls P F.warehouselaw24_known.id [] H (fun r H' => r = .bool true ∧ H' = H) := known24_spec F.warehouselaw24_known
  refine acalls_of_body F.has ?_
  (conv => whnf); refine recA (fun h1 => ?_) (fun h1 => ?_)
  · (conv => whnf); refine ACalls.use (fin _) ?_
    conv => whnf
  simp [iC_length] at h1
  have hw := wname_size n
  obtain ⟨f, hf⟩ : ∃ f, f = fileV l n := ⟨_, rfl⟩
  have hE : encFE f = 0 := hf ▸ fileV_E l n
  have hsm : f.recs.length ≤ 1000000 ∧ ∀ r ∈ f.recs, r.row.length ≤ 1000000 := hf ▸ law_small l n
  have s1 : f.id.size ≤ 50000 := by rw [hf]; show (wname n).size ≤ _; omega
  have s2 : f.src.size ≤ 50000 := by rw [hf]; show sName.size ≤ _; decide
  have hN : (filB f).length ≤ 65536 := by
    rcases Nat.lt_or_ge 65536 (filB f).length with h | h
    · have h3 := hE
      unfold encFE at h3
      split at h3
      · rename_i h4; exact absurd h3 h4
      · first | cases h3 | (rw [if_pos h] at h3; cases h3)
    · exact h
  have hde := dec_enc hE
  have hz : decFE (filB f) = 0 := hde.1
  have hv : flV (dS (filB f)) = f := by
    have := hde.2.1
    rwa [decFV, if_pos hz] at this
  (conv => whnf); refine ACalls.use (file24_spec F.warehouselaw24_file l n (by omega) _) ?_
  rw [← hf]
  (conv => whnf); refine ACalls.use (CopyFile_spec F.warehouseref24_CopyFile f hsm.1 hsm.2 _) ?_
  (conv => whnf); refine ACalls.mono (batch_Encode_lent F.batch_Encode f s1 s2 hE _ _ (.closed _ rfl)) ?_
  rintro r H' ⟨rfl, rfl⟩
  (conv => whnf); refine ACalls.use (SameFile_refl F.warehouseref24_SameFile f hsm.1 hsm.2 _) ?_
  (conv => whnf); refine ACalls.mono (batch_Decode_lent F.batch_Decode (filB f) (filB_byt _) hz _ (.sl 2 (filB f).length 0 (filB f).length) (pubFI (by simp) rfl (by rw [bC_length]) (by rw [bC_length]) (pureEs_bC _))) ?_
  rw [hv]
  rintro r K ⟨hr0, hK⟩
  have hr0 : r = .tuple [dcdR f 3, .int .i64 0] := hr0
  have hK : K = .arr 3 [fV f] :: .arr 3 [fV f] :: .arr 1 (bC (filB f)) :: dcdO f 3 := hK
  have g0 : K[0]? = some (.arr 3 [fV f]) := by rw [hK]; rfl
  have g1 : K[1]? = some (.arr 3 [fV f]) := by rw [hK]; rfl
  have g2 : K[2]? = some (.arr 1 (bC (filB f))) := by rw [hK]; rfl
  by_cases hR : f.recs = []
  · have hc : dcdR f 3 = .agg [.str f.id, .str f.src, .nil] := by rw [dcdR, if_pos hR]
    rw [hc] at hr0
    subst hr0
    (conv => whnf)
    refine snocK_to ?_
    (conv => whnf); refine recO (at_snoc _ _) ?_
    (conv => whnf)
    refine setO_at (set_snoc _ _ _) ?_
    (conv => whnf); refine recO (at_old g2) ?_
    (conv => whnf); refine recT (by rw [bC_length]; exact Nat.beq_refl _) ?_
    conv => whnf
    refine ⟨fun m ρ H1 => ∃ (k : Nat) (B : List Int), k + m = (filB f).length ∧ B.length = (filB f).length ∧ H1 = (K ++ [AObj.arr 3 [[AVal.str f.id, AVal.str f.src, AVal.nil]]]).set 2 (AObj.arr 1 (bC B)) ∧
      Sv 110 [(5, .ptr 0 1 0 0), (6, .ptr 1 1 0 0), (7, .sl 2 (filB f).length 0 (filB f).length), (9, .ptr (0 + K.length) 1 0 0), (46, .int .i64 (filB f).length), (47, .int .i64 k)] ρ, (filB f).length, [], ?_, ?_⟩
    · refine ⟨0, filB f, by omega, rfl, ?_, Sv.intro rfl ⟨rfl, rfl, rfl, rfl, rfl, rfl, trivial⟩⟩
      rw [show (K ++ [AObj.arr 3 [[AVal.str f.id, AVal.str f.src, AVal.nil]]]).set 2 (AObj.arr 1 (bC (filB f))) = K ++ [AObj.arr 3 [[AVal.str f.id, AVal.str f.src, AVal.nil]]] from by
        rw [hK]; rfl]
      rfl
    rintro m ρ H1 ⟨k, B, hk, hB, rfl, d, rfl⟩
    have q2 : ((K ++ [AObj.arr 3 [[AVal.str f.id, AVal.str f.src, AVal.nil]]]).set 2 (.arr 1 (bC B)))[2]? = some (AObj.arr 1 (bC B)) := set_at (at_old g2)
    have hK3 : 3 ≤ K.length := by rw [hK]; simp
    have q0 : ((K ++ [AObj.arr 3 [[AVal.str f.id, AVal.str f.src, AVal.nil]]]).set 2 (.arr 1 (bC B)))[0]? = some (AObj.arr 3 [fV f]) := at_set2 (at_old g0) (by decide)
    have q1 : ((K ++ [AObj.arr 3 [[AVal.str f.id, AVal.str f.src, AVal.nil]]]).set 2 (.arr 1 (bC B)))[1]? = some (AObj.arr 3 [fV f]) := at_set2 (at_old g1) (by decide)
    have qx : ((K ++ [AObj.arr 3 [[AVal.str f.id, AVal.str f.src, AVal.nil]]]).set 2 (.arr 1 (bC B)))[0 + K.length]? = some (AObj.arr 3 [[AVal.str f.id, AVal.str f.src, AVal.nil]]) := at_set2 (at_snoc _ _) (by omega)
    (conv => whnf); refine recA (fun hlt => ?_) (fun hlt => ?_)
    · simp at hlt
      obtain ⟨v, hv2⟩ : ∃ v, B[k]? = some v := ⟨_, List.getElem?_eq_getElem (by omega)⟩
      (conv => whnf); refine recO (q2) ?_
      (conv => whnf); refine recT (by rw [bC_length, hB]; exact Nat.beq_refl _) ?_
      (conv => whnf); refine And.intro (⟨by omega, by omega⟩) ?_
      conv => whnf
      refine recO q2 ?_
      (conv => whnf); refine recT (by rw [bC_length, hB]; exact Nat.beq_refl _) ?_
      (conv => whnf); refine recO (by rw [Nat.zero_add, Int.toNat_natCast]; exact bC_at hv2) ?_
      (conv => whnf)
      refine setO_at (set_setK _ _ _ _) ?_
      conv => whnf
      refine ⟨m - 1, by omega, Gp.keep rfl ?_ fun ρ1 h => ⟨k + 1, B.set k 7, by omega, by simp [hB], ?_, h⟩⟩
      · exact ⟨rfl, rfl, rfl, rfl, rfl, intEq (wrapI ((k : Int) + 1) (by omega) (by omega)), trivial⟩
      · rw [setEs_eq, Nat.zero_add, Int.toNat_natCast]; simp [bC, List.map_set]
    simp at hlt
    (conv => whnf); refine recO (qx) ?_
    (conv => whnf); refine recO (q0) ?_
    conv => whnf
    have hsf := fun H => (SameFile_refl F.warehouseref24_SameFile f hsm.1 hsm.2 H).weakD (args := [.agg [.str f.id, .str f.src, .nil], .agg (fV f)]) (.cons (.aggs (.cons (.refl _) (.cons (.refl _) (.cons (by rw [hR]; exact .nil false 3) .nil)))) (.cons (.refl _) .nil))
    (conv => whnf); refine ACalls.use (hsf _) ?_
    (conv => whnf); refine recO (qx) ?_
    conv => whnf
    refine ⟨fun m ρ H1 => H1 = (K ++ [AObj.arr 3 [[AVal.str f.id, AVal.str f.src, AVal.nil]]]).set 2 (.arr 1 (bC B)) ∧
      Sv 110 [(5, .ptr 0 1 0 0), (6, .ptr 1 1 0 0), (9, .ptr (0 + K.length) 1 0 0), (60, .int .i64 0), (61, .int .i64 0)] ρ, 0, [], ?_, ?_⟩
    · exact ⟨rfl, Sv.intro rfl ⟨rfl, rfl, rfl, rfl, rfl, trivial⟩⟩
    rintro m2 ρ H1 ⟨rfl, d, rfl⟩
    (conv => whnf); refine recO (q1) ?_
    (conv => whnf); refine ACalls.mono (batch_Encode_lent F.batch_Encode f s1 s2 hE _ _ (.closed _ rfl)) ?_
    rintro r2 H2 ⟨rfl, hH2⟩
    have p0 := at_old (X := [.arr 1 (bC (filB f))]) q0
    have p1 := at_old (X := [.arr 1 (bC (filB f))]) q1
    rw [← hH2] at p0 p1
    conv => whnf
    (conv => whnf); refine ACalls.mono (batch_Decode_lent F.batch_Decode (filB f) (filB_byt _) hz _ _ (pubFI (by simp) (by rw [hH2]; exact (List.getElem?_append_right (Nat.le_refl _)).trans (by rw [Nat.sub_self]; rfl)) (by rw [bC_length]) (by rw [bC_length]) (pureEs_bC _))) ?_
    rw [hv]
    rintro r3 K2 ⟨hr3, hK2⟩
    rw [dcdR, if_pos hR] at hr3
    subst hr3
    replace p0 := at_old (X := dcdO f H2.length) p0
    replace p1 := at_old (X := dcdO f H2.length) p1
    rw [← hK2] at p0 p1
    (conv => whnf)
    refine snocK_to ?_
    (conv => whnf); refine recO (at_snoc _ _) ?_
    (conv => whnf)
    refine setO_at (set_snoc _ _ _) ?_
    (conv => whnf); refine recO (at_snoc _ _) ?_
    (conv => whnf); refine recO (at_old p0) ?_
    (conv => whnf); refine ACalls.use (hsf _) ?_
    (conv => whnf); refine recO (at_old p1) ?_
    (conv => whnf); refine recO (at_old p0) ?_
    (conv => whnf); refine ACalls.use (SameFile_refl F.warehouseref24_SameFile f hsm.1 hsm.2 _) ?_
    (conv => whnf); refine ACalls.use (fin _) ?_
    conv => whnf
  · have hc : dcdR f 3 = .agg [.str f.id, .str f.src, .sl 3 f.recs.length 0 f.recs.length] := by rw [dcdR, if_neg hR]
    rw [hc] at hr0
    subst hr0
    rw [dcdO, if_neg hR] at hK
    have hKl : K.length = 4 + f.recs.length := by rw [hK]; simp [rowO_length]; omega
    (conv => whnf)
    refine snocK_to ?_
    (conv => whnf); refine recO (at_snoc _ _) ?_
    (conv => whnf)
    refine setO_at (set_snoc _ _ _) ?_
    (conv => whnf); refine recO (at_old g2) ?_
    (conv => whnf); refine recT (by rw [bC_length]; exact Nat.beq_refl _) ?_
    conv => whnf
    refine ⟨fun m ρ H1 => ∃ (k : Nat) (B : List Int), k + m = (filB f).length ∧ B.length = (filB f).length ∧ H1 = (K ++ [AObj.arr 3 [[AVal.str f.id, AVal.str f.src, (AVal.sl 3 f.recs.length 0 f.recs.length)]]]).set 2 (AObj.arr 1 (bC B)) ∧
      Sv 110 [(5, .ptr 0 1 0 0), (6, .ptr 1 1 0 0), (7, .sl 2 (filB f).length 0 (filB f).length), (9, .ptr (0 + K.length) 1 0 0), (46, .int .i64 (filB f).length), (47, .int .i64 k)] ρ, (filB f).length, [], ?_, ?_⟩
    · refine ⟨0, filB f, by omega, rfl, ?_, Sv.intro rfl ⟨rfl, rfl, rfl, rfl, rfl, rfl, trivial⟩⟩
      rw [show (K ++ [AObj.arr 3 [[AVal.str f.id, AVal.str f.src, (AVal.sl 3 f.recs.length 0 f.recs.length)]]]).set 2 (AObj.arr 1 (bC (filB f))) = K ++ [AObj.arr 3 [[AVal.str f.id, AVal.str f.src, (AVal.sl 3 f.recs.length 0 f.recs.length)]]] from by
        rw [hK]; rfl]
      rfl
    rintro m ρ H1 ⟨k, B, hk, hB, rfl, d, rfl⟩
    have q2 : ((K ++ [AObj.arr 3 [[AVal.str f.id, AVal.str f.src, (AVal.sl 3 f.recs.length 0 f.recs.length)]]]).set 2 (.arr 1 (bC B)))[2]? = some (AObj.arr 1 (bC B)) := set_at (at_old g2)
    have hK3 : 3 ≤ K.length := by rw [hK]; simp
    have q0 : ((K ++ [AObj.arr 3 [[AVal.str f.id, AVal.str f.src, (AVal.sl 3 f.recs.length 0 f.recs.length)]]]).set 2 (.arr 1 (bC B)))[0]? = some (AObj.arr 3 [fV f]) := at_set2 (at_old g0) (by decide)
    have q1 : ((K ++ [AObj.arr 3 [[AVal.str f.id, AVal.str f.src, (AVal.sl 3 f.recs.length 0 f.recs.length)]]]).set 2 (.arr 1 (bC B)))[1]? = some (AObj.arr 3 [fV f]) := at_set2 (at_old g1) (by decide)
    have qx : ((K ++ [AObj.arr 3 [[AVal.str f.id, AVal.str f.src, (AVal.sl 3 f.recs.length 0 f.recs.length)]]]).set 2 (.arr 1 (bC B)))[0 + K.length]? = some (AObj.arr 3 [[AVal.str f.id, AVal.str f.src, (AVal.sl 3 f.recs.length 0 f.recs.length)]]) := at_set2 (at_snoc _ _) (by omega)
    (conv => whnf); refine recA (fun hlt => ?_) (fun hlt => ?_)
    · simp at hlt
      obtain ⟨v, hv2⟩ : ∃ v, B[k]? = some v := ⟨_, List.getElem?_eq_getElem (by omega)⟩
      (conv => whnf); refine recO (q2) ?_
      (conv => whnf); refine recT (by rw [bC_length, hB]; exact Nat.beq_refl _) ?_
      (conv => whnf); refine And.intro (⟨by omega, by omega⟩) ?_
      conv => whnf
      refine recO q2 ?_
      (conv => whnf); refine recT (by rw [bC_length, hB]; exact Nat.beq_refl _) ?_
      (conv => whnf); refine recO (by rw [Nat.zero_add, Int.toNat_natCast]; exact bC_at hv2) ?_
      (conv => whnf)
      refine setO_at (set_setK _ _ _ _) ?_
      conv => whnf
      refine ⟨m - 1, by omega, Gp.keep rfl ?_ fun ρ1 h => ⟨k + 1, B.set k 7, by omega, by simp [hB], ?_, h⟩⟩
      · exact ⟨rfl, rfl, rfl, rfl, rfl, intEq (wrapI ((k : Int) + 1) (by omega) (by omega)), trivial⟩
      · rw [setEs_eq, Nat.zero_add, Int.toNat_natCast]; simp [bC, List.map_set]
    simp at hlt
    (conv => whnf); refine recO (qx) ?_
    (conv => whnf); refine recO (q0) ?_
    conv => whnf
    have k3 : K[3]? = some (.arr 3 (oC 4 f.recs)) := by rw [hK]; rfl
    have kr : ∀ (i : Nat) (r : Rec), f.recs[i]? = some r → K[4 + i]? = some (.arr 3 (vC r.row)) := fun i r hr => by
      rw [hK, show 4 + i = i + 1 + 1 + 1 + 1 by omega]
      simp [rowO, hr]
    have q3 : ((K ++ [AObj.arr 3 [[AVal.str f.id, AVal.str f.src, AVal.sl 3 f.recs.length 0 f.recs.length]]]).set 2 (.arr 1 (bC B)))[3]? = some (AObj.arr 3 (oC 4 f.recs)) := at_set2 (at_old k3) (by decide)
    have qr : ∀ (i : Nat) (r : Rec), f.recs[i]? = some r → ((K ++ [AObj.arr 3 [[AVal.str f.id, AVal.str f.src, AVal.sl 3 f.recs.length 0 f.recs.length]]]).set 2 (.arr 1 (bC B)))[4 + i]? = some (.arr 3 (vC r.row)) := fun i r hr => at_set2 (at_old (kr i r hr)) (by omega)
    (conv => whnf); refine ACalls.use (ACalls.borP rfl (SameFile_refl F.warehouseref24_SameFile f hsm.1 hsm.2 []) rfl (lent2 (own_pub rfl q3 qr) rfl)) ?_
    (conv => whnf); refine recO (qx) ?_
    (conv => whnf); refine recO (q3) ?_
    (conv => whnf); refine recT (by rw [oC_length]; exact Nat.beq_refl _) ?_
    conv => whnf
    refine ⟨fun m ρ H1 => ∃ k : Nat, k + m = f.recs.length ∧ RowsI f (0 + K.length) H1 ∧
      Sv 110 [(5, .ptr 0 1 0 0), (6, .ptr 1 1 0 0), (9, .ptr (0 + K.length) 1 0 0), (60, .int .i64 f.recs.length), (61, .int .i64 k)] ρ, f.recs.length, [], ?_, ?_⟩
    · exact ⟨0, by omega, ⟨q0, q1, q3, qx, fun i r hr => ⟨_, qr i r hr, rfl⟩⟩, Sv.intro rfl ⟨rfl, rfl, rfl, rfl, rfl, trivial⟩⟩
    clear q0 q1 q2 q3 qx qr
    rintro m2 ρ H1 ⟨k2, hk2, hI, d, rfl⟩
    (conv => whnf); refine recA (fun hlt2 => ?_) (fun hlt2 => ?_)
    · simp at hlt2
      obtain ⟨x, hx, -, hxm⟩ := get_drop hlt2
      obtain ⟨es, he, hel⟩ := hI.gr k2 x hx
      have hxr := hsm.2 x hxm
      (conv => whnf); refine recO (hI.gx) ?_
      (conv => whnf); refine recO (hI.g3) ?_
      (conv => whnf); refine recT (by rw [oC_length]; exact Nat.beq_refl _) ?_
      (conv => whnf); refine And.intro (⟨by omega, by omega⟩) ?_
      (conv => whnf); refine recO (hI.g3) ?_
      (conv => whnf); refine recT (by rw [oC_length]; exact Nat.beq_refl _) ?_
      (conv => whnf); refine recO (by rw [Nat.zero_add, Int.toNat_natCast]; exact oC_get 4 _ _ _ hx) ?_
      (conv => whnf); refine recO (he) ?_
      (conv => whnf); refine recT (by rw [vC_length, hel]; exact Nat.beq_refl _) ?_
      conv => whnf
      refine ⟨fun m ρ H1 => ∃ j : Nat, j + m = x.row.length ∧ RowsI f (0 + K.length) H1 ∧
        Sv 110 [(5, .ptr 0 1 0 0), (6, .ptr 1 1 0 0), (9, .ptr (0 + K.length) 1 0 0), (12, .int .i64 k2), (60, .int .i64 f.recs.length), (61, .int .i64 k2), (70, .int .i64 x.row.length), (71, .int .i64 j)] ρ, x.row.length, [], ?_, ?_⟩
      · exact ⟨0, by omega, hI, Sv.intro rfl ⟨rfl, rfl, rfl, rfl, rfl, rfl, rfl, rfl, trivial⟩⟩
      clear hI he hel
      rintro m3 ρ H1 ⟨j, hj, hI, d, rfl⟩
      (conv => whnf); refine recA (fun hlt3 => ?_) (fun hlt3 => ?_)
      · simp at hlt3
        obtain ⟨es, he, hel⟩ := hI.gr k2 x hx
        obtain ⟨v, hv3⟩ : ∃ v, es[j]? = some v := ⟨_, List.getElem?_eq_getElem (by omega)⟩
        (conv => whnf); refine recO (hI.gx) ?_
        (conv => whnf); refine recO (hI.g3) ?_
        (conv => whnf); refine recT (by rw [oC_length]; exact Nat.beq_refl _) ?_
        (conv => whnf); refine And.intro (⟨by omega, by omega⟩) ?_
        (conv => whnf); refine recO (hI.g3) ?_
        (conv => whnf); refine recT (by rw [oC_length]; exact Nat.beq_refl _) ?_
        (conv => whnf); refine recO (by rw [Nat.zero_add, Int.toNat_natCast]; exact oC_get 4 _ _ _ hx) ?_
        (conv => whnf); refine recO (he) ?_
        (conv => whnf); refine recT (by rw [vC_length, hel]; exact Nat.beq_refl _) ?_
        (conv => whnf); refine And.intro (⟨by omega, by omega⟩) ?_
        (conv => whnf); refine recO (he) ?_
        (conv => whnf); refine recT (by rw [vC_length, hel]; exact Nat.beq_refl _) ?_
        (conv => whnf); refine recO (by rw [Nat.zero_add, Int.toNat_natCast]; exact vC_at hv3) ?_
        (conv => whnf)
        refine setO_at rfl ?_
        conv => whnf
        refine ⟨m3 - 1, by omega, Gp.keep rfl ?_ fun ρ1 h => ⟨j + 1, by omega, ?_, h⟩⟩
        · exact ⟨rfl, rfl, rfl, rfl, rfl, rfl, rfl, intEq (wrapI ((j : Int) + 1) (by omega) (by omega)), trivial⟩
        · have e : setEs (vC es) (0 + (j : Int).toNat) [.int .i64 0, .int .i64 0, .str (bs [])] = vC (es.set j ⟨0, 0, bs []⟩) := by
            rw [setEs_eq, Nat.zero_add, Int.toNat_natCast]; simp [vC, List.map_set]; rfl
          rw [show (_ : List (List AVal)) = _ from e]
          exact hI.set (by omega) hx (by simp [hel])
      · simp at hlt3
        conv => whnf
        refine ⟨m2 - 1, by omega, Gp.keep rfl ?_ fun ρ1 h => ⟨k2 + 1, by omega, hI, h⟩⟩
        exact ⟨rfl, rfl, rfl, rfl, intEq (wrapI ((k2 : Int) + 1) (by omega) (by omega)), trivial⟩
    · simp at hlt2
      (conv => whnf); refine recO (hI.g1) ?_
      (conv => whnf); refine ACalls.mono (batch_Encode_lent F.batch_Encode f s1 s2 hE _ _ (.closed _ rfl)) ?_
      rintro r2 H2 ⟨rfl, hH2⟩
      have p0 := at_old (X := [.arr 1 (bC (filB f))]) hI.g0
      have p1 := at_old (X := [.arr 1 (bC (filB f))]) hI.g1
      rw [← hH2] at p0 p1
      conv => whnf
      (conv => whnf); refine ACalls.mono (batch_Decode_lent F.batch_Decode (filB f) (filB_byt _) hz _ _ (pubFI (by simp) (by rw [hH2]; exact (List.getElem?_append_right (Nat.le_refl _)).trans (by rw [Nat.sub_self]; rfl)) (by rw [bC_length]) (by rw [bC_length]) (pureEs_bC _))) ?_
      rw [hv]
      rintro r3 K2 ⟨hr3, hK2⟩
      rw [dcdR, if_neg hR] at hr3
      subst hr3
      replace p0 := at_old (X := dcdO f H2.length) p0
      replace p1 := at_old (X := dcdO f H2.length) p1
      rw [← hK2] at p0 p1
      have p3 : K2[H2.length]? = some (.arr 3 (oC (H2.length + 1) f.recs)) := by
        rw [hK2, dcdO, if_neg hR, List.getElem?_append_right (Nat.le_refl _), Nat.sub_self]; rfl
      have pr : ∀ (i : Nat) (r : Rec), f.recs[i]? = some r → K2[H2.length + 1 + i]? = some (.arr 3 (vC r.row)) := fun i r hr => by
        rw [hK2, dcdO, if_neg hR, List.getElem?_append_right (by omega), show H2.length + 1 + i - H2.length = i + 1 by omega]
        simp [rowO, hr]
      (conv => whnf)
      refine snocK_to ?_
      (conv => whnf); refine recO (at_snoc _ _) ?_
      (conv => whnf)
      refine setO_at (set_snoc _ _ _) ?_
      (conv => whnf); refine recO (at_snoc _ _) ?_
      (conv => whnf); refine recO (at_old p0) ?_
      (conv => whnf); refine ACalls.use (ACalls.borP rfl (SameFile_refl F.warehouseref24_SameFile f hsm.1 hsm.2 []) rfl (lent2 (own_pub rfl (at_old p3) fun i r hr => at_old (pr i r hr)) rfl)) ?_
      (conv => whnf); refine recO (at_old p1) ?_
      (conv => whnf); refine recO (at_old p0) ?_
      (conv => whnf); refine ACalls.use (SameFile_refl F.warehouseref24_SameFile f hsm.1 hsm.2 _) ?_
      (conv => whnf); refine ACalls.use (fin _) ?_
      conv => whnf

end Go.AW

