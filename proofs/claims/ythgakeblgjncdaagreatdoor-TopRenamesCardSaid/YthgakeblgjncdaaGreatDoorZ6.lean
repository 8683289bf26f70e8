/-
  An abstract machine over the model, the code of functions on it, and their contracts: what the claim needs.
  No condition: definitions, plain laws, contracts over any program that has this code.
-/
import Derived.Test.YthgakeblgjncdaaGreatDoorZ5
set_option linter.all false
namespace Go.AW
variable [Draws]
attribute [local irreducible] ACalls CallE CallS Gp
set_option maxRecDepth 20000
set_option maxHeartbeats 4000000
structure ETy (cs : List Col) (zs : List Zon) (e : List Nod) (kf : Kd) : Prop where
 len : e.length ≤ 256
 hh : ∃ hf : Int, stk fH e [] = some [hf]
 gd : ∀ n ∈ e, Gd n
 zn : ∀ n ∈ e, n.op = 20 → zHas zs n.name = true
 kk : stk (fK cs) e [] = some [kf]
theorem check_t [Gls] (e1 e2 e3 : Bool) {cs : List Col} {zs : List Zon} {e : List Nod} {kf : Kd} (he : ETy cs zs e kf) (hc : cs.length ≤ 100000) (hv : vldC cs = 0) (hz : ZsOk zs) (H : List AObj) :
  ACalls pr 265 [.list e1 6 (mC nodC e), .list e2 3 (mC colC cs), .list e3 3 (mC zonC zs)] H (fun r H' => r = .int .i64 0 ∧ H' = H) := by
 obtain ⟨hf, hs⟩ := he.hh
 have hzl := hz.len
 refine ACalls.pure rfl (acalls_of_body k265.has ?_)
 (conv => whnf); refine ACalls.use (val_t e1 e he.len hs _) ?_
 (conv => whnf); refine ACalls.use (schema_Validate_spec e2 cs (by omega) _) ?_
 rw [hv]
 conv => whnf
 refine ⟨fun m ρ H1 => ∃ k : Nat, k + m = zs.length ∧ H1 = [] ∧ Sv 34 [(22, .list e3 3 (mC zonC zs)), (23, .int .i64 zs.length), (24, .int .i64 k)] ρ, zs.length, [], ?_, ?_⟩
 ·exact ⟨0, Nat.zero_add _, rfl, Sv.intro rfl ⟨rfl, intEq (by rw [mC_length]), rfl, trivial⟩⟩
 rintro m ρ H1 ⟨k, hk, rfl, d, rfl⟩
 (conv => whnf); refine recA (fun hlt => ?_) (fun hlt => ?_)
 ·simp at hlt
  obtain ⟨z, hzk, _, hm⟩ := get_drop (l := zs) (k := k) (by omega)
  (conv => whnf); refine And.intro (by omega) ?_
  (conv => whnf); refine recO (mC_at hzk) ?_
  (conv => whnf); refine ACalls.use ((zvalid_t (hz.vd z hm)).a _) ?_
  conv => whnf
  refine ⟨m - 1, by omega, Gp.cut (H := []) rfl trivial rfl rfl ?_ fun ρ1 h => ⟨k + 1, by omega, rfl, h⟩⟩
  exact ⟨rfl, rfl, intEq (nx1 (by omega)), trivial⟩
 ·conv => whnf
  exact .closed _ rfl
theorem lentD {α : Type} {f : α → List AVal} (hf : ∀ x, (f x).all AVal.isPure = true) {sz : Nat} {st : List α} {D r : Nat} (hD : D ≤ st.length) (hr : r ≤ D) {H : List AObj} (ho : H[0]? = some (.arr sz (mC f st))) : Lent H (.sl 0 st.length (0 + ((r : Nat) : Int).toNat) (D - ((r : Nat) : Int).toNat)) (.list false sz (mC f ((st.take D).drop r))) := by
 have := Lent.sl 0 st.length (0 + ((r : Nat) : Int).toNat) (D - ((r : Nat) : Int).toNat) sz (mC f st) ho (mC_length _ _).symm (mC_pure hf st)
 rwa [show ((mC f st).drop (0 + ((r : Nat) : Int).toNat)).take (D - ((r : Nat) : Int).toNat) = mC f ((st.take D).drop r) from by rw [Nat.zero_add, Int.toNat_natCast, mC, mC, ← List.map_drop, ← List.map_take, List.drop_take]] at this
theorem type_t [Gls] (e1 e2 e3 : Bool) {cs : List Col} {zs : List Zon} {e : List Nod} {kf : Kd} (he : ETy cs zs e kf) (hc : cs.length ≤ 100000) (hv : vldC cs = 0) (hz : ZsOk zs) (H : List AObj) :
  ACalls pr 231 [.list e1 6 (mC nodC e), .list e2 3 (mC colC cs), .list e3 3 (mC zonC zs)] H (fun r H' => r = .tuple [.int .i64 kf.1, .bool kf.2, .int .i64 0] ∧ H' = H) := by
 have hel := he.len
 refine ACalls.pure rfl (acalls_of_body k231.has ?_)
 (conv => whnf); refine ACalls.use (check_t e1 e2 e3 he hc hv hz _) ?_
 conv => whnf
 refine ⟨fun m ρ H1 => ∃ (k : Nat) (st : List Kd) (D : Nat), k + m = e.length ∧ stk (fK cs) (e.drop k) (st.take D) = some [kf] ∧ D ≤ st.length ∧ st.length ≤ k ∧ H1 = [.arr 2 (mC kC st)] ∧ Sv 105 [(0, .list e1 6 (mC nodC e)), (1, .list e2 3 (mC colC cs)), (2, .list e3 3 (mC zonC zs)), (10, .sl 0 st.length 0 D), (26, .list e1 6 (mC nodC e)), (27, .int .i64 e.length), (28, .int .i64 k)] ρ, e.length, [(10, 2)], ?_, ?_⟩
 ·exact ⟨0, [], 0, by omega, he.kk, Nat.le_refl _, Nat.le_refl _, rfl, Sv.intro rfl ⟨rfl, rfl, rfl, rfl, rfl, intEq (by rw [mC_length]), rfl, trivial⟩⟩
 rintro m ρ H1 ⟨k, st, D, hk, hD, hDl, hst, rfl, d, rfl⟩
 have hn : (mC kC st).length = st.length := mC_length _ _
 have hb : Nat.beq st.length (mC kC st).length = true := by rw [hn]; exact Nat.beq_refl _
 (conv => whnf); refine recA (fun hlt => ?_) (fun hlt => ?_)
 ·simp at hlt
  obtain ⟨n, hnk, hdk, hm⟩ := get_drop (l := e) (k := k) (by omega)
  rw [hdk] at hD
  obtain ⟨y, ha, hy, hD2⟩ := stk_inv hD
  have gd := he.gd n hm
  have hlD : (st.take D).length = D := by simp; omega
  rw [hlD] at ha hy hD2
  have a0 := gd.ar3
  obtain ⟨a, hna⟩ : ∃ a : Nat, arN n = a := ⟨(arN n).toNat, by omega⟩
  rw [hna] at ha hy hD2
  simp only [Int.toNat_natCast] at ha hy hD2
  (conv => whnf); refine And.intro (by omega) ?_
  (conv => whnf); refine recO (mC_at hnk) ?_
  (conv => whnf); refine recT (hb) ?_
  (conv => whnf); refine ACalls.use ((arity_t n).a _) ?_
  rw [hna]
  have hw : IntKind.i64.wrap ((D : Int) - a) = ((D - a : Nat) : Int) := by rw [wrapI _ (by omega) (by omega)]; omega
  conv => whnf
  rw [hw]
  obtain ⟨r, hrr⟩ : ∃ r, r = D - a := ⟨_, rfl⟩
  rw [← hrr] at hy hD2
  rw [← hrr]
  have hdl : (((st.take D).drop r).length : Int) = arN n := by rw [List.length_drop, hlD]; omega
  by_cases h1 : n.op = 1
  ·have hci : ∃ c, 0 ≤ colIdx cs n.name ∧ cs[(colIdx cs n.name).toNat]? = some c ∧ y = (c.kind, c.nul) := by
    unfold fK at hy
    rw [if_neg (by omega), if_pos h1] at hy
    split at hy
    ·rename_i h0
     cases hc : cs[(colIdx cs n.name).toNat]? with
     | none => rw [hc] at hy; cases hy
     | some c => rw [hc] at hy; cases hy; exact ⟨c, h0, rfl, rfl⟩
    ·cases hy
   obtain ⟨c, hc0, hcc, rfl⟩ := hci
   (conv => whnf); refine recT (by rw [h1]; rfl) ?_
   (conv => whnf); refine ACalls.use (schema_Index_spec e2 cs (by omega) n.name _) ?_
   (conv => whnf); refine recF (by simpa using hc0) ?_
   (conv => whnf); refine And.intro hc0 ?_
   (conv => whnf); refine recO (mC_at hcc) ?_
   (conv => whnf); refine And.intro hc0 ?_
   (conv => whnf); refine recO (mC_at hcc) ?_
   (conv => whnf); refine recT (hb) ?_
   (conv => whnf); refine And.intro (by omega) ?_
   (conv => whnf); refine recT (hb) ?_
   obtain ⟨q1, q2, q3⟩ := stP_take (show r ≤ D by omega) hDl (c.kind, c.nul)
   (conv => whnf); refine recA (fun hfit => ?_) (fun hfit => ?_)
   ·replace hfit : (Nat.ble (0 + 0 + (((r : Nat) : Int).toNat - 0) + 1) (mC kC st).length && true) = true := hfit
    rw [hn, Bool.and_true, Nat.ble_eq] at hfit
    have hfit2 : r + 1 ≤ st.length := by omega
    have hcc : (mC kC st).take (0 + 0 + (((r : Nat) : Int).toNat - 0)) ++ [kC (c.kind, c.nul)] ++ (mC kC st).drop (0 + 0 + (((r : Nat) : Int).toNat - 0) + 1) = mC kC (stP st r (c.kind, c.nul)) := by
     rw [show 0 + 0 + (((r : Nat) : Int).toNat - 0) = r by omega, stP, if_pos hfit2]; simp [mC, List.map_take, List.map_drop]
    have hll : (stP st r (c.kind, c.nul)).length = st.length := by rw [stP, if_pos hfit2]; simp; omega
    conv => whnf
    refine ⟨m - 1, by omega, Gp.cut (H := [.arr 2 (mC kC (stP st r (c.kind, c.nul)))]) (by rw [← hcc]; rfl) ⟨lowP (kC_pure _), trivial⟩ rfl rfl ?_ fun ρ1 hh => ⟨k + 1, stP st r (c.kind, c.nul), r + 1, by omega, by rw [q1]; exact hD2, by omega, by omega, rfl, hh⟩⟩
    exact ⟨rfl, rfl, rfl, by rw [hll, show r + 1 = ((r : Nat) : Int).toNat - 0 + 1 by omega]; rfl, rfl, rfl, intEq (nx1 (by omega)), trivial⟩
   ·replace hfit : (Nat.ble (0 + 0 + (((r : Nat) : Int).toNat - 0) + 1) (mC kC st).length && true) = false := hfit
    have hf2 : st.length < r + 1 := by
     rw [Bool.and_true, hn] at hfit
     exact Nat.lt_of_not_le fun hc => by rw [Nat.ble_eq_true_of_le (show 0 + 0 + (((r : Nat) : Int).toNat - 0) + 1 ≤ st.length by omega)] at hfit; cases hfit
    (conv => whnf); refine recT (hb) ?_
    (conv => whnf); refine And.intro (⟨by simp [roomB]; omega, by simp [roomB]; omega, rfl, by rw [hn]; omega⟩) ?_
    conv => whnf
    have hss : stP st r (c.kind, c.nul) = st ++ [(c.kind, c.nul)] := by rw [stP, if_neg (by omega)]
    have hcc : mC kC st ++ [kC (c.kind, c.nul)] = mC kC (stP st r (c.kind, c.nul)) := by rw [hss]; simp [mC]
    have hll : (stP st r (c.kind, c.nul)).length = r + 1 := by rw [hss]; simp; omega
    have hcl : (mC kC st ++ [kC (c.kind, c.nul)]).length = r + 1 := by rw [hcc, mC_length, hll]
    refine ⟨m - 1, by omega, Gp.cut (H := [.arr 2 (mC kC (stP st r (c.kind, c.nul)))]) (by rw [← hcc]; rfl) ⟨lowP (kC_pure _), trivial⟩ rfl rfl ?_ fun ρ1 hh => ⟨k + 1, stP st r (c.kind, c.nul), r + 1, by omega, by rw [q1]; exact hD2, by omega, by omega, rfl, hh⟩⟩
    exact ⟨rfl, rfl, rfl, slEq (by rw [hll]; exact hcl) hcl, rfl, rfl, intEq (nx1 (by omega)), trivial⟩
  have hop : n.op ≠ 21 := fun h => by have := gd.op; omega
  by_cases h20 : n.op = 20
  ·obtain ⟨rz, ⟨z, hzm, rfl⟩, hfz⟩ := find_t e3 hz.len (he.zn n hm h20)
   (conv => whnf); refine recF (by simpa using h1) ?_
   (conv => whnf); refine recF (by simpa using hop) ?_
   (conv => whnf); refine recT (by simpa using h20) ?_
   (conv => whnf); refine ACalls.use (hfz _) ?_
   (conv => whnf); refine recT (hb) ?_
   (conv => whnf); refine And.intro (by omega) ?_
   conv => whnf
   refine ⟨_, ACalls.bor rfl (((typed_t gd false hdl hy h1).a []).mono fun _ _ h => h.1) (.cons (.same _ rfl) (.cons (lentD (fun _ => rfl) hDl (by omega) rfl) .nil)), ?_⟩
   (conv => whnf); refine recT (hb) ?_
   (conv => whnf); refine And.intro (by omega) ?_
   (conv => whnf); refine recT (hb) ?_
   obtain ⟨q1, q2, q3⟩ := stP_take (show r ≤ D by omega) hDl y
   (conv => whnf); refine recA (fun hfit => ?_) (fun hfit => ?_)
   ·replace hfit : (Nat.ble (0 + 0 + (((r : Nat) : Int).toNat - 0) + 1) (mC kC st).length && true) = true := hfit
    rw [hn, Bool.and_true, Nat.ble_eq] at hfit
    have hfit2 : r + 1 ≤ st.length := by omega
    have hcc : (mC kC st).take (0 + 0 + (((r : Nat) : Int).toNat - 0)) ++ [kC y] ++ (mC kC st).drop (0 + 0 + (((r : Nat) : Int).toNat - 0) + 1) = mC kC (stP st r y) := by
     rw [show 0 + 0 + (((r : Nat) : Int).toNat - 0) = r by omega, stP, if_pos hfit2]; simp [mC, List.map_take, List.map_drop]
    have hll : (stP st r y).length = st.length := by rw [stP, if_pos hfit2]; simp; omega
    conv => whnf
    refine ⟨m - 1, by omega, Gp.cut (H := [.arr 2 (mC kC (stP st r y))]) (by rw [← hcc]; rfl) ⟨lowP (kC_pure _), trivial⟩ rfl rfl ?_ fun ρ1 hh => ⟨k + 1, stP st r y, r + 1, by omega, by rw [q1]; exact hD2, by omega, by omega, rfl, hh⟩⟩
    exact ⟨rfl, rfl, rfl, by rw [hll, show r + 1 = ((r : Nat) : Int).toNat - 0 + 1 by omega]; rfl, rfl, rfl, intEq (nx1 (by omega)), trivial⟩
   ·replace hfit : (Nat.ble (0 + 0 + (((r : Nat) : Int).toNat - 0) + 1) (mC kC st).length && true) = false := hfit
    have hf2 : st.length < r + 1 := by
     rw [Bool.and_true, hn] at hfit
     exact Nat.lt_of_not_le fun hc => by rw [Nat.ble_eq_true_of_le (show 0 + 0 + (((r : Nat) : Int).toNat - 0) + 1 ≤ st.length by omega)] at hfit; cases hfit
    (conv => whnf); refine recT (hb) ?_
    (conv => whnf); refine And.intro (⟨by simp [roomB]; omega, by simp [roomB]; omega, rfl, by rw [hn]; omega⟩) ?_
    conv => whnf
    have hss : stP st r y = st ++ [y] := by rw [stP, if_neg (by omega)]
    have hcc : mC kC st ++ [kC y] = mC kC (stP st r y) := by rw [hss]; simp [mC]
    have hll : (stP st r y).length = r + 1 := by rw [hss]; simp; omega
    have hcl : (mC kC st ++ [kC y]).length = r + 1 := by rw [hcc, mC_length, hll]
    refine ⟨m - 1, by omega, Gp.cut (H := [.arr 2 (mC kC (stP st r y))]) (by rw [← hcc]; rfl) ⟨lowP (kC_pure _), trivial⟩ rfl rfl ?_ fun ρ1 hh => ⟨k + 1, stP st r y, r + 1, by omega, by rw [q1]; exact hD2, by omega, by omega, rfl, hh⟩⟩
    exact ⟨rfl, rfl, rfl, slEq (by rw [hll]; exact hcl) hcl, rfl, rfl, intEq (nx1 (by omega)), trivial⟩
  ·(conv => whnf); refine recF (by simpa using h1) ?_
   (conv => whnf); refine recF (by simpa using hop) ?_
   (conv => whnf); refine recF (by simpa using h20) ?_
   (conv => whnf); refine recT (hb) ?_
   (conv => whnf); refine And.intro (by omega) ?_
   conv => whnf
   refine ⟨_, ACalls.bor rfl (((typed_t gd false hdl hy h1).a []).mono fun _ _ h => h.1) (.cons (.same _ rfl) (.cons (lentD (fun _ => rfl) hDl (by omega) rfl) .nil)), ?_⟩
   (conv => whnf); refine recT (hb) ?_
   (conv => whnf); refine And.intro (by omega) ?_
   (conv => whnf); refine recT (hb) ?_
   obtain ⟨q1, q2, q3⟩ := stP_take (show r ≤ D by omega) hDl y
   (conv => whnf); refine recA (fun hfit => ?_) (fun hfit => ?_)
   ·replace hfit : (Nat.ble (0 + 0 + (((r : Nat) : Int).toNat - 0) + 1) (mC kC st).length && true) = true := hfit
    rw [hn, Bool.and_true, Nat.ble_eq] at hfit
    have hfit2 : r + 1 ≤ st.length := by omega
    have hcc : (mC kC st).take (0 + 0 + (((r : Nat) : Int).toNat - 0)) ++ [kC y] ++ (mC kC st).drop (0 + 0 + (((r : Nat) : Int).toNat - 0) + 1) = mC kC (stP st r y) := by
     rw [show 0 + 0 + (((r : Nat) : Int).toNat - 0) = r by omega, stP, if_pos hfit2]; simp [mC, List.map_take, List.map_drop]
    have hll : (stP st r y).length = st.length := by rw [stP, if_pos hfit2]; simp; omega
    conv => whnf
    refine ⟨m - 1, by omega, Gp.cut (H := [.arr 2 (mC kC (stP st r y))]) (by rw [← hcc]; rfl) ⟨lowP (kC_pure _), trivial⟩ rfl rfl ?_ fun ρ1 hh => ⟨k + 1, stP st r y, r + 1, by omega, by rw [q1]; exact hD2, by omega, by omega, rfl, hh⟩⟩
    exact ⟨rfl, rfl, rfl, by rw [hll, show r + 1 = ((r : Nat) : Int).toNat - 0 + 1 by omega]; rfl, rfl, rfl, intEq (nx1 (by omega)), trivial⟩
   ·replace hfit : (Nat.ble (0 + 0 + (((r : Nat) : Int).toNat - 0) + 1) (mC kC st).length && true) = false := hfit
    have hf2 : st.length < r + 1 := by
     rw [Bool.and_true, hn] at hfit
     exact Nat.lt_of_not_le fun hc => by rw [Nat.ble_eq_true_of_le (show 0 + 0 + (((r : Nat) : Int).toNat - 0) + 1 ≤ st.length by omega)] at hfit; cases hfit
    (conv => whnf); refine recT (hb) ?_
    (conv => whnf); refine And.intro (⟨by simp [roomB]; omega, by simp [roomB]; omega, rfl, by rw [hn]; omega⟩) ?_
    conv => whnf
    have hss : stP st r y = st ++ [y] := by rw [stP, if_neg (by omega)]
    have hcc : mC kC st ++ [kC y] = mC kC (stP st r y) := by rw [hss]; simp [mC]
    have hll : (stP st r y).length = r + 1 := by rw [hss]; simp; omega
    have hcl : (mC kC st ++ [kC y]).length = r + 1 := by rw [hcc, mC_length, hll]
    refine ⟨m - 1, by omega, Gp.cut (H := [.arr 2 (mC kC (stP st r y))]) (by rw [← hcc]; rfl) ⟨lowP (kC_pure _), trivial⟩ rfl rfl ?_ fun ρ1 hh => ⟨k + 1, stP st r y, r + 1, by omega, by rw [q1]; exact hD2, by omega, by omega, rfl, hh⟩⟩
    exact ⟨rfl, rfl, rfl, slEq (by rw [hll]; exact hcl) hcl, rfl, rfl, intEq (nx1 (by omega)), trivial⟩
 ·simp at hlt
  have hk2 : k = e.length := by omega
  subst hk2
  rw [List.drop_length] at hD
  have hD1 : st.take D = [kf] := Option.some.inj hD
  have hlD : (st.take D).length = D := by simp; omega
  obtain rfl : D = 1 := by rw [hD1] at hlD; exact hlD.symm
  obtain ⟨kk, rest, rfl⟩ : ∃ kk rest, st = kk :: rest := by
   cases st with
   | nil => simp at hDl
   | cons x xs => exact ⟨x, xs, rfl⟩
  obtain rfl : kk = kf := by simpa using hD1
  repeat' ((conv => whnf); first | refine recT hb ?_ | refine And.intro (by first | decide | omega) ?_)
  all_goals (conv => whnf)
  exact pub3 (.closed _ rfl) (.closed _ rfl) (.closed _ rfl)
end Go.AW

namespace Go.AW
variable [Draws]
attribute [local irreducible] ACalls CallE CallS Gp
set_option maxRecDepth 20000
set_option maxHeartbeats 4000000
theorem cC_pure (cs : List Col) : pureEs (cC cs) = true := by simp [pureEs, cC, colC, AVal.isPure]
theorem cloneC_raw (f : Bool) (cs : List Col) (hne : cs ≠ []) (hl : cs.length ≤ 1000) : ACalls pr 175 [.list f 3 (cC cs)] [] (fun r H' => r = .sl 0 cs.length 0 cs.length ∧ H' = [.arr 3 (cC cs)]) := by
 have hn := cC_length cs
 obtain ⟨c, cs', rfl⟩ : ∃ c cs', cs = c :: cs' := by
  cases cs with
  | nil => exact absurd rfl hne
  | cons c cs' => exact ⟨c, cs', rfl⟩
 refine acalls_of_body k175.has ?_
 (conv => whnf); refine And.intro (fun h => by cases h) ?_
 (conv => whnf); refine And.intro (⟨by simp [roomB, cC] at hl ⊢; omega, by simp [roomB, cC] at hl ⊢; omega, .inr rfl⟩) ?_
 conv => whnf
 exact ⟨slEq (by simp [cC]) (by simp [cC]), rfl⟩
theorem cloneC_t (f : Bool) (cs : List Col) (hne : cs ≠ []) (hl : cs.length ≤ 1000) (H : List AObj) : ACalls pr 175 [.list f 3 (cC cs)] H (fun r H' => r = .list false 3 (cC cs) ∧ H' = H) :=
 ACalls.frz1 rfl (cloneC_raw f cs hne hl) (cC_length cs).symm (cC_pure cs)
theorem zoned_t (x : Bool) {zs : List Zon} (hz : ZsOk zs) (H : List AObj) : ACalls pr 71 [.list x 3 (mC zonC zs)] H (fun r H' => r = .int .i64 0 ∧ H' = H) := by
 have hzl := hz.len
 refine ACalls.pure rfl (acalls_of_body k71.has ?_)
 conv => whnf
 refine ⟨fun m ρ H1 => ∃ k : Nat, k + m = zs.length ∧ H1 = [] ∧ Sv 18 [(6, .list x 3 (mC zonC zs)), (7, .int .i64 zs.length), (8, .int .i64 k)] ρ, zs.length, [], ?_, ?_⟩
 ·exact ⟨0, Nat.zero_add _, rfl, Sv.intro rfl ⟨rfl, intEq (by rw [mC_length]), rfl, trivial⟩⟩
 rintro m ρ H1 ⟨k, hk, rfl, d, rfl⟩
 (conv => whnf); refine recA (fun hlt => ?_) (fun hlt => ?_)
 ·simp at hlt
  obtain ⟨z, hzk, _, hm⟩ := get_drop (l := zs) (k := k) (by omega)
  (conv => whnf); refine And.intro (by omega) ?_
  (conv => whnf); refine recO (mC_at hzk) ?_
  (conv => whnf); refine ACalls.use ((zvalid_t (hz.vd z hm)).a _) ?_
  conv => whnf
  refine ⟨m - 1, by omega, Gp.cut (H := []) rfl trivial rfl rfl ?_ fun ρ1 h => ⟨k + 1, by omega, rfl, h⟩⟩
  exact ⟨rfl, rfl, intEq (nx1 (by omega)), trivial⟩
 ·conv => whnf
  exact .closed _ rfl
theorem condition_t [Gls] (e1 e2 e3 : Bool) {cs : List Col} {zs : List Zon} {e : List Nod} {kf : Kd} (he : ETy cs zs e kf) (hk : kf.1 = 1 ∨ kf.1 = 0) (hc : cs.length ≤ 100000) (hv : vldC cs = 0) (hz : ZsOk zs) (H : List AObj) :
  ACalls pr 176 [.list e1 6 (mC nodC e), .list e2 3 (mC colC cs), .list e3 3 (mC zonC zs)] H (fun r H' => r = .int .i64 0 ∧ H' = H) := by
 obtain ⟨kk, kn⟩ := kf
 refine ACalls.pure rfl (acalls_of_body k176.has ?_)
 (conv => whnf); refine ACalls.use (type_t e1 e2 e3 he hc hv hz _) ?_
 rcases hk with rfl | rfl
 ·conv => whnf
  exact .closed _ rfl
 ·conv => whnf
  exact .closed _ rfl
def ordN : ByteArray := bs [111, 114, 100, 101, 114, 115]
def spC : Option (List Nod) → List AVal
 | none => [.int .i64 0, .str ordN, .nil, .nil, .nil, .nil]
 | some e => [.int .i64 1, .str (bs []), .nil, .nil, .nil, .list false 6 (mC nodC e)]
theorem sp_pure (s : Option (List Nod)) : (spC s).all AVal.isPure = true := by cases s <;> rfl
theorem qshaped_t [Gls] (s : Option (List Nod)) (H : List AObj) : ACalls pr 146 [.agg (spC s)] H (fun r H' => r = .bool true ∧ H' = H) := by
 cases s with
 | none =>
  refine ACalls.pure rfl (acalls_of_body k146.has ?_)
  (conv => whnf); refine recO Gls.us ?_
  (conv => whnf); refine And.intro (by decide) ?_
  conv => whnf
  exact .closed _ rfl
 | some e =>
  refine ACalls.pure rfl (acalls_of_body k146.has ?_)
  (conv => whnf); refine recO Gls.us ?_
  (conv => whnf); refine And.intro (by decide) ?_
  conv => whnf
  exact .closed _ rfl
theorem source_t [Gls] (b : Bool) (H : List AObj) : ACalls pr 148 [.str ordN, .bool b] H (fun r H' => r = .int .i64 0 ∧ H' = H) := by
 have h1 : qualB ordN = true := by decide
 have h2 : resB ordN = false := by decide
 refine ACalls.pure rfl (acalls_of_body k148.has ?_)
 cases b
 all_goals
  (conv => whnf); refine ACalls.use (schema_IsQualified_spec ordN (by decide) _) ?_
  rw [h1]
  (conv => whnf); refine ACalls.use ((reserved_t ordN).a _) ?_
  rw [h2]
  conv => whnf
  exact .closed _ rfl
def SpOk (cs : List Col) (zs : List Zon) (s : Option (List Nod)) : Prop := ∀ e, s = some e → ∃ kf, ETy cs zs e kf ∧ (kf.1 = 1 ∨ kf.1 = 0)
theorem vstep_t [Gls] {cs : List Col} {zs : List Zon} {s : Option (List Nod)} (hs : SpOk cs zs s) (H : List AObj) : ACalls pr 94 [.agg (spC s)] H (fun r H' => r = .int .i64 0 ∧ H' = H) := by
 cases s with
 | none =>
  refine ACalls.pure rfl (acalls_of_body k94.has ?_)
  (conv => whnf); refine ACalls.use (qshaped_t none _) ?_
  (conv => whnf); refine ACalls.use (source_t false _) ?_
  conv => whnf
  exact .closed _ rfl
 | some e =>
  obtain ⟨kf, he, _⟩ := hs e rfl
  obtain ⟨hf, hh⟩ := he.hh
  refine ACalls.pure rfl (acalls_of_body k94.has ?_)
  (conv => whnf); refine ACalls.use (qshaped_t (some e) _) ?_
  (conv => whnf); refine ACalls.use (val_t false e he.len hh _) ?_
  conv => whnf
  exact .closed _ rfl
end Go.AW

namespace Go.AW
variable [Draws]
attribute [local irreducible] ACalls CallE CallS Gp
set_option maxRecDepth 20000
set_option maxHeartbeats 4000000
structure RlR where
 name : ByteArray
 fc : Bool
 cols : List Col
 rows : List Ent
def rlC (r : RlR) : List AVal := [.str r.name, .list r.fc 3 (cC r.cols), .nil, .list false 2 (eC r.rows)]
def rlN (nm : ByteArray) (r : RlR) : Bool := r.name.data.toList == nm.data.toList
theorem idxR_t (g : FuncId) (caps : List AVal) (p : RlR → Bool) (H : List AObj) (cs : List RlR) (hg : ∀ c ∈ cs, ACalls pr g ([.agg (rlC c)] ++ caps) H (fun r H' => r = .bool (p c) ∧ H' = H)) (ex : Bool) (hl : cs.length ≤ 1000000) :
  ACalls pr 46 [.list ex 4 (mC rlC cs), .fn g caps] H (fun r H' => r = .int .i64 (idxOf p cs 0) ∧ H' = H) := by
 refine acalls_of_body k46.has ?_
 conv => whnf
 refine ⟨fun m ρ H1 => ∃ k : Nat, k + m = cs.length ∧ idxOf p (cs.drop k) k = idxOf p cs 0 ∧ H1 = H ∧
  Sv 19 [(0, .list ex 4 (mC rlC cs)), (1, .fn g caps), (7, .int .i64 cs.length), (8, .int .i64 k)] ρ, cs.length, [], ?_, ?_⟩
 ·exact ⟨0, by omega, rfl, rfl, Sv.intro rfl ⟨rfl, rfl, intEq (by rw [mC_length]), rfl, trivial⟩⟩
 rintro m ρ H1 ⟨k, hk, hr, rfl, d, rfl⟩
 (conv => whnf); refine recA (fun hlt => ?_) (fun hlt => ?_)
 ·simp at hlt
  obtain ⟨c, hc, hd, hcm⟩ := get_drop hlt
  rw [hd] at hr
  (conv => whnf); refine And.intro (by omega) ?_
  (conv => whnf); refine recO (mC_at hc) ?_
  (conv => whnf); refine ACalls.use (hg c hcm) ?_
  (conv => whnf); refine recA (fun hp => ?_) (fun hp => ?_)
  ·conv => whnf
   refine ⟨intEq ?_, rfl⟩
   rw [← hr, idxOf, if_pos (show p c = true from hp)]
  ·conv => whnf
   refine ⟨m - 1, by omega, Gp.keep rfl ?_ fun ρ1 h => ⟨k + 1, by omega, ?_, rfl, h⟩⟩
   ·exact ⟨rfl, rfl, rfl, intEq (wrapI ((k : Int) + 1) (by omega) (by omega)), trivial⟩
   ·rw [← hr, idxOf, if_neg (by rw [show p c = false from hp]; simp)]; rfl
 ·simp at hlt
  conv => whnf
  rw [List.drop_eq_nil_of_le hlt] at hr
  exact ⟨intEq hr, rfl⟩
theorem tfind1_t (z : RlR) (nm : ByteArray) (o : AObj) : ACalls pr 103 ([.agg (rlC z)] ++ [.ptr 0 1 0 0]) [.arr 1 [[.str nm]], o] (fun r H' => r = .bool (rlN nm z) ∧ H' = [.arr 1 [[.str nm]], o]) := by
 refine ACalls.drop rfl (acalls_of_body k103.has ?_)
 conv => whnf
 exact ⟨rfl, _, rfl⟩
theorem tfind_t (x : Bool) {r0 : RlR} {R : List RlR} (hl : R.length ≤ 1000) (hn : r0.name = ordN) (H : List AObj) : ACalls pr 72 [.list x 4 (mC rlC (r0 :: R)), .str ordN] H (fun r H' => r = .tuple [.agg (rlC r0), .bool true] ∧ H' = H) := by
 have h0 : idxOf (rlN ordN) (r0 :: R) 0 = 0 := by
  rw [idxOf, if_pos (by unfold rlN; rw [hn]; exact beq_self_eq_true _)]
 refine ACalls.pure rfl (acalls_of_body k72.has ?_)
 (conv => whnf); refine ACalls.use (idxR_t _ _ (rlN ordN) _ (r0 :: R) (fun c _ => tfind1_t c ordN _) x (by simp; omega)) ?_
 rw [h0]
 repeat ((conv => whnf); refine And.intro (by decide) ?_)
 conv => whnf
 exact pub2 (.closed _ rfl) (.closed _ rfl)
theorem tOp0_t (fc e3 : Bool) (cs : List Col) (hne : cs ≠ []) (hl : cs.length ≤ 1000) (zs : List Zon) (H : List AObj) :
  ACalls pr 104 [.nil, .agg (spC none), .list fc 3 (cC cs), .list e3 3 (mC zonC zs)] H (fun r H' => r = .tuple [.list false 3 (cC cs), .int .i64 0] ∧ H' = H) := by
 refine ACalls.pure rfl (acalls_of_body k104.has ?_)
 (conv => whnf); refine ACalls.use (cloneC_t fc cs hne hl _) ?_
 conv => whnf
 exact pub2 (.closed _ rfl) (.closed _ rfl)
structure CsOk (cs : List Col) : Prop where
 ne : cs ≠ []
 len : cs.length ≤ 1000
 vd : vldC cs = 0
theorem tOp1_t [Gls] (fc e3 : Bool) {cs : List Col} (hcs : CsOk cs) {zs : List Zon} (hz : ZsOk zs) {e : List Nod} (hs : SpOk cs zs (some e)) (H : List AObj) :
  ACalls pr 104 [.list fc 3 (cC cs), .agg (spC (some e)), .nil, .list e3 3 (mC zonC zs)] H (fun r H' => r = .tuple [.list false 3 (cC cs), .int .i64 0] ∧ H' = H) := by
 obtain ⟨kf, he, hk⟩ := hs e rfl
 have hl := hcs.len
 refine ACalls.pure rfl (acalls_of_body k104.has ?_)
 conv => whnf
 refine ⟨_, cloneC_t fc cs hcs.ne hl _, ?_⟩
 conv => whnf
 refine ⟨_, condition_t false fc e3 he hk (by omega) hcs.vd hz _, ?_⟩
 conv => whnf
 exact pub2 (.closed _ rfl) (.closed _ rfl)
theorem tStep0_t [Gls] (fc e3 : Bool) {cs : List Col} (hcs : CsOk cs) {zs : List Zon} (hz : ZsOk zs) (H : List AObj) :
  ACalls pr 73 [.nil, .agg (spC none), .list fc 3 (cC cs), .list e3 3 (mC zonC zs)] H (fun r H' => r = .tuple [.list false 3 (cC cs), .int .i64 0] ∧ H' = H) := by
 have hl := hcs.len
 refine ACalls.pure rfl (acalls_of_body k73.has ?_)
 (conv => whnf); refine ACalls.use (vstep_t (cs := cs) (zs := zs) (s := none) (fun e h => by cases h) _) ?_
 (conv => whnf); refine ACalls.use (schema_Validate_spec fc cs (by omega) _) ?_
 rw [hcs.vd]
 (conv => whnf); refine ACalls.use (zoned_t e3 hz _) ?_
 (conv => whnf); refine ACalls.use (tOp0_t fc e3 cs hcs.ne hl zs _) ?_
 conv => whnf
 exact pub2 (.closed _ rfl) (.closed _ rfl)
theorem tStep1_t [Gls] (fc e3 : Bool) {cs : List Col} (hcs : CsOk cs) {zs : List Zon} (hz : ZsOk zs) {e : List Nod} (hs : SpOk cs zs (some e)) (H : List AObj) :
  ACalls pr 73 [.list fc 3 (cC cs), .agg (spC (some e)), .nil, .list e3 3 (mC zonC zs)] H (fun r H' => r = .tuple [.list false 3 (cC cs), .int .i64 0] ∧ H' = H) := by
 have hl := hcs.len
 refine ACalls.pure rfl (acalls_of_body k73.has ?_)
 (conv => whnf); refine ACalls.use (vstep_t hs _) ?_
 (conv => whnf); refine ACalls.use (schema_Validate_spec fc cs (by omega) _) ?_
 rw [hcs.vd]
 (conv => whnf); refine ACalls.use (zoned_t e3 hz _) ?_
 (conv => whnf); refine ACalls.use (tOp1_t fc e3 hcs hz hs _) ?_
 conv => whnf
 exact pub2 (.closed _ rfl) (.closed _ rfl)
structure QOk (cs : List Col) (zs : List Zon) (q : List (Option (List Nod))) : Prop where
 n1 : 1 ≤ q.length
 n2 : q.length ≤ 16
 sp : ∀ s ∈ q, SpOk cs zs s
 fst : ∀ k s, q[k]? = some s → (s = none ↔ k = 0)
theorem qvalid_t [Gls] (x : Bool) {cs : List Col} {zs : List Zon} {q : List (Option (List Nod))} (hq : QOk cs zs q) (H : List AObj) :
  ACalls pr 55 [.list x 6 (mC spC q)] H (fun r H' => r = .int .i64 0 ∧ H' = H) := by
 have h1 := hq.n1
 have h2 := hq.n2
 refine ACalls.pure rfl (acalls_of_body k55.has ?_)
 (conv => whnf); refine recF (by simp; omega) ?_
 (conv => whnf); refine recF (by simp; omega) ?_
 conv => whnf
 refine ⟨fun m ρ H1 => ∃ k : Nat, k + m = q.length ∧ H1 = [] ∧ Sv 33 [(14, .list x 6 (mC spC q)), (15, .int .i64 q.length), (16, .int .i64 k)] ρ, q.length, [], ?_, ?_⟩
 ·exact ⟨0, Nat.zero_add _, rfl, Sv.intro rfl ⟨rfl, intEq (by rw [mC_length]), rfl, trivial⟩⟩
 rintro m ρ H1 ⟨k, hk, rfl, d, rfl⟩
 (conv => whnf); refine recA (fun hlt => ?_) (fun hlt => ?_)
 ·simp at hlt
  obtain ⟨s, hsk, _, hm⟩ := get_drop (l := q) (k := k) (by omega)
  have hf := hq.fst k s hsk
  (conv => whnf); refine And.intro (by omega) ?_
  (conv => whnf); refine recO (mC_at hsk) ?_
  cases s with
  | none =>
   obtain rfl : k = 0 := hf.1 rfl
   (conv => whnf); refine ACalls.use (vstep_t (hq.sp _ hm) _) ?_
   conv => whnf
   refine ⟨m - 1, by omega, Gp.cut (H := []) rfl trivial rfl rfl ?_ fun ρ1 h => ⟨0 + 1, by omega, rfl, h⟩⟩
   exact ⟨rfl, rfl, intEq (nx1 (by omega)), trivial⟩
  | some e =>
   have hk0 : k ≠ 0 := fun h => by cases hf.2 h
   (conv => whnf); refine ACalls.use (vstep_t (hq.sp _ hm) _) ?_
   (conv => whnf); refine recF (by simp; omega) ?_
   conv => whnf
   refine ⟨m - 1, by omega, Gp.cut (H := []) rfl trivial rfl rfl ?_ fun ρ1 h => ⟨k + 1, by omega, rfl, h⟩⟩
   exact ⟨rfl, rfl, intEq (nx1 (by omega)), trivial⟩
 ·conv => whnf
  exact .closed _ rfl
end Go.AW

namespace Go.AW
variable [Draws]
attribute [local irreducible] ACalls CallE CallS Gp
set_option maxRecDepth 20000
set_option maxHeartbeats 4000000
structure RsOk (cs : List Col) (r0 : RlR) (R : List RlR) : Prop where
 len : R.length ≤ 1000
 nm : r0.name = ordN
 cl : r0.cols = cs
 cv : ∀ r ∈ r0 :: R, CsOk r.cols
 tb : ∀ r ∈ r0 :: R, TbOk r.cols r.rows
def colsE (cs : List Col) (n : Nat) : List (List AVal) := List.replicate n [.list false 3 (cC cs)]
theorem colsE_succ (cs : List Col) (n : Nat) : colsE cs (n + 1) = colsE cs n ++ [[.list false 3 (cC cs)]] := List.replicate_succ'
theorem colsE_len (cs : List Col) (n : Nat) : (colsE cs n).length = n := List.length_replicate
theorem colsE_pure (cs : List Col) (n : Nat) : pureEs (colsE cs n) = true := by
 simp only [pureEs, List.all_eq_true]
 intro e he
 rw [List.eq_of_mem_replicate he]
 exact fun a ha => by simp at ha; rw [ha]; rfl
theorem tQuery_t [Gls] (x1 x2 x3 : Bool) {cs : List Col} {zs : List Zon} {q : List (Option (List Nod))} (hq : QOk cs zs q) (hcs : CsOk cs) (hz : ZsOk zs) {r0 : RlR} {R : List RlR} (hr : RsOk cs r0 R) (H : List AObj) :
  ACalls pr 44 [.list x1 6 (mC spC q), .list x2 4 (mC rlC (r0 :: R)), .list x3 3 (mC zonC zs)] H (fun r H' => r = .tuple [.list false 1 (colsE cs q.length), .int .i64 0] ∧ H' = H) := by
 have hrl := hr.len
 have h16 := hq.n2
 have hRl : (r0 :: R).length = R.length + 1 := rfl
 refine ACalls.pure rfl (acalls_of_body k44.has ?_)
 (conv => whnf); refine ACalls.use (qvalid_t x1 hq _) ?_
 conv => whnf
 refine ⟨fun m ρ H1 => ∃ k : Nat, k + m = (r0 :: R).length ∧ H1 = [] ∧ Sv 81 [(0, .list x1 6 (mC spC q)), (1, .list x2 4 (mC rlC (r0 :: R))), (2, .list x3 3 (mC zonC zs)), (26, .list x2 4 (mC rlC (r0 :: R))), (27, .int .i64 (r0 :: R).length), (28, .int .i64 k)] ρ, (r0 :: R).length, [], ?_, ?_⟩
 ·exact ⟨0, Nat.zero_add _, rfl, Sv.intro rfl ⟨rfl, rfl, rfl, rfl, intEq (by rw [mC_length]), rfl, trivial⟩⟩
 rintro m ρ H1 ⟨k, hk, rfl, d, rfl⟩
 (conv => whnf); refine recA (fun hlt => ?_) (fun hlt => ?_)
 ·simp at hlt
  obtain ⟨r, hrk, _, hm⟩ := get_drop (l := r0 :: R) (k := k) (by simp; omega)
  have hc := hr.cv r hm
  have hcl := hc.len
  (conv => whnf); refine And.intro (by omega) ?_
  (conv => whnf); refine recO (mC_at hrk) ?_
  (conv => whnf); refine ACalls.use (schema_Validate_spec r.fc r.cols (by omega) _) ?_
  rw [hc.vd]
  conv => whnf
  refine ⟨m - 1, by omega, Gp.cut (H := []) rfl trivial rfl rfl ?_ fun ρ1 h => ⟨k + 1, by omega, rfl, h⟩⟩
  exact ⟨rfl, rfl, rfl, rfl, rfl, intEq (nx1 (by simp at hk; omega)), trivial⟩
 (conv => whnf); refine ACalls.use (zoned_t x3 hz _) ?_
 conv => whnf
 refine ⟨fun m ρ H1 => ∃ k : Nat, k + m = q.length ∧ H1 = [.arr 1 (colsE cs k)] ∧ Sv 81 [(1, .list x2 4 (mC rlC (r0 :: R))), (2, .list x3 3 (mC zonC zs)), (13, .sl 0 k 0 k), (14, if k = 0 then .nil else .list false 3 (cC cs)), (44, .list x1 6 (mC spC q)), (45, .int .i64 q.length), (46, .int .i64 k)] ρ, q.length, [(13, 1)], ?_, ?_⟩
 ·exact ⟨0, Nat.zero_add _, rfl, Sv.intro rfl ⟨rfl, rfl, rfl, rfl, rfl, intEq (by rw [mC_length]), rfl, trivial⟩⟩
 rintro m ρ H1 ⟨k, hk, rfl, d, rfl⟩
 have hb : Nat.beq k (colsE cs k).length = true := by rw [colsE_len]; exact Nat.beq_refl _
 (conv => whnf); refine recA (fun hlt => ?_) (fun hlt => ?_)
 ·simp at hlt
  obtain ⟨s, hsk, _, hm⟩ := get_drop (l := q) (k := k) (by omega)
  have hf := hq.fst k s hsk
  have hcc : colsE cs k ++ [[AVal.list false 3 (cC cs)]] = colsE cs (k + 1) := (colsE_succ cs k).symm
  have hcl : (colsE cs k ++ [[AVal.list false 3 (cC cs)]]).length = k + 1 := by rw [hcc, colsE_len]
  (conv => whnf); refine And.intro (by omega) ?_
  (conv => whnf); refine recO (mC_at hsk) ?_
  cases s with
  | none =>
   obtain rfl : k = 0 := hf.1 rfl
   rw [if_pos rfl]
   (conv => whnf); refine ACalls.use (tfind_t x2 hrl hr.nm _) ?_
   rw [show rlC r0 = [.str r0.name, .list r0.fc 3 (cC cs), .nil, .list false 2 (eC r0.rows)] by rw [rlC, hr.cl]]
   (conv => whnf); refine ACalls.use (tStep0_t r0.fc x3 hcs hz _) ?_
   (conv => whnf); refine And.intro (⟨by simp [roomB], by simp [roomB], rfl, by rw [colsE_len]⟩) ?_
   conv => whnf
   refine ⟨m - 1, by omega, Gp.cut (H := [.arr 1 (colsE cs (0 + 1))]) rfl ⟨lowP (colsE_pure _ _), trivial⟩ rfl rfl ?_ fun ρ1 h => ⟨0 + 1, by omega, rfl, h⟩⟩
   exact ⟨rfl, rfl, rfl, rfl, rfl, rfl, intEq (nx1 (by omega)), trivial⟩
  | some e =>
   have hk0 : k ≠ 0 := fun h => by cases hf.2 h
   rw [if_neg hk0]
   (conv => whnf); refine ACalls.use (tStep1_t false x3 hcs hz (hq.sp _ hm) _) ?_
   (conv => whnf); refine recT (hb) ?_
   (conv => whnf); refine And.intro (⟨by simp [roomB]; omega, by simp [roomB]; omega, rfl, by rw [colsE_len]⟩) ?_
   conv => whnf
   refine ⟨m - 1, by omega, Gp.cut (H := [.arr 1 (colsE cs (k + 1))]) (by rw [← hcc]; rfl) ⟨lowP (colsE_pure _ _), trivial⟩ rfl rfl ?_ fun ρ1 h => ⟨k + 1, by omega, rfl, h⟩⟩
   exact ⟨rfl, rfl, slEq hcl hcl, by rw [if_neg (by omega)]; rfl, rfl, rfl, intEq (nx1 (by omega)), trivial⟩
 ·simp at hlt
  obtain rfl : k = q.length := by omega
  conv => whnf
  exact pub2 (pubF rfl (colsE_len _ _).symm (colsE_len _ _).symm (colsE_pure _ _)) (.closed _ rfl)
theorem evalid_t {r : RlR} (hc : CsOk r.cols) (ht : TbOk r.cols r.rows) (H : List AObj) : ACalls pr 45 [.agg (rlC r)] H (fun r H' => r = .int .i64 0 ∧ H' = H) := by
 have hcl := hc.len
 obtain ⟨ht, hrw⟩ := ht
 have hb0 : bagB r.rows = 0 := by unfold tabB at ht; simp at ht; exact ht.1
 have hlen := bag_len hb0
 refine ACalls.pure rfl (acalls_of_body k45.has ?_)
 (conv => whnf); refine ACalls.use (schema_Validate_spec r.fc r.cols (by omega) _) ?_
 rw [hc.vd]
 (conv => whnf); refine ACalls.use (bag_Validate_spec false r.rows _) ?_
 rw [hb0]
 (conv => whnf); refine ACalls.use (bag_IsTable_spec false r.rows _) ?_
 rw [ht]
 conv => whnf
 refine ⟨fun m ρ H1 => ∃ k : Nat, k + m = r.rows.length ∧ H1 = [.arr 4 [rlC r]] ∧ Sv 40 [(1, .ptr 0 1 0 0), (25, .list false 2 (eC r.rows)), (26, .int .i64 r.rows.length), (27, .int .i64 k)] ρ, r.rows.length, [], ?_, ?_⟩
 ·exact ⟨0, Nat.zero_add _, rfl, Sv.intro rfl ⟨rfl, rfl, intEq (by rw [eC_length]), rfl, trivial⟩⟩
 rintro m ρ H1 ⟨k, hk, rfl, d, rfl⟩
 (conv => whnf); refine recA (fun hlt => ?_) (fun hlt => ?_)
 ·simp at hlt
  obtain ⟨e, hek, _, hm⟩ := get_drop (l := r.rows) (k := k) (by omega)
  have h0 := hrw e hm
  have hel : e.row.length ≤ 1000000 := by
   unfold chkRow at h0
   split at h0
   ·omega
   ·cases h0
  (conv => whnf); refine And.intro (by omega) ?_
  (conv => whnf); refine recO (eC_at hek) ?_
  (conv => whnf); refine ACalls.use (schema_CheckRow_spec r.fc false r.cols e.row hel _) ?_
  rw [h0]
  conv => whnf
  refine ⟨m - 1, by omega, Gp.cut (H := [.arr 4 [rlC r]]) rfl ⟨rfl, trivial⟩ rfl rfl ?_ fun ρ1 h => ⟨k + 1, by omega, rfl, h⟩⟩
  exact ⟨rfl, rfl, rfl, intEq (nx1 (by omega)), trivial⟩
 ·conv => whnf
  exact .closed _ rfl
theorem eC_snoc (l : List Ent) (e : Ent) : eC (l ++ [e]) = eC l ++ [entC e] := by simp [eC]
theorem copied_t (x : Bool) (l : List Ent) (hl : l.length ≤ 100000) (hr : ∀ e ∈ l, e.row.length ≤ 1000000) (H : List AObj) : ACalls pr 110 [.list x 2 (eC l)] H (fun r H' => r = .list false 2 (eC l) ∧ H' = H) := by
 refine ACalls.pure rfl (acalls_of_body k110.has ?_)
 conv => whnf
 refine ⟨fun m ρ H1 => ∃ k : Nat, k + m = l.length ∧ H1 = [.arr 2 (eC (l.take k))] ∧ Sv 23 [(3, .sl 0 k 0 k), (6, .list x 2 (eC l)), (7, .int .i64 l.length), (8, .int .i64 k)] ρ, l.length, [(3, 2)], ?_, ?_⟩
 ·exact ⟨0, Nat.zero_add _, rfl, Sv.intro rfl ⟨rfl, rfl, intEq (by rw [eC_length]), rfl, trivial⟩⟩
 rintro m ρ H1 ⟨k, hk, rfl, d, rfl⟩
 have hkl : (eC (l.take k)).length = k := by rw [eC_length, List.length_take]; omega
 have hb : Nat.beq k (eC (l.take k)).length = true := by rw [hkl]; exact Nat.beq_refl _
 (conv => whnf); refine recA (fun hlt => ?_) (fun hlt => ?_)
 ·simp at hlt
  obtain ⟨e, hek, _, hm⟩ := get_drop (l := l) (k := k) (by omega)
  have hcc : eC (l.take k) ++ [entC e] = eC (l.take (k + 1)) := by rw [take_succ' hek, eC_snoc]
  have hcl : (eC (l.take k) ++ [entC e]).length = k + 1 := by rw [List.length_append, hkl]; rfl
  (conv => whnf); refine And.intro (by omega) ?_
  (conv => whnf); refine recO (eC_at hek) ?_
  conv => whnf
  refine ⟨_, CloneV_spec false e.row (hr e hm) _, ?_⟩
  (conv => whnf); refine recT (hb) ?_
  (conv => whnf); refine And.intro (⟨by simp [roomB]; omega, by simp [roomB]; omega, rfl, hkl.symm⟩) ?_
  conv => whnf
  refine ⟨m - 1, by omega, Gp.cut (H := [.arr 2 (eC (l.take (k + 1)))]) (by rw [← hcc]; rfl) ⟨lowP (pureEs_eC _), trivial⟩ rfl rfl ?_ fun ρ1 h => ⟨k + 1, by omega, rfl, h⟩⟩
  exact ⟨slEq hcl hcl, rfl, rfl, intEq (nx1 (by omega)), trivial⟩
 ·simp at hlt
  obtain rfl : k = l.length := by omega
  rw [List.take_length] at hkl ⊢
  conv => whnf
  exact pubF rfl hkl.symm hkl.symm (pureEs_eC _)
end Go.AW

namespace Go.AW
variable [Draws]
attribute [local irreducible] ACalls CallE CallS Gp
set_option maxRecDepth 20000
set_option maxHeartbeats 8000000
def zEq (v : V) : Bool := ((0 : Int) == v.kind && ((0 : Int) == v.num && ((bs []).data.toList == v.str.data.toList && true)))
def vN : V := ⟨0, 0, bs []⟩
theorem idxV_t (e : Bool) (l : List V) (hl : l.length ≤ 1000) (H : List AObj) : ACalls pr 272 [.list e 3 (vC l), .agg (valC vN)] H (fun r H' => r = .int .i64 (idxOf zEq l 0) ∧ H' = H) := by
 refine ACalls.pure rfl (acalls_of_body k272.has ?_)
 conv => whnf
 refine ⟨fun m ρ H1 => ∃ k : Nat, k + m = l.length ∧ idxOf zEq (l.drop k) k = idxOf zEq l 0 ∧ H1 = [.arr 3 [valC vN]] ∧ Sv 19 [(0, .list e 3 (vC l)), (3, .ptr 0 1 0 0), (7, .int .i64 l.length), (8, .int .i64 k)] ρ, l.length, [], ?_, ?_⟩
 ·exact ⟨0, Nat.zero_add _, rfl, rfl, Sv.intro rfl ⟨rfl, rfl, intEq (by rw [vC_length]), rfl, trivial⟩⟩
 rintro m ρ H1 ⟨k, hk, hr, rfl, d, rfl⟩
 (conv => whnf); refine recA (fun hlt => ?_) (fun hlt => ?_)
 ·simp at hlt
  obtain ⟨c, hc, hd, _⟩ := get_drop (l := l) (k := k) (by omega)
  rw [hd] at hr
  (conv => whnf); refine And.intro (by omega) ?_
  (conv => whnf); refine recO (vC_at hc) ?_
  (conv => whnf); refine recA (fun hp => ?_) (fun hp => ?_)
  ·conv => whnf
   refine pubI ?_
   rw [← hr, idxOf, if_pos (show zEq c = true from hp)]
  ·conv => whnf
   refine ⟨m - 1, by omega, Gp.keep rfl ?_ fun ρ1 h => ⟨k + 1, by omega, ?_, rfl, h⟩⟩
   ·exact ⟨rfl, rfl, rfl, intEq (wrapI ((k : Int) + 1) (by omega) (by omega)), trivial⟩
   ·rw [← hr, idxOf, if_neg (by rw [show zEq c = false from hp]; simp)]; rfl
 ·simp at hlt
  conv => whnf
  rw [List.drop_eq_nil_of_le (by omega)] at hr
  exact pubI hr
theorem contV_t (e : Bool) (l : List V) (hl : l.length ≤ 1000) (H : List AObj) : ACalls pr 240 [.list e 3 (vC l), .agg (valC vN)] H (fun r H' => r = .bool (l.any zEq) ∧ H' = H) := by
 refine ACalls.pure rfl (acalls_of_body k240.has ?_)
 (conv => whnf); refine ACalls.use (idxV_t e l hl _) ?_
 conv => whnf
 exact pubB (by rw [← idxOf_any'])
def spP (n : Nod) (l : List V) (v : V) : Prop := (∀ H, ACalls pr 239 [.agg (nodC n), .list false 3 (vC l)] H (fun r H' => r = .tuple [.agg (valC v), .bool (isSp n.op)] ∧ H' = H)) ∧ (n.op = 14 → ∀ a b, l = [a, b] → v = lgV a b 0) ∧ ((∀ w ∈ l, VS w) → VS n.v → VS v) ∧ (n.op = 0 → v = n.v)
open Classical in
noncomputable def spV (n : Nod) (l : List V) : V := if h : ∃ v, spP n l v then Classical.choose h else vN
theorem spV_t (n : Nod) (l : List V) (hl : (l.length : Int) = arN n) : spP n l (spV n l) := by
 have h : ∃ v, spP n l v := by
  obtain ⟨r, ⟨v, rfl, h1, h2, h0⟩, h3⟩ := special_d n false l hl
  exact ⟨v, h3, h1, h2, h0⟩
 unfold spV
 rw [dif_pos h]
 exact Classical.choose_spec h
def apP (zs : List Zon) (n : Nod) (l : List V) (v : V) : Prop := (∀ H, ACalls pr 241 [.agg (nodC n), .list false 3 (vC l), .list false 3 (mC zonC zs)] H (fun r H' => r = .agg (valC v) ∧ H' = H)) ∧ VS v ∧ (n.op = 12 → ∀ a b, l = [a, b] → v = boV (decide (valCmp a b < 0)))
open Classical in
noncomputable def apV (zs : List Zon) (n : Nod) (l : List V) : V := if h : ∃ v, apP zs n l v then Classical.choose h else vN
theorem apV_t {zs : List Zon} (hz : ZsOk zs) {n : Nod} (g : Gd n) {l : List V} (hl : (l.length : Int) = arN n) (hv : ∀ v ∈ l, VS v) (hzn : n.op = 20 → zHas zs n.name = true) (hsp : isSp n.op = false) (hc : n.op ≠ 1) : apP zs n l (apV zs n l) := by
 have h : ∃ v, apP zs n l v := by
  obtain ⟨r, ⟨v, rfl, h1, h12⟩, h3⟩ := apply_s g false false hl hv hz hzn hsp hc
  exact ⟨v, h3, h1, h12⟩
 unfold apV
 rw [dif_pos h]
 exact Classical.choose_spec h
def mpR (l : List (Col × V)) : List (AVal × AVal) := l.foldl (fun m p => mput 2 (.str p.1.name) (.agg (valC p.2)) m) []
theorem mpR_snoc (l : List (Col × V)) (p : Col × V) : mpR (l ++ [p]) = mput 2 (.str p.1.name) (.agg (valC p.2)) (mpR l) := by unfold mpR; rw [List.foldl_append]; rfl
def MOk (m : List (AVal × AVal)) : Prop := ∀ kv ∈ m, ∃ (s : ByteArray) (v : V), kv = (.str s, .agg (valC v)) ∧ VS v
theorem MOk.put : ∀ {m : List (AVal × AVal)}, MOk m → ∀ (s : ByteArray) (v : V), VS v → MOk (mput 2 (.str s) (.agg (valC v)) m)
 | [], _, s, v, hv => fun kv hk => by simp [mput] at hk; exact ⟨s, v, hk, hv⟩
 | kv :: m, h, s, v, hv => by
  obtain ⟨s', v', e, hv'⟩ := h kv (List.mem_cons_self ..)
  subst e
  have ht := MOk.put (m := m) (fun x hx => h x (List.mem_cons_of_mem _ hx)) s v hv
  have e2 : mput 2 (.str s) (.agg (valC v)) ((.str s', .agg (valC v')) :: m) = match some (s.data.toList == s'.data.toList) with | some true => (.str s', .agg (valC v)) :: m | _ => (.str s', .agg (valC v')) :: mput 2 (.str s) (.agg (valC v)) m := rfl
  rw [e2]
  cases hb : (s.data.toList == s'.data.toList)
  ·intro x hx
   rcases List.mem_cons.1 hx with rfl | hx
   ·exact ⟨s', v', rfl, hv'⟩
   ·exact ht x hx
  ·intro x hx
   rcases List.mem_cons.1 hx with rfl | hx
   ·exact ⟨s', v, rfl, hv⟩
   ·exact h x (List.mem_cons_of_mem _ hx)
theorem MOk.key {m : List (AVal × AVal)} (h : MOk m) (s : ByteArray) : keyOk 2 (.str s) m = true := by
 unfold keyOk
 simp only [Bool.and_eq_true, List.all_eq_true]
 refine ⟨rfl, fun kv hk => ?_⟩
 obtain ⟨s', v, e, _⟩ := h kv hk
 subst e; rfl
theorem MOk.find : ∀ {m : List (AVal × AVal)}, MOk m → ∀ (s : ByteArray) (x : AVal), mfind 2 (.str s) m = some x → ∃ v, x = .agg (valC v) ∧ VS v
 | [], _, s, x, hx => by cases hx
 | kv :: m, h, s, x, hx => by
  obtain ⟨s', v', e, hv'⟩ := h kv (List.mem_cons_self ..)
  subst e
  have ht := MOk.find (m := m) (fun x hx => h x (List.mem_cons_of_mem _ hx)) s x
  have e2 : mfind 2 (.str s) ((.str s', .agg (valC v')) :: m) = match some (s.data.toList == s'.data.toList) with | some true => some (.agg (valC v')) | _ => mfind 2 (.str s) m := rfl
  rw [e2] at hx
  cases hb : (s.data.toList == s'.data.toList)
  ·rw [hb] at hx; exact ht hx
  ·rw [hb] at hx; cases hx; exact ⟨v', rfl, hv'⟩
theorem MOk.closed {m : List (AVal × AVal)} (h : MOk m) : (m.all fun kv => kv.2.closed) = true := by
 rw [List.all_eq_true]
 intro kv hk
 obtain ⟨s', v, e, _⟩ := h kv hk
 subst e; rfl
def nmV (m : List (AVal × AVal)) (s : ByteArray) : V := match mfind 2 (.str s) m with
 | some (.agg [.int _ k, .int _ n, .str t]) => ⟨k, n, t⟩
 | _ => vN
theorem nmV_t {m : List (AVal × AVal)} (h : MOk m) (s : ByteArray) : ((mfind 2 (.str s) m = none ∧ nmV m s = vN) ∨ mfind 2 (.str s) m = some (.agg (valC (nmV m s)))) ∧ VS (nmV m s) := by
 unfold nmV
 cases hm : mfind 2 (.str s) m with
 | none => exact ⟨.inl ⟨rfl, rfl⟩, vs0⟩
 | some x =>
  obtain ⟨v, rfl, hv⟩ := h.find s x hm
  exact ⟨.inr rfl, hv⟩
noncomputable def evN (zs : List Zon) (m : List (AVal × AVal)) (n : Nod) (l : List V) : V := if n.op = 1 then nmV m n.name else if isSp n.op = false ∧ l.any zEq = false then apV zs n l else spV n l
noncomputable def fV (zs : List Zon) (m : List (AVal × AVal)) (n : Nod) (l : List V) : Option V := some (evN zs m n l)
noncomputable def evE (zs : List Zon) (m : List (AVal × AVal)) (e : List Nod) : V := match stk (fV zs m) e [] with
 | some [v] => v
 | _ => vN
theorem evE_t {cs : List Col} {zs : List Zon} (m : List (AVal × AVal)) {e : List Nod} {kf : Kd} (he : ETy cs zs e kf) : stk (fV zs m) e [] = some [evE zs m e] := by
 obtain ⟨y, hy⟩ := (Lv.of he.kk).total (fV zs m) (fun n l => ⟨_, rfl⟩)
 have h := hy []
 unfold evE
 rw [h]; rfl
theorem valid64 {v : V} (h : validB v = true) : VS v := by
 have h0 : ∀ s : ByteArray, s.data.toList = [] → s.size ≤ 64 := fun s hs => by
  show s.data.size ≤ 64
  rw [← Array.length_toList, hs]; decide
 unfold validB at h
 unfold VS
 (repeat' split at h) <;> simp at h
 ·exact h0 _ (by simp [h.2])
 ·exact h0 _ (by simp [h.2])
 ·exact h0 _ (by simp [h.2])
 ·exact h.2
 ·exact h0 _ (by simp [h.2])
theorem chkGo_valid : ∀ (cs : List Col) (rs : List V), rs.length = cs.length → chkGo cs rs = 0 → ∀ v ∈ rs, validB v = true
 | [], [], _, _, v, h => by cases h
 | c :: cs, r :: rs, hl, h, v, hv => by
  rw [chkGo] at h
  split at h
  ·cases h
  ·rename_i h1
   split at h
   ·cases h
   ·rcases List.mem_cons.1 hv with rfl | hv
    ·simpa using h1
    ·exact chkGo_valid cs rs (by simpa using hl) h v hv
theorem chkRow_ok {cs : List Col} {rs : List V} (h : chkRow cs rs = 0) : rs.length = cs.length ∧ ∀ v ∈ rs, VS v := by
 unfold chkRow at h
 split at h
 ·rename_i hl
  exact ⟨hl, fun v hv => valid64 (chkGo_valid cs rs hl h v hv)⟩
 ·cases h
def eO : AObj := .arr 3 [[.int .i64 0, .int .i64 0, .str (bs [])]]
theorem lentI {α : Type} {f : α → List AVal} (hf : ∀ x, (f x).all AVal.isPure = true) {sz id : Nat} {st : List α} {D r : Nat} (hD : D ≤ st.length) (hr : r ≤ D) {H : List AObj} (ho : H[id]? = some (.arr sz (mC f st))) : Lent H (.sl id st.length (0 + ((r : Nat) : Int).toNat) (D - ((r : Nat) : Int).toNat)) (.list false sz (mC f ((st.take D).drop r))) := by
 have := Lent.sl id st.length (0 + ((r : Nat) : Int).toNat) (D - ((r : Nat) : Int).toNat) sz (mC f st) ho (mC_length _ _).symm (mC_pure hf st)
 rwa [show ((mC f st).drop (0 + ((r : Nat) : Int).toNat)).take (D - ((r : Nat) : Int).toNat) = mC f ((st.take D).drop r) from by rw [Nat.zero_add, Int.toNat_natCast, mC, mC, ← List.map_drop, ← List.map_take, List.drop_take]] at this
theorem eval_t [Gls] (e1 e2 e4 : Bool) {cs : List Col} (hcs : CsOk cs) {zs : List Zon} (hz : ZsOk zs) {e : List Nod} {kf : Kd} (he : ETy cs zs e kf) {row : List V} (hrow : chkRow cs row = 0) (H : List AObj) :
  ACalls pr 192 [.list e1 6 (mC nodC e), .list e2 3 (cC cs), .list e4 3 (vC row), .list false 3 (mC zonC zs)] H (fun r H' => r = .tuple [.agg (valC (evE zs (mpR (cs.zip row)) e)), .int .i64 0] ∧ H' = H) := by
 have hel := he.len
 have hcl := hcs.len
 obtain ⟨hrl, hrv⟩ := chkRow_ok hrow
 have hzl : (cs.zip row).length = cs.length := by simp; omega
 have hmo : ∀ k, MOk (mpR ((cs.zip row).take k)) := by
  intro k
  induction k with
  | zero => intro kv hk; simp [mpR] at hk
  | succ k ih =>
   cases hk : (cs.zip row)[k]? with
   | none =>
    have hge := List.getElem?_eq_none_iff.1 hk
    rw [show (cs.zip row).take (k + 1) = (cs.zip row).take k by rw [List.take_of_length_le (by omega), List.take_of_length_le (by omega)]]
    exact ih
   | some p =>
    rw [take_succ' hk, mpR_snoc]
    exact ih.put _ _ (hrv _ (List.of_mem_zip (List.mem_of_getElem? hk)).2)
 refine ACalls.pure rfl (acalls_of_body k192.has ?_)
 (conv => whnf); refine ACalls.use (type_t e1 e2 false he (by omega) hcs.vd hz _) ?_
 (conv => whnf); refine ACalls.use (schema_CheckRow_spec e2 e4 cs row (by omega) _) ?_
 rw [hrow]
 conv => whnf
 refine ⟨fun m ρ H1 => ∃ k : Nat, k + m = cs.length ∧ H1 = [eO, .map (mpR ((cs.zip row).take k))] ∧ Sv 110 [(0, .list e1 6 (mC nodC e)), (1, .list e2 3 (cC cs)), (2, .list e4 3 (vC row)), (3, .list false 3 (mC zonC zs)), (8, .ptr 0 1 0 0), (14, .mp 1), (44, .list e2 3 (cC cs)), (45, .int .i64 cs.length), (46, .int .i64 k)] ρ, cs.length, [], ?_, ?_⟩
 ·exact ⟨0, Nat.zero_add _, rfl, Sv.intro rfl ⟨rfl, rfl, rfl, rfl, rfl, rfl, rfl, intEq (by rw [cC_length]), rfl, trivial⟩⟩
 rintro m ρ H1 ⟨k, hk, rfl, d, rfl⟩
 (conv => whnf); refine recA (fun hlt => ?_) (fun hlt => ?_)
 ·simp at hlt
  obtain ⟨c, hck, _, hm⟩ := get_drop (l := cs) (k := k) (by omega)
  obtain ⟨v, hvk, _, hvm⟩ := get_drop (l := row) (k := k) (by omega)
  have hzk : (cs.zip row)[k]? = some (c, v) := by rw [List.getElem?_zip_eq_some]; exact ⟨hck, hvk⟩
  (conv => whnf); refine And.intro (by omega) ?_
  (conv => whnf); refine recO (cC_at hck) ?_
  (conv => whnf); refine And.intro (by omega) ?_
  (conv => whnf); refine recO (vC_at hvk) ?_
  (conv => whnf); refine recT ((hmo k).key c.name) ?_
  conv => whnf
  refine ⟨m - 1, by omega, Gp.cut (H := [eO, .map (mpR ((cs.zip row).take (k + 1)))]) (by rw [take_succ' hzk, mpR_snoc]; rfl) ⟨rfl, (hmo (k + 1)).closed, trivial⟩ rfl rfl ?_ fun ρ1 h => ⟨k + 1, by omega, rfl, h⟩⟩
  exact ⟨rfl, rfl, rfl, rfl, rfl, rfl, rfl, rfl, intEq (nx1 (by omega)), trivial⟩
 simp at hlt
 obtain rfl : k = cs.length := by omega
 have hmk := hmo cs.length
 rw [List.take_of_length_le (by omega)] at hmk
 rw [List.take_of_length_le (by omega)]
 obtain ⟨kvs, hkv⟩ : ∃ kvs, kvs = mpR (cs.zip row) := ⟨_, rfl⟩
 rw [← hkv] at hmk
 rw [← hkv]
 have hkl := hmk.closed
 have hfin := evE_t kvs he
 conv => whnf
 refine ⟨fun m ρ H1 => ∃ (k : Nat) (st : List V) (D : Nat), k + m = e.length ∧ stk (fV zs kvs) (e.drop k) (st.take D) = some [evE zs kvs e] ∧ D ≤ st.length ∧ st.length ≤ k ∧ (∀ v ∈ st, VS v) ∧ H1 = [eO, .map kvs, .arr 3 (vC st)] ∧ Sv 110 [(3, .list false 3 (mC zonC zs)), (8, .ptr 0 1 0 0), (14, .mp 1), (17, .sl 2 st.length 0 D), (59, .list e1 6 (mC nodC e)), (60, .int .i64 e.length), (61, .int .i64 k)] ρ, e.length, [(17, 3)], ?_, ?_⟩
 ·exact ⟨0, [], 0, by omega, hfin, Nat.le_refl _, Nat.le_refl _, fun v h => by simp at h, rfl, Sv.intro rfl ⟨rfl, rfl, rfl, rfl, rfl, intEq (by rw [mC_length]), rfl, trivial⟩⟩
 rintro m ρ H1 ⟨k, st, D, hk, hD, hDl, hst, hvs, rfl, d, rfl⟩
 have hn : (vC st).length = st.length := vC_length _
 have hb : Nat.beq st.length (vC st).length = true := by rw [hn]; exact Nat.beq_refl _
 (conv => whnf); refine recA (fun hlt => ?_) (fun hlt => ?_)
 ·simp at hlt
  obtain ⟨n, hnk, hdk, hm⟩ := get_drop (l := e) (k := k) (by omega)
  rw [hdk] at hD
  obtain ⟨y, ha, hy, hD2⟩ := stk_inv hD
  have gd := he.gd n hm
  have hlD : (st.take D).length = D := by simp; omega
  rw [hlD] at ha hy hD2
  have a0 := gd.ar3
  obtain ⟨a, hna⟩ : ∃ a : Nat, arN n = a := ⟨(arN n).toNat, by omega⟩
  rw [hna] at ha hy hD2
  simp only [Int.toNat_natCast] at ha hy hD2
  (conv => whnf); refine And.intro (by omega) ?_
  (conv => whnf); refine recO (mC_at hnk) ?_
  (conv => whnf); refine recT (hb) ?_
  (conv => whnf); refine ACalls.use ((arity_t n).a _) ?_
  rw [hna]
  have hw : IntKind.i64.wrap ((D : Int) - a) = ((D - a : Nat) : Int) := by rw [wrapI _ (by omega) (by omega)]; omega
  conv => whnf
  rw [hw]
  obtain ⟨r, hrr⟩ : ∃ r, r = D - a := ⟨_, rfl⟩
  rw [← hrr] at hy hD2
  rw [← hrr]
  have hdl : (((st.take D).drop r).length : Int) = arN n := by rw [List.length_drop, hlD]; omega
  have hlv : ∀ v ∈ (st.take D).drop r, VS v := fun v hv => hvs v (List.mem_of_mem_take (List.mem_of_mem_drop hv))
  have hcv : VS n.v := by
   by_cases h0 : n.op = 0
   ·exact valid64 (gd.cst h0).2
   ·rw [gd.z h0]; exact vs0
  obtain ⟨sp1, sp2, sp3, _⟩ := spV_t n ((st.take D).drop r) hdl
  have hyv : evN zs kvs n ((st.take D).drop r) = y := Option.some.inj hy
  (conv => whnf); refine recT (hb) ?_
  (conv => whnf); refine And.intro (by omega) ?_
  (conv => whnf); refine ACalls.use (ACalls.bor rfl ((sp1 []).mono fun _ _ h => h.1) (.cons (.same _ rfl) (.cons (lentI (f := valC) (fun _ => rfl) hDl (by omega) rfl) .nil))) ?_
  have hyS : VS y := by
   rw [← hyv]
   unfold evN
   split
   ·exact (nmV_t hmk n.name).2
   ·rename_i h1
    split
    ·rename_i h2
     exact (apV_t hz gd hdl hlv (he.zn n hm) h2.1 h1).2.1
    ·exact sp3 hlv hcv
  have hvs2 : ∀ v ∈ stP st r y, VS v := fun v hv => by
   unfold stP at hv
   split at hv
   ·simp only [List.mem_append, List.mem_singleton] at hv
    rcases hv with (hv | rfl) | hv
    ·exact hvs v (List.mem_of_mem_take hv)
    ·exact hyS
    ·exact hvs v (List.mem_of_mem_drop hv)
   ·simp only [List.mem_append, List.mem_singleton] at hv
    rcases hv with hv | rfl
    ·exact hvs v hv
    ·exact hyS
  by_cases h1 : n.op = 1
  ·have hyn : nmV kvs n.name = y := by rw [← hyv, evN, if_pos h1]
   (conv => whnf); refine recT (by rw [h1]; rfl) ?_
   (conv => whnf); refine recT (hmk.key n.name) ?_
   rcases (nmV_t hmk n.name).1 with ⟨hm0, hy0⟩ | hm0
   ·rw [hyn] at hy0
    (conv => whnf); refine recN hm0 ?_
    rw [show (AVal.agg [.int .i64 0, .int .i64 0, .str { data := { toList := [] } }]) = .agg (valC y) by rw [hy0]; rfl]
    (conv => whnf); refine recT (hb) ?_
    (conv => whnf); refine And.intro (by omega) ?_
    (conv => whnf); refine recT (hb) ?_
    obtain ⟨q1, q2, q3⟩ := stP_take (show r ≤ D by omega) hDl y
    (conv => whnf); refine recA (fun hfit => ?_) (fun hfit => ?_)
    ·replace hfit : (Nat.ble (0 + 0 + (((r : Nat) : Int).toNat - 0) + 1) (vC st).length && true) = true := hfit
     rw [hn, Bool.and_true, Nat.ble_eq] at hfit
     have hfit2 : r + 1 ≤ st.length := by omega
     have hcc : (vC st).take (0 + 0 + (((r : Nat) : Int).toNat - 0)) ++ [valC y] ++ (vC st).drop (0 + 0 + (((r : Nat) : Int).toNat - 0) + 1) = vC (stP st r y) := by
      rw [show 0 + 0 + (((r : Nat) : Int).toNat - 0) = r by omega, stP, if_pos hfit2]; simp [vC, List.map_take, List.map_drop]
     have hll : (stP st r y).length = st.length := by rw [stP, if_pos hfit2]; simp; omega
     conv => whnf
     refine ⟨m - 1, by omega, Gp.cut (H := [eO, .map kvs, .arr 3 (vC (stP st r y))]) (by rw [← hcc]; rfl) ⟨rfl, hkl, lowP (pureEs_vC _), trivial⟩ rfl rfl ?_ fun ρ1 hh => ⟨k + 1, stP st r y, r + 1, by omega, by rw [q1]; exact hD2, by omega, by omega, hvs2, rfl, hh⟩⟩
     exact ⟨rfl, rfl, rfl, by rw [hll, show r + 1 = ((r : Nat) : Int).toNat - 0 + 1 by omega]; rfl, rfl, rfl, intEq (nx1 (by omega)), trivial⟩
    ·replace hfit : (Nat.ble (0 + 0 + (((r : Nat) : Int).toNat - 0) + 1) (vC st).length && true) = false := hfit
     have hf2 : st.length < r + 1 := by
      rw [Bool.and_true, hn] at hfit
      exact Nat.lt_of_not_le fun hc => by rw [Nat.ble_eq_true_of_le (show 0 + 0 + (((r : Nat) : Int).toNat - 0) + 1 ≤ st.length by omega)] at hfit; cases hfit
     (conv => whnf); refine recT (hb) ?_
     (conv => whnf); refine And.intro (⟨by simp [roomB]; omega, by simp [roomB]; omega, rfl, by rw [hn]; omega⟩) ?_
     conv => whnf
     have hss : stP st r y = st ++ [y] := by rw [stP, if_neg (by omega)]
     have hcc : vC st ++ [valC y] = vC (stP st r y) := by rw [hss]; simp [vC]
     have hll : (stP st r y).length = r + 1 := by rw [hss]; simp; omega
     have hcl : (vC st ++ [valC y]).length = r + 1 := by rw [hcc, vC_length, hll]
     refine ⟨m - 1, by omega, Gp.cut (H := [eO, .map kvs, .arr 3 (vC (stP st r y))]) (by rw [← hcc]; rfl) ⟨rfl, hkl, lowP (pureEs_vC _), trivial⟩ rfl rfl ?_ fun ρ1 hh => ⟨k + 1, stP st r y, r + 1, by omega, by rw [q1]; exact hD2, by omega, by omega, hvs2, rfl, hh⟩⟩
     exact ⟨rfl, rfl, rfl, slEq (by rw [hll]; exact hcl) hcl, rfl, rfl, intEq (nx1 (by omega)), trivial⟩
   ·rw [hyn] at hm0
    (conv => whnf); refine recO hm0 ?_
    (conv => whnf); refine recT (hb) ?_
    (conv => whnf); refine And.intro (by omega) ?_
    (conv => whnf); refine recT (hb) ?_
    obtain ⟨q1, q2, q3⟩ := stP_take (show r ≤ D by omega) hDl y
    (conv => whnf); refine recA (fun hfit => ?_) (fun hfit => ?_)
    ·replace hfit : (Nat.ble (0 + 0 + (((r : Nat) : Int).toNat - 0) + 1) (vC st).length && true) = true := hfit
     rw [hn, Bool.and_true, Nat.ble_eq] at hfit
     have hfit2 : r + 1 ≤ st.length := by omega
     have hcc : (vC st).take (0 + 0 + (((r : Nat) : Int).toNat - 0)) ++ [valC y] ++ (vC st).drop (0 + 0 + (((r : Nat) : Int).toNat - 0) + 1) = vC (stP st r y) := by
      rw [show 0 + 0 + (((r : Nat) : Int).toNat - 0) = r by omega, stP, if_pos hfit2]; simp [vC, List.map_take, List.map_drop]
     have hll : (stP st r y).length = st.length := by rw [stP, if_pos hfit2]; simp; omega
     conv => whnf
     refine ⟨m - 1, by omega, Gp.cut (H := [eO, .map kvs, .arr 3 (vC (stP st r y))]) (by rw [← hcc]; rfl) ⟨rfl, hkl, lowP (pureEs_vC _), trivial⟩ rfl rfl ?_ fun ρ1 hh => ⟨k + 1, stP st r y, r + 1, by omega, by rw [q1]; exact hD2, by omega, by omega, hvs2, rfl, hh⟩⟩
     exact ⟨rfl, rfl, rfl, by rw [hll, show r + 1 = ((r : Nat) : Int).toNat - 0 + 1 by omega]; rfl, rfl, rfl, intEq (nx1 (by omega)), trivial⟩
    ·replace hfit : (Nat.ble (0 + 0 + (((r : Nat) : Int).toNat - 0) + 1) (vC st).length && true) = false := hfit
     have hf2 : st.length < r + 1 := by
      rw [Bool.and_true, hn] at hfit
      exact Nat.lt_of_not_le fun hc => by rw [Nat.ble_eq_true_of_le (show 0 + 0 + (((r : Nat) : Int).toNat - 0) + 1 ≤ st.length by omega)] at hfit; cases hfit
     (conv => whnf); refine recT (hb) ?_
     (conv => whnf); refine And.intro (⟨by simp [roomB]; omega, by simp [roomB]; omega, rfl, by rw [hn]; omega⟩) ?_
     conv => whnf
     have hss : stP st r y = st ++ [y] := by rw [stP, if_neg (by omega)]
     have hcc : vC st ++ [valC y] = vC (stP st r y) := by rw [hss]; simp [vC]
     have hll : (stP st r y).length = r + 1 := by rw [hss]; simp; omega
     have hcl : (vC st ++ [valC y]).length = r + 1 := by rw [hcc, vC_length, hll]
     refine ⟨m - 1, by omega, Gp.cut (H := [eO, .map kvs, .arr 3 (vC (stP st r y))]) (by rw [← hcc]; rfl) ⟨rfl, hkl, lowP (pureEs_vC _), trivial⟩ rfl rfl ?_ fun ρ1 hh => ⟨k + 1, stP st r y, r + 1, by omega, by rw [q1]; exact hD2, by omega, by omega, hvs2, rfl, hh⟩⟩
     exact ⟨rfl, rfl, rfl, slEq (by rw [hll]; exact hcl) hcl, rfl, rfl, intEq (nx1 (by omega)), trivial⟩
  by_cases h2 : isSp n.op = true
  ·have hyn : spV n ((st.take D).drop r) = y := by rw [← hyv, evN, if_neg h1, if_neg (by rw [h2]; simp)]
   rw [hyn, h2]
   (conv => whnf); refine recF (by simpa using h1) ?_
   (conv => whnf); refine recT (hb) ?_
   (conv => whnf); refine And.intro (by omega) ?_
   (conv => whnf); refine recT (hb) ?_
   obtain ⟨q1, q2, q3⟩ := stP_take (show r ≤ D by omega) hDl y
   (conv => whnf); refine recA (fun hfit => ?_) (fun hfit => ?_)
   ·replace hfit : (Nat.ble (0 + 0 + (((r : Nat) : Int).toNat - 0) + 1) (vC st).length && true) = true := hfit
    rw [hn, Bool.and_true, Nat.ble_eq] at hfit
    have hfit2 : r + 1 ≤ st.length := by omega
    have hcc : (vC st).take (0 + 0 + (((r : Nat) : Int).toNat - 0)) ++ [valC y] ++ (vC st).drop (0 + 0 + (((r : Nat) : Int).toNat - 0) + 1) = vC (stP st r y) := by
     rw [show 0 + 0 + (((r : Nat) : Int).toNat - 0) = r by omega, stP, if_pos hfit2]; simp [vC, List.map_take, List.map_drop]
    have hll : (stP st r y).length = st.length := by rw [stP, if_pos hfit2]; simp; omega
    conv => whnf
    refine ⟨m - 1, by omega, Gp.cut (H := [eO, .map kvs, .arr 3 (vC (stP st r y))]) (by rw [← hcc]; rfl) ⟨rfl, hkl, lowP (pureEs_vC _), trivial⟩ rfl rfl ?_ fun ρ1 hh => ⟨k + 1, stP st r y, r + 1, by omega, by rw [q1]; exact hD2, by omega, by omega, hvs2, rfl, hh⟩⟩
    exact ⟨rfl, rfl, rfl, by rw [hll, show r + 1 = ((r : Nat) : Int).toNat - 0 + 1 by omega]; rfl, rfl, rfl, intEq (nx1 (by omega)), trivial⟩
   ·replace hfit : (Nat.ble (0 + 0 + (((r : Nat) : Int).toNat - 0) + 1) (vC st).length && true) = false := hfit
    have hf2 : st.length < r + 1 := by
     rw [Bool.and_true, hn] at hfit
     exact Nat.lt_of_not_le fun hc => by rw [Nat.ble_eq_true_of_le (show 0 + 0 + (((r : Nat) : Int).toNat - 0) + 1 ≤ st.length by omega)] at hfit; cases hfit
    (conv => whnf); refine recT (hb) ?_
    (conv => whnf); refine And.intro (⟨by simp [roomB]; omega, by simp [roomB]; omega, rfl, by rw [hn]; omega⟩) ?_
    conv => whnf
    have hss : stP st r y = st ++ [y] := by rw [stP, if_neg (by omega)]
    have hcc : vC st ++ [valC y] = vC (stP st r y) := by rw [hss]; simp [vC]
    have hll : (stP st r y).length = r + 1 := by rw [hss]; simp; omega
    have hcl : (vC st ++ [valC y]).length = r + 1 := by rw [hcc, vC_length, hll]
    refine ⟨m - 1, by omega, Gp.cut (H := [eO, .map kvs, .arr 3 (vC (stP st r y))]) (by rw [← hcc]; rfl) ⟨rfl, hkl, lowP (pureEs_vC _), trivial⟩ rfl rfl ?_ fun ρ1 hh => ⟨k + 1, stP st r y, r + 1, by omega, by rw [q1]; exact hD2, by omega, by omega, hvs2, rfl, hh⟩⟩
    exact ⟨rfl, rfl, rfl, slEq (by rw [hll]; exact hcl) hcl, rfl, rfl, intEq (nx1 (by omega)), trivial⟩
  have h2f : isSp n.op = false := by simpa using h2
  rw [h2f]
  (conv => whnf); refine recF (by simpa using h1) ?_
  (conv => whnf); refine ACalls.use (ACalls.bor rfl ((contV_t false ((st.take D).drop r) (by omega) []).mono fun _ _ h => h.1) (.cons (lentI (f := valC) (fun _ => rfl) hDl (by omega) rfl) (.cons (.same _ rfl) .nil))) ?_
  cases h3 : ((st.take D).drop r).any zEq
  ·have hyn : apV zs n ((st.take D).drop r) = y := by rw [← hyv, evN, if_neg h1, if_pos ⟨h2f, h3⟩]
   obtain ⟨ap1, _⟩ := apV_t hz gd hdl hlv (he.zn n hm) h2f h1
   rw [hyn] at ap1
   (conv => whnf); refine ACalls.use (ACalls.bor rfl ((ap1 []).mono fun _ _ h => h.1) (.cons (.same _ rfl) (.cons (lentI (f := valC) (fun _ => rfl) hDl (by omega) rfl) (.cons (.same _ rfl) .nil)))) ?_
   (conv => whnf); refine recT (hb) ?_
   (conv => whnf); refine And.intro (by omega) ?_
   (conv => whnf); refine recT (hb) ?_
   obtain ⟨q1, q2, q3⟩ := stP_take (show r ≤ D by omega) hDl y
   (conv => whnf); refine recA (fun hfit => ?_) (fun hfit => ?_)
   ·replace hfit : (Nat.ble (0 + 0 + (((r : Nat) : Int).toNat - 0) + 1) (vC st).length && true) = true := hfit
    rw [hn, Bool.and_true, Nat.ble_eq] at hfit
    have hfit2 : r + 1 ≤ st.length := by omega
    have hcc : (vC st).take (0 + 0 + (((r : Nat) : Int).toNat - 0)) ++ [valC y] ++ (vC st).drop (0 + 0 + (((r : Nat) : Int).toNat - 0) + 1) = vC (stP st r y) := by
     rw [show 0 + 0 + (((r : Nat) : Int).toNat - 0) = r by omega, stP, if_pos hfit2]; simp [vC, List.map_take, List.map_drop]
    have hll : (stP st r y).length = st.length := by rw [stP, if_pos hfit2]; simp; omega
    conv => whnf
    refine ⟨m - 1, by omega, Gp.cut (H := [eO, .map kvs, .arr 3 (vC (stP st r y))]) (by rw [← hcc]; rfl) ⟨rfl, hkl, lowP (pureEs_vC _), trivial⟩ rfl rfl ?_ fun ρ1 hh => ⟨k + 1, stP st r y, r + 1, by omega, by rw [q1]; exact hD2, by omega, by omega, hvs2, rfl, hh⟩⟩
    exact ⟨rfl, rfl, rfl, by rw [hll, show r + 1 = ((r : Nat) : Int).toNat - 0 + 1 by omega]; rfl, rfl, rfl, intEq (nx1 (by omega)), trivial⟩
   ·replace hfit : (Nat.ble (0 + 0 + (((r : Nat) : Int).toNat - 0) + 1) (vC st).length && true) = false := hfit
    have hf2 : st.length < r + 1 := by
     rw [Bool.and_true, hn] at hfit
     exact Nat.lt_of_not_le fun hc => by rw [Nat.ble_eq_true_of_le (show 0 + 0 + (((r : Nat) : Int).toNat - 0) + 1 ≤ st.length by omega)] at hfit; cases hfit
    (conv => whnf); refine recT (hb) ?_
    (conv => whnf); refine And.intro (⟨by simp [roomB]; omega, by simp [roomB]; omega, rfl, by rw [hn]; omega⟩) ?_
    conv => whnf
    have hss : stP st r y = st ++ [y] := by rw [stP, if_neg (by omega)]
    have hcc : vC st ++ [valC y] = vC (stP st r y) := by rw [hss]; simp [vC]
    have hll : (stP st r y).length = r + 1 := by rw [hss]; simp; omega
    have hcl : (vC st ++ [valC y]).length = r + 1 := by rw [hcc, vC_length, hll]
    refine ⟨m - 1, by omega, Gp.cut (H := [eO, .map kvs, .arr 3 (vC (stP st r y))]) (by rw [← hcc]; rfl) ⟨rfl, hkl, lowP (pureEs_vC _), trivial⟩ rfl rfl ?_ fun ρ1 hh => ⟨k + 1, stP st r y, r + 1, by omega, by rw [q1]; exact hD2, by omega, by omega, hvs2, rfl, hh⟩⟩
    exact ⟨rfl, rfl, rfl, slEq (by rw [hll]; exact hcl) hcl, rfl, rfl, intEq (nx1 (by omega)), trivial⟩
  ·have hyn : spV n ((st.take D).drop r) = y := by rw [← hyv, evN, if_neg h1, if_neg (by rw [h3]; simp)]
   rw [hyn]
   (conv => whnf); refine recT (hb) ?_
   (conv => whnf); refine And.intro (by omega) ?_
   (conv => whnf); refine recT (hb) ?_
   obtain ⟨q1, q2, q3⟩ := stP_take (show r ≤ D by omega) hDl y
   (conv => whnf); refine recA (fun hfit => ?_) (fun hfit => ?_)
   ·replace hfit : (Nat.ble (0 + 0 + (((r : Nat) : Int).toNat - 0) + 1) (vC st).length && true) = true := hfit
    rw [hn, Bool.and_true, Nat.ble_eq] at hfit
    have hfit2 : r + 1 ≤ st.length := by omega
    have hcc : (vC st).take (0 + 0 + (((r : Nat) : Int).toNat - 0)) ++ [valC y] ++ (vC st).drop (0 + 0 + (((r : Nat) : Int).toNat - 0) + 1) = vC (stP st r y) := by
     rw [show 0 + 0 + (((r : Nat) : Int).toNat - 0) = r by omega, stP, if_pos hfit2]; simp [vC, List.map_take, List.map_drop]
    have hll : (stP st r y).length = st.length := by rw [stP, if_pos hfit2]; simp; omega
    conv => whnf
    refine ⟨m - 1, by omega, Gp.cut (H := [eO, .map kvs, .arr 3 (vC (stP st r y))]) (by rw [← hcc]; rfl) ⟨rfl, hkl, lowP (pureEs_vC _), trivial⟩ rfl rfl ?_ fun ρ1 hh => ⟨k + 1, stP st r y, r + 1, by omega, by rw [q1]; exact hD2, by omega, by omega, hvs2, rfl, hh⟩⟩
    exact ⟨rfl, rfl, rfl, by rw [hll, show r + 1 = ((r : Nat) : Int).toNat - 0 + 1 by omega]; rfl, rfl, rfl, intEq (nx1 (by omega)), trivial⟩
   ·replace hfit : (Nat.ble (0 + 0 + (((r : Nat) : Int).toNat - 0) + 1) (vC st).length && true) = false := hfit
    have hf2 : st.length < r + 1 := by
     rw [Bool.and_true, hn] at hfit
     exact Nat.lt_of_not_le fun hc => by rw [Nat.ble_eq_true_of_le (show 0 + 0 + (((r : Nat) : Int).toNat - 0) + 1 ≤ st.length by omega)] at hfit; cases hfit
    (conv => whnf); refine recT (hb) ?_
    (conv => whnf); refine And.intro (⟨by simp [roomB]; omega, by simp [roomB]; omega, rfl, by rw [hn]; omega⟩) ?_
    conv => whnf
    have hss : stP st r y = st ++ [y] := by rw [stP, if_neg (by omega)]
    have hcc : vC st ++ [valC y] = vC (stP st r y) := by rw [hss]; simp [vC]
    have hll : (stP st r y).length = r + 1 := by rw [hss]; simp; omega
    have hcl : (vC st ++ [valC y]).length = r + 1 := by rw [hcc, vC_length, hll]
    refine ⟨m - 1, by omega, Gp.cut (H := [eO, .map kvs, .arr 3 (vC (stP st r y))]) (by rw [← hcc]; rfl) ⟨rfl, hkl, lowP (pureEs_vC _), trivial⟩ rfl rfl ?_ fun ρ1 hh => ⟨k + 1, stP st r y, r + 1, by omega, by rw [q1]; exact hD2, by omega, by omega, hvs2, rfl, hh⟩⟩
    exact ⟨rfl, rfl, rfl, slEq (by rw [hll]; exact hcl) hcl, rfl, rfl, intEq (nx1 (by omega)), trivial⟩
 ·simp at hlt
  have hk2 : k = e.length := by omega
  subst hk2
  rw [List.drop_length] at hD
  have hD1 : st.take D = [evE zs kvs e] := Option.some.inj hD
  have hlD : (st.take D).length = D := by simp; omega
  obtain rfl : D = 1 := by rw [hD1] at hlD; exact hlD.symm
  obtain ⟨kk, rest, rfl⟩ : ∃ kk rest, st = kk :: rest := by
   cases st with
   | nil => simp at hDl
   | cons x xs => exact ⟨x, xs, rfl⟩
  have hkk : kk = evE zs kvs e := by simpa using hD1
  repeat' ((conv => whnf); first | refine recT hb ?_ | refine And.intro (by first | decide | omega) ?_)
  all_goals (conv => whnf)
  rw [← hkk]
  exact pub2 (.closed _ rfl) (.closed _ rfl)
end Go.AW

namespace Go.AW
variable [Draws]
attribute [local irreducible] ACalls CallE CallS Gp
set_option maxRecDepth 20000
set_option maxHeartbeats 8000000
noncomputable def kpB (cs : List Col) (zs : List Zon) (e : List Nod) (x : Ent) : Bool := truth (evE zs (mpR (cs.zip x.row)) e) == 1
noncomputable def kpF (cs : List Col) (zs : List Zon) (e : List Nod) (l : List Ent) : List Ent := l.filter (kpB cs zs e)
theorem where_t [Gls] (r : RlR) {cs : List Col} (hcl : r.cols = cs) (hcs : CsOk cs) {zs : List Zon} (hz : ZsOk zs) {e : List Nod} {kf : Kd} (he : ETy cs zs e kf) (ht : TbOk cs r.rows) (H : List AObj) :
  ACalls pr 111 [.agg (spC (some e)), .agg (rlC r), .list false 3 (mC zonC zs)] H (fun q H' => q = .tuple [.list false 2 (eC (kpF cs zs e r.rows)), .int .i64 0] ∧ H' = H) := by
 have hb0 : bagB r.rows = 0 := by have := ht.1; unfold tabB at this; simp at this; exact this.1
 have hlen := bag_len hb0
 have hrl : ∀ x ∈ r.rows, x.row.length ≤ 1000000 := fun x hx => by
  have := (chkRow_ok (ht.2 x hx)).1
  have := hcs.len
  omega
 refine ACalls.pure rfl (acalls_of_body k111.has ?_)
 conv => whnf
 refine ⟨fun m ρ H1 => ∃ k : Nat, k + m = r.rows.length ∧ H1 = [.arr 6 [spC (some e)], .arr 4 [rlC r], .arr 2 (eC (kpF cs zs e (r.rows.take k)))] ∧ Sv 44 [(2, .list false 3 (mC zonC zs)), (3, .ptr 0 1 0 0), (4, .ptr 1 1 0 0), (8, .sl 2 (kpF cs zs e (r.rows.take k)).length 0 (kpF cs zs e (r.rows.take k)).length), (14, .list false 2 (eC r.rows)), (15, .int .i64 r.rows.length), (16, .int .i64 k)] ρ, r.rows.length, [(8, 2)], ?_, ?_⟩
 ·exact ⟨0, Nat.zero_add _, rfl, Sv.intro rfl ⟨rfl, rfl, rfl, rfl, rfl, intEq (by rw [eC_length]), rfl, trivial⟩⟩
 rintro m ρ H1 ⟨k, hk, rfl, d, rfl⟩
 obtain ⟨X, hX⟩ : ∃ X, X = kpF cs zs e (r.rows.take k) := ⟨_, rfl⟩
 have hXl : X.length ≤ 4096 := by
  rw [hX]
  exact Nat.le_trans (List.length_filter_le _ _) (by rw [List.length_take]; omega)
 rw [← hX]
 have hxl : (eC X).length = X.length := eC_length _
 have hb : Nat.beq X.length (eC X).length = true := by rw [hxl]; exact Nat.beq_refl _
 (conv => whnf); refine recA (fun hlt => ?_) (fun hlt => ?_)
 ·simp at hlt
  obtain ⟨x, hxk, _, hm⟩ := get_drop (l := r.rows) (k := k) (by omega)
  have hev := eval_t false r.fc false hcs hz he (ht.2 x hm)
  have htk : r.rows.take (k + 1) = r.rows.take k ++ [x] := take_succ' hxk
  (conv => whnf); refine And.intro (by omega) ?_
  (conv => whnf); refine recO (eC_at hxk) ?_
  conv => whnf
  rw [hcl]
  refine ACalls.use (hev _) ?_
  (conv => whnf); refine ACalls.use (value_Truth_spec (evE zs (mpR (cs.zip x.row)) e) _) ?_
  (conv => whnf); refine recA (fun h1 => ?_) (fun h1 => ?_)
  ·have hk1 : kpF cs zs e (r.rows.take (k + 1)) = X ++ [x] := by
    rw [htk, kpF, List.filter_append, ← kpF, ← hX, List.filter_cons_of_pos (by exact h1)]; rfl
   have hcc : eC X ++ [entC x] = eC (X ++ [x]) := (eC_snoc _ _).symm
   have hcl2 : (eC X ++ [entC x]).length = (X ++ [x]).length := by rw [hcc, eC_length]
   (conv => whnf); refine recT (hb) ?_
   (conv => whnf); refine And.intro (⟨by simp [roomB]; omega, by simp [roomB]; omega, rfl, hxl.symm⟩) ?_
   conv => whnf
   refine ⟨m - 1, by omega, Gp.cut (H := [.arr 6 [spC (some e)], .arr 4 [rlC r], .arr 2 (eC (X ++ [x]))]) (by rw [← hcc]; rfl) ⟨rfl, rfl, lowP (pureEs_eC _), trivial⟩ rfl rfl ?_ fun ρ1 h => ⟨k + 1, by omega, by rw [hk1], by rw [hk1]; exact h⟩⟩
   exact ⟨rfl, rfl, rfl, slEq hcl2 hcl2, rfl, rfl, intEq (nx1 (by omega)), trivial⟩
  ·have hk1 : kpF cs zs e (r.rows.take (k + 1)) = X := by
    rw [htk, kpF, List.filter_append, ← kpF, ← hX, List.filter_cons_of_neg (by rw [show kpB cs zs e x = false from h1]; simp)]; simp
   conv => whnf
   refine ⟨m - 1, by omega, Gp.cut (H := [.arr 6 [spC (some e)], .arr 4 [rlC r], .arr 2 (eC X)]) rfl ⟨rfl, rfl, lowP (pureEs_eC _), trivial⟩ rfl rfl ?_ fun ρ1 h => ⟨k + 1, by omega, by rw [hk1], by rw [hk1]; exact h⟩⟩
   exact ⟨rfl, rfl, rfl, rfl, rfl, rfl, intEq (nx1 (by omega)), trivial⟩
 ·simp at hlt
  obtain rfl : k = r.rows.length := by omega
  rw [List.take_length] at hX
  conv => whnf
  refine Ghost.none (n := 44) (live := [(8, .list false 2 (eC X))]) rfl ⟨pubF rfl hxl.symm hxl.symm (pureEs_eC _), trivial⟩ ?_
  rintro ρ ⟨dd, rfl⟩
  (conv => whnf); refine ACalls.use (copied_t false X (by omega) (fun x hx => hrl x (by rw [hX] at hx; exact (List.mem_filter.1 hx).1)) _) ?_
  conv => whnf
  rw [hX]
  exact pub2 (.closed _ rfl) (.closed _ rfl)
def rlA (cs : List Col) (l : List Ent) : List AVal := [.str (bs []), .list false 3 (cC cs), .nil, .list false 2 (eC l)]
def rlZ : List AVal := [.str (bs []), .nil, .nil, .nil]
def rlA' (cs : List Col) (l : List Ent) : RlR := ⟨bs [], false, cs, l⟩
theorem oper0_t {r : RlR} {cs : List Col} (hcl : r.cols = cs) (hcs : CsOk cs) (ht : TbOk cs r.rows) (zs : List Zon) (H : List AObj) :
  ACalls pr 77 [.agg (spC none), .agg rlZ, .agg (rlC r), .list false 3 (mC zonC zs)] H (fun q H' => q = .tuple [.list false 2 (eC r.rows), .int .i64 0] ∧ H' = H) := by
 have hb0 : bagB r.rows = 0 := by have := ht.1; unfold tabB at this; simp at this; exact this.1
 have hlen := bag_len hb0
 have hrl : ∀ x ∈ r.rows, x.row.length ≤ 1000000 := fun x hx => by
  have := (chkRow_ok (ht.2 x hx)).1
  have := hcs.len
  omega
 refine ACalls.pure rfl (acalls_of_body k77.has ?_)
 (conv => whnf); refine ACalls.use (copied_t false r.rows (by omega) hrl _) ?_
 conv => whnf
 exact pub2 (.closed _ rfl) (.closed _ rfl)
theorem oper1_t [Gls] {cs : List Col} (hcs : CsOk cs) {zs : List Zon} (hz : ZsOk zs) {e : List Nod} {kf : Kd} (he : ETy cs zs e kf) {l : List Ent} (ht : TbOk cs l) (H : List AObj) :
  ACalls pr 77 [.agg (spC (some e)), .agg (rlA cs l), .agg rlZ, .list false 3 (mC zonC zs)] H (fun q H' => q = .tuple [.list false 2 (eC (kpF cs zs e l)), .int .i64 0] ∧ H' = H) := by
 refine ACalls.pure rfl (acalls_of_body k77.has ?_)
 (conv => whnf); refine ACalls.use (where_t (rlA' cs l) rfl hcs hz he ht _) ?_
 conv => whnf
 exact pub2 (.closed _ rfl) (.closed _ rfl)
theorem eStep0_t [Gls] {r : RlR} {cs : List Col} (hcl : r.cols = cs) (hcs : CsOk cs) (ht : TbOk cs r.rows) {zs : List Zon} (hz : ZsOk zs) (H : List AObj) :
  ACalls pr 48 [.agg (spC none), .agg rlZ, .agg (rlC r), .list false 3 (mC zonC zs)] H (fun q H' => q = .tuple [.agg (rlA cs r.rows), .int .i64 0] ∧ H' = H) := by
 subst hcl
 refine ACalls.pure rfl (acalls_of_body k48.has ?_)
 (conv => whnf); refine ACalls.use (tStep0_t r.fc false hcs hz _) ?_
 (conv => whnf); refine ACalls.use (evalid_t hcs ht _) ?_
 (conv => whnf); refine ACalls.use (oper0_t rfl hcs ht zs _) ?_
 conv => whnf
 exact pub2 (.closed _ rfl) (.closed _ rfl)
theorem eStep1_t [Gls] {cs : List Col} (hcs : CsOk cs) {zs : List Zon} (hz : ZsOk zs) {e : List Nod} {kf : Kd} (he : ETy cs zs e kf) (hs : SpOk cs zs (some e)) {l : List Ent} (ht : TbOk cs l) (H : List AObj) :
  ACalls pr 48 [.agg (spC (some e)), .agg (rlA cs l), .agg rlZ, .list false 3 (mC zonC zs)] H (fun q H' => q = .tuple [.agg (rlA cs (kpF cs zs e l)), .int .i64 0] ∧ H' = H) := by
 refine ACalls.pure rfl (acalls_of_body k48.has ?_)
 (conv => whnf); refine ACalls.use (tStep1_t false false hcs hz hs _) ?_
 (conv => whnf); refine ACalls.use (evalid_t (r := rlA' cs l) hcs ht _) ?_
 (conv => whnf); refine ACalls.use (oper1_t hcs hz he ht _) ?_
 conv => whnf
 exact pub2 (.closed _ rfl) (.closed _ rfl)
noncomputable def rwQ (cs : List Col) (zs : List Zon) (l : List Ent) : List (Option (List Nod)) → List Ent
 | [] => l
 | none :: q => rwQ cs zs l q
 | some e :: q => rwQ cs zs (kpF cs zs e l) q
theorem rwQ_snoc (cs : List Col) (zs : List Zon) (q : List (Option (List Nod))) (s : Option (List Nod)) : ∀ l, rwQ cs zs l (q ++ [s]) = rwQ cs zs (rwQ cs zs l q) [s] := by
 induction q with
 | nil => intro l; rfl
 | cons x q ih => intro l; cases x <;> exact ih _
theorem rwQ_ok {cs : List Col} (zs : List Zon) (q : List (Option (List Nod))) : ∀ {l : List Ent}, TbOk cs l → TbOk cs (rwQ cs zs l q) := by
 induction q with
 | nil => intro l h; exact h
 | cons x q ih =>
  intro l h
  cases x with
  | none => exact ih h
  | some e => exact ih (h.filter _)
noncomputable def lvE (cs : List Col) (zs : List Zon) (l : List Ent) (q : List (Option (List Nod))) : Nat → List (List AVal)
 | 0 => []
 | k + 1 => lvE cs zs l q k ++ [rlA cs (rwQ cs zs l (q.take (k + 1)))]
theorem lvE_len (cs : List Col) (zs : List Zon) (l : List Ent) (q : List (Option (List Nod))) : ∀ k, (lvE cs zs l q k).length = k
 | 0 => rfl
 | k + 1 => by rw [lvE, List.length_append, lvE_len cs zs l q k]; rfl
theorem lvE_pure (cs : List Col) (zs : List Zon) (l : List Ent) (q : List (Option (List Nod))) : ∀ k, pureEs (lvE cs zs l q k) = true
 | 0 => rfl
 | k + 1 => by
  have ih := lvE_pure cs zs l q k
  rw [lvE, pureEs, List.all_append, Bool.and_eq_true]
  exact ⟨ih, rfl⟩
theorem efind1_t (z : RlR) (o1 o2 o3 : AObj) : ACalls pr 47 ([.agg (rlC z)] ++ [.ptr 2 1 0 0]) [o1, o2, .arr 6 [spC none], o3] (fun r H' => r = .bool (rlN ordN z) ∧ H' = [o1, o2, .arr 6 [spC none], o3]) := by
 refine ACalls.drop rfl (acalls_of_body k47.has ?_)
 conv => whnf
 exact ⟨rfl, _, rfl⟩
noncomputable def inpC (cs : List Col) (zs : List Zon) (l : List Ent) (q : List (Option (List Nod))) (k : Nat) : List AVal := if k = 0 then rlZ else rlA cs (rwQ cs zs l (q.take k))
theorem inpC_pure (cs : List Col) (zs : List Zon) (l : List Ent) (q : List (Option (List Nod))) (k : Nat) : pureEs [inpC cs zs l q k] = true := by
 unfold inpC
 split <;> rfl
theorem levels_t [Gls] (x1 x2 : Bool) {cs : List Col} {zs : List Zon} {q : List (Option (List Nod))} (hq : QOk cs zs q) (hcs : CsOk cs) (hz : ZsOk zs) {r0 : RlR} {R : List RlR} (hr : RsOk cs r0 R) (H : List AObj) :
  ACalls pr 31 [.list x1 6 (mC spC q), .list x2 4 (mC rlC (r0 :: R)), .list false 3 (mC zonC zs)] H (fun r H' => r = .tuple [.list false 4 (lvE cs zs r0.rows q q.length), .int .i64 0] ∧ H' = H) := by
 have hrl := hr.len
 have h16 := hq.n2
 have hRl : (r0 :: R).length = R.length + 1 := rfl
 have ht0 : TbOk cs r0.rows := by rw [← hr.cl]; exact hr.tb r0 (List.mem_cons_self ..)
 have h0 : idxOf (rlN ordN) (r0 :: R) 0 = 0 := by
  rw [idxOf, if_pos (by unfold rlN; rw [hr.nm]; exact beq_self_eq_true _)]
 refine ACalls.pure rfl (acalls_of_body k31.has ?_)
 (conv => whnf); refine ACalls.use (tQuery_t x1 x2 false hq hcs hz hr _) ?_
 conv => whnf
 refine ⟨fun m ρ H1 => ∃ k : Nat, k + m = (r0 :: R).length ∧ H1 = [] ∧ Sv 75 [(0, .list x1 6 (mC spC q)), (1, .list x2 4 (mC rlC (r0 :: R))), (2, .list false 3 (mC zonC zs)), (30, .list x2 4 (mC rlC (r0 :: R))), (31, .int .i64 (r0 :: R).length), (32, .int .i64 k)] ρ, (r0 :: R).length, [], ?_, ?_⟩
 ·exact ⟨0, Nat.zero_add _, rfl, Sv.intro rfl ⟨rfl, rfl, rfl, rfl, intEq (by rw [mC_length]), rfl, trivial⟩⟩
 rintro m ρ H1 ⟨k, hk, rfl, d, rfl⟩
 (conv => whnf); refine recA (fun hlt => ?_) (fun hlt => ?_)
 ·simp at hlt
  obtain ⟨r, hrk, _, hm⟩ := get_drop (l := r0 :: R) (k := k) (by simp; omega)
  (conv => whnf); refine And.intro (by omega) ?_
  (conv => whnf); refine recO (mC_at hrk) ?_
  (conv => whnf); refine ACalls.use (evalid_t (hr.cv r hm) (hr.tb r hm) _) ?_
  conv => whnf
  refine ⟨m - 1, by omega, Gp.cut (H := []) rfl trivial rfl rfl ?_ fun ρ1 h => ⟨k + 1, by omega, rfl, h⟩⟩
  exact ⟨rfl, rfl, rfl, rfl, rfl, intEq (nx1 (by omega)), trivial⟩
 conv => whnf
 refine ⟨fun m ρ H1 => ∃ k : Nat, k + m = q.length ∧ H1 = [.arr 4 [inpC cs zs r0.rows q k], .arr 4 (lvE cs zs r0.rows q k)] ∧ Sv 75 [(1, .list x2 4 (mC rlC (r0 :: R))), (2, .list false 3 (mC zonC zs)), (13, .sl 1 k 0 k), (14, .ptr 0 1 0 0), (42, .list x1 6 (mC spC q)), (43, .int .i64 q.length), (44, .int .i64 k)] ρ, q.length, [(13, 4)], ?_, ?_⟩
 ·exact ⟨0, Nat.zero_add _, rfl, Sv.intro rfl ⟨rfl, rfl, rfl, rfl, rfl, intEq (by rw [mC_length]), rfl, trivial⟩⟩
 rintro m ρ H1 ⟨k, hk, rfl, d, rfl⟩
 have hll := lvE_len cs zs r0.rows q k
 have hb : Nat.beq k (lvE cs zs r0.rows q k).length = true := by rw [hll]; exact Nat.beq_refl _
 (conv => whnf); refine recA (fun hlt => ?_) (fun hlt => ?_)
 ·simp at hlt
  obtain ⟨s, hsk, _, hm⟩ := get_drop (l := q) (k := k) (by omega)
  have hf := hq.fst k s hsk
  have htk : q.take (k + 1) = q.take k ++ [s] := take_succ' hsk
  have hcl : (lvE cs zs r0.rows q k ++ [rlA cs (rwQ cs zs r0.rows (q.take (k + 1)))]).length = k + 1 := lvE_len cs zs r0.rows q (k + 1)
  have hin : inpC cs zs r0.rows q (k + 1) = rlA cs (rwQ cs zs r0.rows (q.take (k + 1))) := by rw [inpC, if_neg (by omega)]
  (conv => whnf); refine And.intro (by omega) ?_
  (conv => whnf); refine recO (mC_at hsk) ?_
  cases s with
  | none =>
   obtain rfl : k = 0 := hf.1 rfl
   have hrw : rwQ cs zs r0.rows (q.take (0 + 1)) = r0.rows := by rw [htk]; rfl
   have hlv : lvE cs zs r0.rows q (0 + 1) = lvE cs zs r0.rows q 0 ++ [rlA cs r0.rows] := by
    show _ ++ [rlA cs (rwQ cs zs r0.rows (q.take (0 + 1)))] = _
    rw [hrw]
   rw [hrw] at hcl hin
   (conv => whnf); refine ACalls.use (idxR_t _ _ (rlN ordN) _ (r0 :: R) (fun c _ => efind1_t c _ _ _) x2 (by simp; omega)) ?_
   rw [h0]
   repeat ((conv => whnf); refine And.intro (by decide) ?_)
   conv => whnf
   refine ACalls.use (eStep0_t hr.cl hcs ht0 hz _) ?_
   repeat ((conv => whnf); first | refine And.intro rfl ?_ | refine And.intro (⟨by simp [roomB], by simp [roomB], rfl, rfl⟩) ?_)
   conv => whnf
   refine ⟨m - 1, by omega, Gp.cut (H := [.arr 4 [inpC cs zs r0.rows q (0 + 1)], .arr 4 (lvE cs zs r0.rows q (0 + 1))]) (by rw [hin, hlv]; rfl) ⟨lowP (inpC_pure _ _ _ _ _), lowP (lvE_pure _ _ _ _ _), trivial⟩ rfl rfl ?_ fun ρ1 h => ⟨0 + 1, by omega, rfl, h⟩⟩
   exact ⟨rfl, rfl, slEq hcl hcl, rfl, rfl, rfl, intEq (nx1 (by omega)), trivial⟩
  | some e =>
   have hk0 : k ≠ 0 := fun h => by cases hf.2 h
   obtain ⟨kf, he, hkf⟩ := hq.sp _ hm e rfl
   have hrw : rwQ cs zs r0.rows (q.take (k + 1)) = kpF cs zs e (rwQ cs zs r0.rows (q.take k)) := by rw [htk, rwQ_snoc]; rfl
   have hi0 : inpC cs zs r0.rows q k = rlA cs (rwQ cs zs r0.rows (q.take k)) := by rw [inpC, if_neg hk0]
   have hlv : lvE cs zs r0.rows q (k + 1) = lvE cs zs r0.rows q k ++ [rlA cs (kpF cs zs e (rwQ cs zs r0.rows (q.take k)))] := by
    show _ ++ [rlA cs (rwQ cs zs r0.rows (q.take (k + 1)))] = _
    rw [hrw]
   rw [hi0]
   rw [hrw] at hcl hin
   (conv => whnf); refine ACalls.use (eStep1_t hcs hz he (hq.sp _ hm) (rwQ_ok zs (q.take k) ht0) _) ?_
   (conv => whnf); refine recT (hb) ?_
   (conv => whnf); refine And.intro (⟨by simp [roomB]; omega, by simp [roomB]; omega, rfl, hll.symm⟩) ?_
   repeat ((conv => whnf); refine And.intro rfl ?_)
   conv => whnf
   refine ⟨m - 1, by omega, Gp.cut (H := [.arr 4 [inpC cs zs r0.rows q (k + 1)], .arr 4 (lvE cs zs r0.rows q (k + 1))]) (by rw [hin, hlv]; rfl) ⟨lowP (inpC_pure _ _ _ _ _), lowP (lvE_pure _ _ _ _ _), trivial⟩ rfl rfl ?_ fun ρ1 h => ⟨k + 1, by omega, rfl, h⟩⟩
   exact ⟨rfl, rfl, slEq hcl hcl, rfl, rfl, rfl, intEq (nx1 (by omega)), trivial⟩
 ·simp at hlt
  obtain rfl : k = q.length := by omega
  conv => whnf
  exact pub2 (pubF rfl hll.symm hll.symm (lvE_pure _ _ _ _ _)) (.closed _ rfl)
theorem equery_t [Gls] (x1 x2 : Bool) {cs : List Col} {zs : List Zon} {q : List (Option (List Nod))} (hq : QOk cs zs q) (hcs : CsOk cs) (hz : ZsOk zs) {r0 : RlR} {R : List RlR} (hr : RsOk cs r0 R) (H : List AObj) :
  ACalls pr 20 [.list x1 6 (mC spC q), .list x2 4 (mC rlC (r0 :: R)), .list false 3 (mC zonC zs)] H (fun r H' => r = .tuple [.agg (rlA cs (rwQ cs zs r0.rows q)), .int .i64 0] ∧ H' = H) := by
 have h1 := hq.n1
 have h16 := hq.n2
 obtain ⟨k, hk⟩ : ∃ k, q.length = k + 1 := ⟨q.length - 1, by omega⟩
 have hlast : (lvE cs zs r0.rows q q.length)[((q.length : Int) - 1).toNat]? = some (rlA cs (rwQ cs zs r0.rows q)) := by
  rw [show ((q.length : Int) - 1).toNat = k by omega, hk, lvE, List.getElem?_append_right (by rw [lvE_len]; exact Nat.le_refl _), lvE_len, Nat.sub_self, ← hk, List.take_length]
  rfl
 refine ACalls.pure rfl (acalls_of_body k20.has ?_)
 (conv => whnf); refine ACalls.use (levels_t x1 x2 hq hcs hz hr _) ?_
 conv => whnf
 rw [lvE_len, wrapI _ (by omega) (by omega)]
 (conv => whnf); refine And.intro (by omega) ?_
 (conv => whnf); refine recO hlast ?_
 conv => whnf
 exact pub2 (.closed _ rfl) (.closed _ rfl)
end Go.AW

namespace Go.AW
variable [Draws]
attribute [local irreducible] ACalls CallE CallS Gp
set_option maxRecDepth 20000
set_option maxHeartbeats 8000000
theorem wstep_t (e : List Nod) (H : List AObj) : ACalls pr 7 [.list false 6 (mC nodC e)] H (fun r H' => r = .agg (spC (some e)) ∧ H' = H) := by
 refine ACalls.pure rfl (acalls_of_body k7.has ?_)
 conv => whnf
 exact .closed _ rfl
theorem sps_pure (q : List (Option (List Nod))) : pureEs (mC spC q) = true := mC_pure sp_pure q
theorem pubFI {H1 : List AObj} {n : Nat} {ids : List Nat} {id ep len sz : Nat} {es : List (List AVal)} (hid : id ∉ ids) (ho : H1[id]? = some (.arr sz es)) (he : ep = es.length) (hl : len = es.length) (hp : pureEs es = true) : Pub H1 n ids (.sl id ep 0 len) (.list false sz es) := by
 subst hl he
 have := Pub.frz (n := n) (ids := ids) id es.length 0 es.length sz es ho rfl hp hid
 rwa [List.drop_zero, List.take_length] at this
theorem run_t [Gls] (x y : Bool) {cs : List Col} {e : List Nod} {es : List (List Nod)} (hq : QOk cs zsV (none :: some e :: es.map some)) (hcs : CsOk cs) {r0 : RlR} {R : List RlR} (hr : RsOk cs r0 R) (H : List AObj) :
  ACalls pr 6 [.list x 4 (mC rlC (r0 :: R)), .list y 6 (mC spC (some e :: es.map some))] H (fun r H' => r = .tuple [.agg (rlA cs (rwQ cs zsV r0.rows (some e :: es.map some))), .bool true] ∧ H' = H) := by
 have hl := hq.n2
 simp at hl
 refine ACalls.pure rfl (acalls_of_body k6.has ?_)
 (conv => whnf); refine And.intro (⟨by simp [roomB, mC]; omega, by simp [roomB, mC]; omega, .inl (fun h => by cases h)⟩) ?_
 conv => whnf
 refine .mk (Gp.some (n := 23) (live := [(0, .list x 4 (mC rlC (r0 :: R))), (4, .ptr 0 1 0 0), (6, .list false 6 (mC spC (none :: some e :: es.map some)))]) (H1 := [.arr 4 [rlZ]]) [0] (by simp) ⟨⟨_, rfl, .same _ _ rfl⟩, trivial⟩ rfl ⟨.closed _ rfl, .keepP 0 1 0 0 0 rfl, pubFI (by simp) rfl rfl rfl (sps_pure (none :: some e :: es.map some)), trivial⟩ ?_)
 rintro ρ ⟨dd, rfl⟩
 (conv => whnf); refine ACalls.use (zones_t.a _) ?_
 have hqq := fun H => equery_t false x hq hcs zsV_ok hr H
 simp only [rwQ] at hqq
 (conv => whnf); refine ACalls.use (hqq _) ?_
 simp only [rwQ]
 conv => whnf
 exact pub2 (.closed _ rfl) (.closed _ rfl)
theorem relations_raw : ACalls pr 11 [] [] (fun r H' => r = .sl 0 3 0 3 ∧ H' = [.arr 4 [[.str ordN, .list true 3 (cC ordC), .nil, .nil], [.str (bs [99, 117, 115, 116, 111, 109, 101, 114, 115]), .list true 3 (cC cusC), .nil, .nil], [.str (bs [114, 101, 116, 117, 114, 110, 115]), .list true 3 (cC ordC), .nil, .nil]]]) := by
 refine acalls_of_body k11.has ?_
 conv => whnf
 exact ⟨rfl, rfl⟩
theorem tail_t (x : Bool) (l : List Int) (n : Int) (hn : 0 ≤ n) : ∃ l' : List Int, ∀ H, ACalls pr 13 [.list x 1 (iC l), .int .i64 n] H (fun r H' => r = .list x 1 (iC l') ∧ H' = H) := by
 refine ⟨l.drop (if (n : Int) < ((iC l).length : Nat) then (n : Int) else ((iC l).length : Nat)).toNat, fun H => ?_⟩
 refine ACalls.pure rfl (acalls_of_body k13.has ?_)
 conv => whnf
 refine And.intro (by rw [iC_length]; constructor <;> split <;> omega) ?_
 conv => whnf
 rw [List.take_length, iC_drop]
 cases x <;> exact .closed _ rfl
def flE (n1 n2 n3 : Nat) (a b c : AVal) (k : Nat) : List (List AVal) := [[.str ordN, .list true 3 (cC ordC), .nil, if 0 < k then a else .nil], [.str (bs [99, 117, 115, 116, 111, 109, 101, 114, 115]), .list true 3 (cC cusC), .nil, if 1 < k then b else .nil], [.str (bs [114, 101, 116, 117, 114, 110, 115]), .list true 3 (cC ordC), .nil, if 2 < k then c else .nil]]
theorem ordOk : CsOk ordC := ⟨by decide, by decide, by decide⟩
theorem cusOk : CsOk cusC := ⟨by decide, by decide, by decide⟩
theorem ordCz : CzK ordC := by
 refine ⟨by decide, fun c hc => ?_, fun a ha b hb h => ?_⟩
 ·simp only [ordC, List.mem_cons, List.not_mem_nil, or_false] at hc
  rcases hc with rfl | rfl | rfl | rfl <;> decide
 ·simp only [ordC, List.mem_cons, List.not_mem_nil, or_false] at ha hb
  rcases ha with rfl | rfl | rfl | rfl <;> rcases hb with rfl | rfl | rfl | rfl <;> first | rfl | (exact absurd h (by decide))
theorem ordCl : ∀ c ∈ ordC, clOk c := fun c hc => (ordCz.2.1 c hc).2.2.2
theorem cusCl : ∀ c ∈ cusC, clOk c := by
 intro c hc
 simp only [cusC, List.mem_cons, List.not_mem_nil, or_false] at hc
 rcases hc with rfl | rfl | rfl | rfl <;> (unfold clOk; decide)
theorem filled_r (g : Bool) (l : List Int) : ∃ (r0 r1 r2 : RlR), RsOk ordC r0 [r1, r2] ∧ r0.fc = true ∧ ACalls pr 4 [.list g 1 (iC l), .int .i64 8] [] (fun r H' => r = .sl 0 3 0 3 ∧ H' = [.arr 4 (mC rlC [r0, r1, r2])]) := by
 obtain ⟨l0, t0⟩ := tail_t g l 0 (by decide)
 obtain ⟨l1, t1⟩ := tail_t g l 3 (by decide)
 obtain ⟨l2, t2⟩ := tail_t g l 6 (by decide)
 have hn : ∀ i, ∃ n : Nat, (atV l i).tmod 9 = n ∧ n ≤ 8 := fun i => by
  have h := (atV_bounds l i).1
  have h1 := Int.tmod_nonneg 9 h
  have h2 := Int.tmod_lt_of_pos (atV l i) (show (0 : Int) < 9 by decide)
  exact ⟨((atV l i).tmod 9).toNat, by omega, by omega⟩
 obtain ⟨n0, e0, b0⟩ := hn 0
 obtain ⟨n1, e1, b1⟩ := hn 1
 obtain ⟨n2, e2, b2⟩ := hn 2
 refine ⟨⟨ordN, true, ordC, tabG ordC l0 n0⟩, ⟨bs [99, 117, 115, 116, 111, 109, 101, 114, 115], true, cusC, tabG cusC l1 n1⟩, ⟨bs [114, 101, 116, 117, 114, 110, 115], true, ordC, tabG ordC l2 n2⟩, ⟨(by decide : (2 : Nat) ≤ 1000), rfl, rfl, fun r hr => ?_, fun r hr => ?_⟩, rfl, ?_⟩
 ·simp only [List.mem_cons, List.not_mem_nil, or_false] at hr
  rcases hr with rfl | rfl | rfl
  ·exact ordOk
  ·exact cusOk
  ·exact ordOk
 ·simp only [List.mem_cons, List.not_mem_nil, or_false] at hr
  rcases hr with rfl | rfl | rfl
  ·exact tabG_ok _ ordCl _ _
  ·exact tabG_ok _ cusCl _ _
  ·exact tabG_ok _ ordCl _ _
 ·refine acalls_of_body k4.has ?_
  conv => whnf
  refine ACalls.mono relations_raw ?_
  rintro r H1 ⟨rfl, rfl⟩
  conv => whnf
  refine ⟨fun m ρ H1 => ∃ k : Nat, k + m = 3 ∧ H1 = [.arr 4 (flE n0 n1 n2 (.list false 2 (eC (tabG ordC l0 n0))) (.list false 2 (eC (tabG cusC l1 n1))) (.list false 2 (eC (tabG ordC l2 n2))) k)] ∧ Sv 35 [(0, .list g 1 (iC l)), (1, .int .i64 8), (5, .sl 0 3 0 3), (6, .int .i64 k)] ρ, 3, [], ?_, ?_⟩
  ·exact ⟨0, rfl, rfl, Sv.intro rfl ⟨rfl, rfl, rfl, rfl, trivial⟩⟩
  rintro m ρ H1 ⟨k, hk, rfl, d, rfl⟩
  obtain rfl | rfl | rfl | rfl : k = 0 ∨ k = 1 ∨ k = 2 ∨ k = 3 := by omega
  ·(conv => whnf); refine And.intro (by decide) ?_
   conv => whnf
   refine ⟨_, t0 _, ?_⟩
   conv => whnf
   refine ⟨_, At_spec g l 0 _, ?_⟩
   conv => whnf
   refine And.intro (by decide) ?_
   rw [show (atV l 0).tmod (IntKind.i64.wrap (8 + 1)) = (n0 : Int) from e0]
   conv => whnf
   refine ⟨_, Rows_spec true g ordC l0 n0 (by decide) (by omega) _, ?_⟩
   (conv => whnf); refine And.intro (by decide) ?_
   conv => whnf
   refine ⟨m - 1, by omega, Gp.keep rfl ?_ fun ρ1 h => ⟨0 + 1, by omega, rfl, h⟩⟩
   exact ⟨rfl, rfl, rfl, rfl, trivial⟩
  ·(conv => whnf); refine And.intro (by decide) ?_
   conv => whnf
   refine ⟨_, t1 _, ?_⟩
   conv => whnf
   refine ⟨_, At_spec g l 1 _, ?_⟩
   conv => whnf
   refine And.intro (by decide) ?_
   rw [show (atV l 1).tmod (IntKind.i64.wrap (8 + 1)) = (n1 : Int) from e1]
   conv => whnf
   refine ⟨_, Rows_spec true g cusC l1 n1 (by decide) (by omega) _, ?_⟩
   (conv => whnf); refine And.intro (by decide) ?_
   conv => whnf
   refine ⟨m - 1, by omega, Gp.keep rfl ?_ fun ρ1 h => ⟨1 + 1, by omega, rfl, h⟩⟩
   exact ⟨rfl, rfl, rfl, rfl, trivial⟩
  ·(conv => whnf); refine And.intro (by decide) ?_
   conv => whnf
   refine ⟨_, t2 _, ?_⟩
   conv => whnf
   refine ⟨_, At_spec g l 2 _, ?_⟩
   conv => whnf
   refine And.intro (by decide) ?_
   rw [show (atV l 2).tmod (IntKind.i64.wrap (8 + 1)) = (n2 : Int) from e2]
   conv => whnf
   refine ⟨_, Rows_spec true g ordC l2 n2 (by decide) (by omega) _, ?_⟩
   (conv => whnf); refine And.intro (by decide) ?_
   conv => whnf
   refine ⟨m - 1, by omega, Gp.keep rfl ?_ fun ρ1 h => ⟨2 + 1, by omega, rfl, h⟩⟩
   exact ⟨rfl, rfl, rfl, rfl, trivial⟩
  ·conv => whnf
   exact ⟨rfl, rfl⟩
theorem ExK.ety {cs : List Col} {N : Nat} {h : Int} {e : List Nod} (x : ExK cs 1 N h e) (hN : N ≤ 256) : ∃ kf, ETy cs zsV e kf ∧ (kf.1 = 1 ∨ kf.1 = 0) := by
 obtain ⟨k, hk, x⟩ := x
 obtain ⟨hf, _, _, hh⟩ := x.hh
 exact ⟨k, ⟨Nat.le_trans x.len hN, ⟨hf, hh []⟩, x.gd, fun n hn h20 => zsV_has _ ((x.gd n hn).day h20), x.kk []⟩, hk⟩
theorem ifl_cC (x : Bool) (cs : List Col) : Ifl (.list x 3 (cC cs)) := by
 refine .list x 3 _ (fun e he => ?_) fun e he d hd => ?_
 ·obtain ⟨c, _, rfl⟩ := List.mem_map.1 he
  exact ⟨1, .i64, c.kind, rfl⟩
 ·obtain ⟨c, _, rfl⟩ := List.mem_map.1 he
  simp only [colC, List.mem_cons, List.not_mem_nil, or_false] at hd
  rcases hd with rfl | rfl | rfl
  ·exact .str _
  ·exact .int _ _
  ·exact .bool _
theorem ifl_vC (x : Bool) (l : List V) : Ifl (.list x 3 (vC l)) := by
 refine .list x 3 _ (fun e he => ?_) fun e he d hd => ?_
 ·obtain ⟨c, _, rfl⟩ := List.mem_map.1 he
  exact ⟨0, .i64, c.kind, rfl⟩
 ·obtain ⟨c, _, rfl⟩ := List.mem_map.1 he
  simp only [valC, List.mem_cons, List.not_mem_nil, or_false] at hd
  rcases hd with rfl | rfl | rfl
  ·exact .int _ _
  ·exact .int _ _
  ·exact .str _
theorem ifl_eC (x : Bool) (l : List Ent) : Ifl (.list x 2 (eC l)) := by
 refine .list x 2 _ (fun e he => ?_) fun e he d hd => ?_
 ·obtain ⟨c, _, rfl⟩ := List.mem_map.1 he
  exact ⟨1, .i64, c.cnt, rfl⟩
 ·obtain ⟨c, _, rfl⟩ := List.mem_map.1 he
  simp only [entC, List.mem_cons, List.not_mem_nil, or_false] at hd
  rcases hd with rfl | rfl
  ·exact ifl_vC _ _
  ·exact .int _ _
theorem ifl_run (cs : List Col) (l : List Ent) : Ifl (.tuple [.agg (rlA cs l), .bool true]) := by
 refine .tuple _ fun c hc => ?_
 simp only [List.mem_cons, List.not_mem_nil, or_false] at hc
 rcases hc with rfl | rfl
 ·refine .agg _ fun c hc => ?_
  simp only [rlA, List.mem_cons, List.not_mem_nil, or_false] at hc
  rcases hc with rfl | rfl | rfl | rfl
  ·exact .str _
  ·exact ifl_cC _ _
  ·exact .nil
  ·exact ifl_eC _ _
 ·exact .bool _
end Go.AW

namespace Go.AW
variable [Draws]
attribute [local irreducible] ACalls CallE CallS Gp
set_option maxRecDepth 20000
set_option maxHeartbeats 4000000
def newS (s : ByteArray) : ByteArray := bs [110, 101, 119] ++ s
def ordM : List Col := [⟨bs [110, 101, 119, 105, 100], 2, false⟩, ⟨bs [110, 101, 119, 99], 3, false⟩, ⟨bs [110, 101, 119, 97, 116], 4, false⟩, ⟨bs [110, 101, 119, 118], 2, true⟩]
def fromN : List ByteArray := [bs [105, 100], bs [99], bs [97, 116], bs [118]]
def toN : List ByteArray := [bs [110, 101, 119, 105, 100], bs [110, 101, 119, 99], bs [110, 101, 119, 97, 116], bs [110, 101, 119, 118]]
def renS (s : ByteArray) : ByteArray := if 0 ≤ idxOf (eqS s) fromN 0 ∧ idxOf (eqS s) fromN 0 < 4 then toN.getD (idxOf (eqS s) fromN 0).toNat (bs []) else s
def renN (n : Nod) : Nod := if n.op = 1 then { n with name := renS n.name } else n
theorem renN_op (n : Nod) : (renN n).op = n.op := by unfold renN; split <;> rfl
theorem renN_v (n : Nod) : (renN n).v = n.v := by unfold renN; split <;> rfl
theorem renN_ar (n : Nod) : (renN n).ar = n.ar := by unfold renN; split <;> rfl
theorem renN_ne {n : Nod} (h : n.op ≠ 1) : renN n = n := if_neg h
theorem renN_eq {n : Nod} (h : n.op = 1) : renN n = { n with name := renS n.name } := if_pos h
theorem renN_arN (n : Nod) : arN (renN n) = arN n := by unfold arN; rw [renN_op, renN_ar]
theorem ordM_ok : CsOk ordM := ⟨by decide, by decide, by decide⟩
def inN (s : ByteArray) : Prop := s = bs [105, 100] ∨ s = bs [99] ∨ s = bs [97, 116] ∨ s = bs [118]
theorem stk_nodes {α : Type} {f : Nod → List α → Option α} : ∀ (e : List Nod) (s t : List α), stk f e s = some t → ∀ n ∈ e, ∃ l x, f n l = some x
 | [], _, _, _, n, hn => by cases hn
 | m :: e, s, t, h, n, hn => by
  rw [stk] at h
  split at h
  ·cases hx : f m (s.drop (s.length - (arN m).toNat)) with
   | none => rw [hx] at h; cases h
   | some x =>
    rw [hx] at h
    rcases List.mem_cons.1 hn with rfl | hn
    ·exact ⟨_, x, hx⟩
    ·exact stk_nodes e _ t h n hn
  ·cases h
theorem stk_ren {α : Type} {f g : Nod → List α → Option α} : ∀ (e : List Nod) (s : List α), (∀ n ∈ e, ∀ l, g (renN n) l = f n l) → stk g (e.map renN) s = stk f e s
 | [], _, _ => rfl
 | n :: e, s, h => by
  rw [List.map_cons, stk, stk, renN_arN, h n (List.mem_cons_self ..)]
  split
  ·cases f n (s.drop (s.length - (arN n).toNat)) with
   | none => rfl
   | some x => exact stk_ren e _ fun m hm => h m (List.mem_cons_of_mem _ hm)
  ·rfl
theorem eq_bytes {a b : ByteArray} (h : (a.data.toList == b.data.toList) = true) : b = a := by
 have h := eq_of_beq h
 cases a with | mk a => cases b with | mk b => exact congrArg ByteArray.mk (Array.toList_inj.1 h.symm)
theorem col_in {s : ByteArray} (h : 0 ≤ colIdx ordC s) : inN s := by
 unfold colIdx ordC at h
 simp only [idxOf] at h
 split at h
 ·rename_i h1; exact .inl (eq_bytes h1)
 split at h
 ·rename_i h1; exact .inr (.inl (eq_bytes h1))
 split at h
 ·rename_i h1; exact .inr (.inr (.inl (eq_bytes h1)))
 split at h
 ·rename_i h1; exact .inr (.inr (.inr (eq_bytes h1)))
 ·omega
theorem ety_in {zs : List Zon} {e : List Nod} {kf : Kd} (h : ETy ordC zs e kf) : ∀ n ∈ e, n.op = 1 → inN n.name := by
 intro n hn h1
 obtain ⟨l, x, hx⟩ := stk_nodes e _ _ h.kk n hn
 unfold fK at hx
 rw [if_neg (by omega), if_pos h1] at hx
 split at hx
 ·rename_i h2; exact col_in h2
 ·cases hx
theorem renS_in {s : ByteArray} (h : inN s) : (s = bs [105, 100] ∧ renS s = bs [110, 101, 119, 105, 100]) ∨ (s = bs [99] ∧ renS s = bs [110, 101, 119, 99]) ∨ (s = bs [97, 116] ∧ renS s = bs [110, 101, 119, 97, 116]) ∨ (s = bs [118] ∧ renS s = bs [110, 101, 119, 118]) := by
 rcases h with rfl | rfl | rfl | rfl
 ·exact .inl ⟨rfl, by decide⟩
 ·exact .inr (.inl ⟨rfl, by decide⟩)
 ·exact .inr (.inr (.inl ⟨rfl, by decide⟩))
 ·exact .inr (.inr (.inr ⟨rfl, by decide⟩))
theorem fK_ren {n : Nod} (h : n.op = 1 → inN n.name) (l : List Kd) : fK ordM (renN n) l = fK ordC n l := by
 by_cases h1 : n.op = 1
 ·rw [renN_eq h1]
  unfold fK
  simp only [h1]
  rcases renS_in (h h1) with ⟨h2, h3⟩ | ⟨h2, h3⟩ | ⟨h2, h3⟩ | ⟨h2, h3⟩ <;> rw [h3, h2] <;> rfl
 ·rw [renN_ne h1]
  unfold fK
  simp only [h1, if_false]
theorem gd_ren {n : Nod} (g : Gd n) (h : n.op = 1 → inN n.name) : Gd (renN n) := by
 by_cases h1 : n.op = 1
 ·rw [renN_eq h1]
  refine ⟨g.ar, g.op, fun h => ?_, fun h => g.z h, fun h => absurd h1 h, fun _ => ?_, fun h => ?_⟩
  ·rw [h1] at h; cases h
  ·show nameB (renS n.name) = true ∧ resB (renS n.name) = false ∧ (renS n.name).size ≤ 24
   rcases renS_in (h h1) with ⟨_, h3⟩ | ⟨_, h3⟩ | ⟨_, h3⟩ | ⟨_, h3⟩ <;> rw [h3] <;> decide
  ·rw [h1] at h; cases h
 ·rw [renN_ne h1]; exact g
theorem ety_ren {zs : List Zon} {e : List Nod} {kf : Kd} (h : ETy ordC zs e kf) : ETy ordM zs (e.map renN) kf := by
 have hin := ety_in h
 refine ⟨by rw [List.length_map]; exact h.len, ?_, fun n hn => ?_, fun n hn h20 => ?_, ?_⟩
 ·obtain ⟨hf, hh⟩ := h.hh
  refine ⟨hf, ?_⟩
  rw [stk_ren (f := fH) (g := fH) e [] fun n hn l => ?_]
  ·exact hh
  ·unfold fH
   have g1 := h.gd n hn
   have g2 := gd_ren g1 (hin n hn)
   simp only [g1, g2, true_and]
 ·obtain ⟨m, hm, rfl⟩ := List.mem_map.1 hn
  exact gd_ren (h.gd m hm) (hin m hm)
 ·obtain ⟨m, hm, rfl⟩ := List.mem_map.1 hn
  rw [renN_op] at h20
  rw [renN_ne (by omega)]
  exact h.zn m hm h20
 ·rw [stk_ren (f := fK ordC) (g := fK ordM) e [] fun n hn l => fK_ren (hin n hn) l]
  exact h.kk
theorem nmV_ren {s : ByteArray} (h : inN s) (a b c d : V) : nmV (mpR (ordM.zip [a, b, c, d])) (renS s) = nmV (mpR (ordC.zip [a, b, c, d])) s := by
 rcases renS_in h with ⟨h2, h3⟩ | ⟨h2, h3⟩ | ⟨h2, h3⟩ | ⟨h2, h3⟩ <;> rw [h3, h2] <;> rfl
theorem fV_ren {zs : List Zon} {n : Nod} (h : n.op = 1 → inN n.name) (a b c d : V) (l : List V) : fV zs (mpR (ordM.zip [a, b, c, d])) (renN n) l = fV zs (mpR (ordC.zip [a, b, c, d])) n l := by
 unfold fV evN
 by_cases h1 : n.op = 1
 ·rw [renN_op, if_pos h1, if_pos h1, renN_eq h1]
  exact congrArg some (nmV_ren (h h1) a b c d)
 ·rw [renN_ne h1, if_neg h1, if_neg h1]
theorem kp_ren {zs : List Zon} {e : List Nod} {kf : Kd} (h : ETy ordC zs e kf) {l : List Ent} (hl : TbOk ordC l) : kpF ordM zs (e.map renN) l = kpF ordC zs e l := by
 unfold kpF
 refine List.filter_congr fun x hx => ?_
 have hr := (chkRow_ok (hl.2 x hx)).1
 unfold kpB evE
 match hx4 : x.row, hr with
 | [a, b, c, d], _ =>
  rw [stk_ren (f := fV zs (mpR (ordC.zip [a, b, c, d]))) (g := fV zs (mpR (ordM.zip [a, b, c, d]))) e [] fun n hn r => fV_ren (ety_in h n hn) a b c d r]
theorem tb_ren {l : List Ent} (h : TbOk ordC l) : TbOk ordM l := by
 refine ⟨h.1, fun e he => ?_⟩
 have := h.2 e he
 revert this
 unfold chkRow
 intro h1
 split at h1
 ·rename_i h2
  rw [if_pos (show e.row.length = ordM.length from h2)]
  match hx : e.row, h2 with
  | [a, b, c, d], _ => rw [hx] at h1; exact h1
 ·cases h1
theorem map_ren_len (e : List Nod) : (e.map renN).length = e.length := List.length_map ..
end Go.AW

namespace Go.AW
variable [Draws]
set_option maxRecDepth 100000
noncomputable def k8 := kd 8 [] Proofs.Tryz.f8 Proofs.Tryz.func8
noncomputable def k22 := kd 22 [] Proofs.Tryz.f22 Proofs.Tryz.func22
attribute [local irreducible] ACalls CallE CallS Gp
set_option maxRecDepth 20000
set_option maxHeartbeats 4000000
theorem nclone_raw (x : Bool) (e : List Nod) (h0 : e ≠ []) (hl : e.length ≤ 1000) : ACalls pr 22 [.list x 6 (mC nodC e)] [] (fun r H' => r = .sl 0 e.length 0 e.length ∧ H' = [.arr 6 (mC nodC e)]) := by
 refine acalls_of_body k22.has ?_
 conv => whnf
 refine And.intro (fun h => absurd (by simpa [mC] using h) h0) ?_
 conv => whnf
 refine And.intro ⟨by simp [roomB]; omega, by simp [roomB]; omega, .inr rfl⟩ ?_
 conv => whnf
 exact ⟨slEq (by simp) (by simp), rfl⟩
theorem idx_lt (s : ByteArray) : idxOf (eqS s) fromN 0 < 4 := by
 unfold fromN
 simp only [idxOf]
 (repeat' split) <;> omega
theorem idx_ge {s : ByteArray} (h : inN s) : 0 ≤ idxOf (eqS s) fromN 0 := by
 rcases h with rfl | rfl | rfl | rfl <;> decide
theorem to_at {s : ByteArray} (h : inN s) : toN[(idxOf (eqS s) fromN 0).toNat]? = some (renS s) := by
 rcases renS_in h with ⟨rfl, h3⟩ | ⟨rfl, h3⟩ | ⟨rfl, h3⟩ | ⟨rfl, h3⟩ <;> rw [h3] <;> rfl
theorem set_ren {e : List Nod} {k : Nat} {n : Nod} (hk : e[k]? = some n) (m : Nod) : (mC nodC ((e.take k).map renN ++ e.drop k)).set k (nodC m) = mC nodC ((e.take k).map renN ++ m :: e.drop (k + 1)) := by
 have hl := (List.getElem?_eq_some_iff.1 hk).1
 have hd : e.drop k = n :: e.drop (k + 1) := by rw [List.drop_eq_getElem_cons hl]; rw [(List.getElem?_eq_some_iff.1 hk).2]
 have hL : ((e.take k).map renN).length = k := by rw [List.length_map, List.length_take]; omega
 rw [hd, mC, mC, List.map_append, List.map_append, List.map_cons, List.map_cons, List.set_append_right _ _ (by rw [List.length_map, hL]; exact Nat.le_refl _), List.length_map, hL, Nat.sub_self]
 rfl
theorem nxt_ren {e : List Nod} {k : Nat} {n : Nod} (hk : e[k]? = some n) : (e.take (k + 1)).map renN ++ e.drop (k + 1) = (e.take k).map renN ++ renN n :: e.drop (k + 1) := by
 rw [take_succ' hk, List.map_append, List.append_assoc]; rfl
theorem at_ren {e : List Nod} {k : Nat} {n : Nod} (hk : e[k]? = some n) : ((e.take k).map renN ++ e.drop k)[k]? = some n := by
 have hl := (List.getElem?_eq_some_iff.1 hk).1
 have hL : ((e.take k).map renN).length = k := by rw [List.length_map, List.length_take]; omega
 rw [List.getElem?_append_right (by omega), hL, Nat.sub_self, List.getElem?_drop, Nat.add_zero, hk]
theorem rename_raw (x : Bool) (e : List Nod) (h0 : e ≠ []) (hl : e.length ≤ 1000) (hin : ∀ n ∈ e, n.op = 1 → inN n.name) :
  ACalls pr 8 [.list x 6 (mC nodC e), .list false 1 (sC fromN), .list false 1 (sC toN)] [] (fun r H' => r = .sl 0 (e.map renN).length 0 (e.map renN).length ∧ H' = [.arr 6 (mC nodC (e.map renN))]) := by
 refine acalls_of_body k8.has ?_
 conv => whnf
 refine ACalls.mono (nclone_raw x e h0 hl) ?_
 rintro r H1 ⟨rfl, rfl⟩
 have hb : Nat.beq e.length (mC nodC e).length = true := by rw [mC_length]; exact Nat.beq_refl _
 (conv => whnf); refine recT hb ?_
 conv => whnf
 refine ⟨fun m ρ H1 => ∃ k : Nat, k + m = e.length ∧ H1 = [.arr 6 (mC nodC ((e.take k).map renN ++ e.drop k))] ∧ Sv 45 [(1, .list false 1 (sC fromN)), (2, .list false 1 (sC toN)), (7, .sl 0 e.length 0 e.length), (13, .sl 0 e.length 0 e.length), (14, .int .i64 e.length), (15, .int .i64 k)] ρ, e.length, [], ?_, ?_⟩
 ·exact ⟨0, Nat.zero_add _, rfl, Sv.intro rfl ⟨rfl, rfl, rfl, rfl, rfl, rfl, trivial⟩⟩
 rintro m ρ H1 ⟨k, hk, rfl, d, rfl⟩
 have hlen : ((e.take k).map renN ++ e.drop k).length = e.length := by simp; omega
 (conv => whnf); refine recA (fun hlt => ?_) (fun hlt => ?_)
 ·simp at hlt
  obtain ⟨n, hnk, hd, hm⟩ := get_drop (l := e) (k := k) (by omega)
  have hb : Nat.beq e.length (mC nodC ((e.take k).map renN ++ e.drop k)).length = true := by rw [mC_length, hlen]; exact Nat.beq_refl _
  have hat : ((e.take k).map renN ++ e.drop k)[0 + ((k : Nat) : Int).toNat]? = some n := by rw [Nat.zero_add, Int.toNat_natCast]; exact at_ren hnk
  (conv => whnf); refine recT hb ?_
  (conv => whnf); refine And.intro (by omega) ?_
  (conv => whnf); refine recT hb ?_
  (conv => whnf); refine recO (mC_at hat) ?_
  (conv => whnf); refine recA (fun h1 => ?_) (fun h1 => ?_)
  ·simp at h1
   have hE : (e.take k).map renN ++ e.drop k = (e.take (k + 1)).map renN ++ e.drop (k + 1) := by rw [nxt_ren hnk, renN_ne h1, hd]
   conv => whnf
   refine ⟨m - 1, by omega, Gp.cut (H := [.arr 6 (mC nodC ((e.take (k + 1)).map renN ++ e.drop (k + 1)))]) (by rw [hE]; rfl) ⟨lowP (mC_pure nod_pure _), trivial⟩ rfl rfl ?_ fun ρ1 h => ⟨k + 1, by omega, rfl, h⟩⟩
   exact ⟨rfl, rfl, rfl, rfl, rfl, intEq (nx1 (by omega)), trivial⟩
  simp at h1
  obtain ⟨i, hi⟩ : ∃ i, i = idxOf (eqS n.name) fromN 0 := ⟨_, rfl⟩
  have hi4 := idx_lt n.name
  have hi0 := idx_ge (hin n hm h1)
  rw [← hi] at hi4 hi0
  have hto : toN[i.toNat]? = some (renS n.name) := by rw [hi]; exact to_at (hin n hm h1)
  have hr : renN n = { n with name := renS n.name } := renN_eq h1
  (conv => whnf); refine ACalls.use (IndexS_spec false fromN (by decide) n.name _) ?_
  rw [← hi]
  (conv => whnf); refine recT (decide_eq_true hi0) ?_
  (conv => whnf); refine recT (decide_eq_true hi4) ?_
  (conv => whnf); refine And.intro (by first | omega | exact And.intro hi0 hi4) ?_
  (conv => whnf); refine recO (sC_at hto) ?_
  (conv => whnf); refine recT hb ?_
  (conv => whnf); refine And.intro (by omega) ?_
  (conv => whnf); refine recT hb ?_
  (conv => whnf); refine recO (mC_at hat) ?_
  conv => whnf
  have hN : nodC (renN n) = [.int .i64 n.op, .int .i64 n.v.kind, .int .i64 n.v.num, .str n.v.str, .str (renS n.name), .int .i64 n.ar] := by rw [hr]; rfl
  have hE2 : setEs (mC nodC ((e.take k).map renN ++ e.drop k)) (0 + ((k : Nat) : Int).toNat) [.int .i64 n.op, .int .i64 n.v.kind, .int .i64 n.v.num, .str n.v.str, .str (renS n.name), .int .i64 n.ar] = mC nodC ((e.take (k + 1)).map renN ++ e.drop (k + 1)) := by
   rw [setEs_eq, Nat.zero_add, Int.toNat_natCast, ← hN, set_ren hnk, nxt_ren hnk]
  refine ⟨m - 1, by omega, Gp.cut (H := [.arr 6 (mC nodC ((e.take (k + 1)).map renN ++ e.drop (k + 1)))]) (congrArg (fun x => [AObj.arr 6 x, _]) hE2) ⟨lowP (mC_pure nod_pure _), trivial⟩ rfl rfl ?_ fun ρ1 h => ⟨k + 1, by omega, rfl, h⟩⟩
  exact ⟨rfl, rfl, rfl, rfl, rfl, intEq (nx1 (by omega)), trivial⟩
 ·simp at hlt
  obtain rfl : k = e.length := by omega
  conv => whnf
  exact ⟨slEq (by rw [List.length_map]) (by rw [List.length_map]), by rw [List.take_length, List.drop_length, List.append_nil]⟩
theorem ifl_nodC (x : Bool) (e : List Nod) : Ifl (.list x 6 (mC nodC e)) := by
 refine .list x 6 _ (fun c hc => ?_) fun c hc d hd => ?_
 ·obtain ⟨n, _, rfl⟩ := List.mem_map.1 hc
  exact ⟨0, .i64, n.op, rfl⟩
 ·obtain ⟨n, _, rfl⟩ := List.mem_map.1 hc
  simp only [nodC, List.mem_cons, List.not_mem_nil, or_false] at hd
  rcases hd with rfl | rfl | rfl | rfl | rfl | rfl
  ·exact .int _ _
  ·exact .int _ _
  ·exact .int _ _
  ·exact .str _
  ·exact .str _
  ·exact .int _ _
theorem rename_t (x : Bool) (e : List Nod) (h0 : e ≠ []) (hl : e.length ≤ 1000) (hin : ∀ n ∈ e, n.op = 1 → inN n.name) (H : List AObj) :
  ACalls pr 8 [.list x 6 (mC nodC e), .list false 1 (sC fromN), .list false 1 (sC toN)] H (fun r H' => r = .list false 6 (mC nodC (e.map renN)) ∧ H' = H) :=
 ACalls.frz1 rfl (rename_raw x e h0 hl hin) (by rw [mC_length]) (mC_pure nod_pure _)
end Go.AW

namespace Go.AW
variable [Draws]
attribute [local irreducible] ACalls
section
variable {E : Env} {P : Program} {C : Nat → Nat} {τ : Nat → Option Loc} {ρ : List AVal} {H : List AObj} {a : Act} {w : World} {ops : Array Oper} {is : List AIns}
def Opn (P : Program) (is : List AIns) (ps : List (List Nat)) (ρ : List AVal) (H : List AObj) (K : List AVal → List AObj → Prop) : Prop :=
 ∃ I : (Nat → Bool) → List AVal → List AObj → Prop, I (fun _ => false) ρ H ∧
  (∀ (L : Nat → Bool) (ρ : List AVal) (H : List AObj) (j : Nat) (i : AIns), L j = false → (∀ p ∈ ps.getD j [], L p = true) → is[j]? = some i → I L ρ H → ∃ v H', YieldsE P i ρ H v H' ∧ I (fun k => if k = j then true else L k) (putV ρ i.dst v) H') ∧
  (∀ (L : Nat → Bool) (ρ : List AVal) (H : List AObj), (∀ j, j < is.length → L j = true) → I L ρ H → K ρ H)
theorem opn_any {ob : List Nat} {Q : AExit → List AVal → List AObj → Prop} {I : (Nat → Bool) → List AVal → List AObj → Prop} (hcl : compList P ob ops ops.toList = some is) (hpreds : predsOk (predsL ops) 0 = true)
  (hstep : ∀ (L : Nat → Bool) (ρ : List AVal) (H : List AObj) (j : Nat) (i : AIns), L j = false → (∀ p ∈ (predsL ops).getD j [], L p = true) → is[j]? = some i → I L ρ H → ∃ v H', YieldsE P i ρ H v H' ∧ I (fun k => if k = j then true else L k) (putV ρ i.dst v) H')
  (hend : ∀ (L : Nat → Bool) (ρ : List AVal) (H : List AObj), (∀ j, j < is.length → L j = true) → I L ρ H → Q .normal ρ H) :
  ∀ (f : Nat) (listed : Array Bool) (ρ : List AVal) (H : List AObj) (C : Nat → Nat) (τ : Nat → Option Loc) (a : Act) (w : World), listed.size = ops.size → I (fun k => listed.getD k false) ρ H → unl listed is.length = f → SA E C τ ρ H a w → Go.wpAny P .any ops (QR E Q) f listed a w := by
 have hlen : is.length = ops.size := by rw [compList_length _ _ hcl]; simp
 intro f
 induction f with
 | zero =>
  refine fun listed ρ H C τ a w hsz hI hu hs => ⟨?_, ρ, H, C, τ, hend _ ρ H (unl_zero _ hu) hI, hs⟩
  refine List.eq_nil_iff_forall_not_mem.2 fun j hj => ?_
  obtain ⟨hun, o, ho, _⟩ := mem_ready.1 hj
  have hjn : j < is.length := by rw [hlen]; exact (Array.getElem?_eq_some_iff.1 ho).1
  have := unl_zero _ hu j hjn
  rw [getD_both hun] at this
  cases this
 | succ f ih =>
  refine fun listed ρ H C τ a w hsz hI hu hs => ⟨fun h0 => ?_, fun j hj => ?_⟩
  ·obtain ⟨j, hjn, hun, hbel⟩ := unl_pos is.length (by omega : 0 < unl listed is.length)
   have hjo : j < ops.size := by rw [← hlen]; exact hjn
   have : j ∈ Region.ready .any ops listed := by
    refine mem_ready.2 ⟨getD_in (by rw [hsz]; exact hjo) hun, ops[j], Array.getElem?_eq_getElem hjo, fun e he hb => hbel _ ?_⟩
    have := predsOk_spec _ 0 hpreds j _ (predsAt hjo) e.on (List.mem_map.2 ⟨e, List.mem_filter.2 ⟨by simpa using he, hb⟩, rfl⟩)
    omega
   rw [h0] at this
   cases this
  ·obtain ⟨hun, o, ho, hall⟩ := mem_ready.1 hj
   have hjo : j < ops.size := (Array.getElem?_eq_some_iff.1 ho).1
   obtain ⟨i, hi, hcomp⟩ := compList_get ops.toList is hcl j o (by simpa using ho)
   have hjl : j < listed.size := by rw [hsz]; exact hjo
   have hu' : unl (listed.setIfInBounds j true) is.length = f := by
    have := (unl_set (j := j) (listed := listed) hjl (getD_both hun) is.length).1 (by rw [hlen]; exact hjo)
    omega
   have hoe : ops[j] = o := by have := Array.getElem?_eq_getElem hjo; rw [ho] at this; cases this; rfl
   have hset : (fun k => (listed.setIfInBounds j true).getD k false) = (fun k => if k = j then true else listed.getD k false) := by
    funext k
    rw [getD_set hjl]
    by_cases e : k = j
    ·subst e; simp
    ·rw [if_neg e, if_neg (Ne.symm e)]
   obtain ⟨v, H', hy, hI'⟩ := hstep _ ρ H j i (getD_both hun) (fun p hp => by
    rw [List.getD_eq_getElem?_getD, predsAt hjo, hoe] at hp
    obtain ⟨e, he, rfl⟩ := List.mem_map.1 hp
    have := List.mem_filter.1 he
    exact hall e (by simpa using this.1) this.2) hi hI
   rw [← hset] at hI'
   obtain ⟨ao, hao, rfl⟩ := compIns_parts hcomp
   unfold wpOp
   simp only [ho]
   rcases hy with ⟨hg, hy⟩ | ⟨hg, rfl, rfl⟩
   ·rw [wanted_of_guardV hs hg]
    simp only [if_true]
    refine .inl ?_
    unfold Oper.wp
    refine upon_of_opRes (op_sound (K := fun u H1 => u = v ∧ H1 = H') hao hs (hy _ ⟨rfl, rfl⟩)) fun u w' hout => ?_
    obtain ⟨v', C', τ', H1, ⟨rfl, rfl⟩, hrel, hsa⟩ := hout
    obtain ⟨ρ2, hk2, hsa2⟩ := hsa.putO hrel o.dst (k := fun x => x = putV ρ o.dst v') (by rw [putK_eq])
    subst hk2
    exact ih _ _ _ C' τ' _ w' (by simp [hsz]) hI' hu' hsa2
   ·rw [wanted_of_guardV hs hg]
    simp only [Bool.false_eq_true, if_false]
    obtain ⟨ρ2, hk2, hsa2⟩ := hs.putO rel_skip o.dst (k := fun x => x = putV ρ o.dst (.tuple [])) (by rw [putK_eq])
    subst hk2
    exact ih _ _ _ C τ _ w (by simp [hsz]) hI' hu' hsa2
theorem opn_sound {ob : List Nat} {id : Nat} {Q : AExit → List AVal → List AObj → Prop} (hcl : compList P ob ops ops.toList = some is) (hm : P.follows .mixedOrders = true) (hpreds : predsOk (predsL ops) 0 = true)
  (h : Opn P is (predsL ops) ρ H (Q .normal)) (hs : SA E C τ ρ H a w) : (Code.region id ops true).wp P (QR E Q) a w := by
 obtain ⟨I, h0, hstep, hend⟩ := h
 obtain ⟨st, s1⟩ := hs.st.same (w' := { w with drawn := w.drawn + 1 }) rfl rfl rfl rfl
 have hs' := hs.go st s1
 refine wp_region_any hm ?_
 have hlen : is.length = ops.size := by rw [compList_length _ _ hcl]; simp
 have := opn_any (E := E) (Q := Q) hcl hpreds hstep hend is.length (Array.replicate ops.size false) ρ H C τ a _ (by simp) (by
  have : (fun k => (Array.replicate ops.size false).getD k false) = fun _ => false := by funext k; exact getD_replicate_false _ _
  rw [this]; exact h0) (unl_replicate _ _) hs'
 rw [hlen] at this
 exact this
theorem acalls_of_wp {f : FuncId} {fn : Go.Func} {c : Go.Code} {m : Nat} {rs : List ARes} {args : List AVal} {Q : AVal → List AObj → Prop} (hfn : P.funcs[f]? = some fn) (hbody : fn.body = some c) (hname : (fn.name == "runtime.NumGoroutine") = false) (hnt : fn.ntmps = m) (hres : compRes P fn.results.toList = some rs)
  (h : ∀ (E : Env) (C : Nat → Nat) (τ : Nat → Option Loc) (a : Act) (w : World), E.H0 = H → SA E C τ (args ++ List.replicate (m - args.length) (.tuple [])) H a w → c.wp P (QR E fun e ρ' H' => match e with
   | .exit _ => False
   | _ => resK ρ' H' rs fun vs => tupK vs fun v => Q v H') a w) : ACalls P f args H Q := by
 unfold ACalls
 intro C τ w vs hw hl hr
 have hcall : (callFunc f vs).run P w = .ok (.enter f vs) w := by
  simp only [callFunc, Sem.run_bind, run_program, Result.andThen_ok, hfn, hname, Bool.false_eq_true, if_false, hbody, Option.isNone_some, Sem.run_pure]
 unfold CallsX
 rw [hcall]
 let E : Env := ⟨w, PrCall τ H w, C, τ, H, fun b hb hn => Classical.byContradiction fun ho => hn ⟨hb, ho⟩⟩
 have hsa : SA E C τ (args ++ List.replicate (m - args.length) (.tuple [])) H { tmps := vs ++ Array.replicate (fn.ntmps - vs.size) undef, defers := [] } w := by
  refine ⟨St.start hw, Step.refl, fun t => ?_, by simp [hl, hnt], rfl⟩
  rw [getT_append_replicate]
  simp only [Array.getD_eq_getD_getElem?]
  by_cases ht : t < args.length
  ·rw [dif_pos ht, Array.getElem?_append_left (by omega), Array.getElem?_eq_getElem (by omega)]
   exact hr t _ _ (List.getElem?_eq_getElem ht) (Array.getElem?_eq_getElem (by omega))
  ·rw [dif_neg ht, Array.getElem?_append_right (by omega)]
   split
   ·rename_i h2
    rw [Array.getElem?_replicate, if_pos (by omega)]
    exact rel_skip
   ·exact .undef _
 refine calls_of_wp hfn hbody (wp_mono (h E C τ _ w rfl hsa) fun e a' w' hq => ?_)
 have fin : ∀ (ρ' : List AVal) (H' : List AObj) (C' : Nat → Nat) (τ' : Nat → Option Loc), (resK ρ' H' rs fun vs => tupK vs fun v => Q v H') → SA E C' τ' ρ' H' a' w' →
   a'.defers = [] ∧ ∃ v, (results fn a'.tmps).run P w' = .ok v w' ∧ ∃ v2 r C' τ' H', Ending.returned v = .returned v2 ∧ Q r H' ∧ Rel C' w' τ' H' r v2 ∧ St w (PrCall τ H w) C' τ' H' w' ∧ Step C τ H w C' τ' H' w' := by
  intro ρ' H' C' τ' hk hs
  refine ⟨hs.defers, ?_⟩
  obtain ⟨xs, us, h1, h2, h3, h4⟩ := run_results hs fn.results.toList rs _ hres hk
  have hm : (fn.results.mapM (resOne a'.tmps)).run P w' = .ok us.toArray w' := by
   rw [Array.mapM_eq_mapM_toList, Sem.run_map, h2]; rfl
  have hrun : (results fn a'.tmps).run P w' = .ok (if h : us.toArray.size = 1 then us.toArray[0] else .tuple us.toArray) w' := by
   rw [results_eq, Sem.run_bind, hm]
   rfl
  refine ⟨_, hrun, ?_⟩
  unfold tupK at h1
  split at h1
  ·rename_i v
   have hu : us.length = 1 := by rw [← h3]; rfl
   obtain ⟨u, rfl⟩ := List.length_eq_one_iff.1 hu
   exact ⟨_, v, C', τ', H', rfl, h1, h4 0 v u rfl rfl, hs.st, hs.step⟩
  ·rename_i hne
   have hu : ¬ us.toArray.size = 1 := by
    intro hu
    simp at hu
    rw [← h3] at hu
    obtain ⟨v, hv⟩ := List.length_eq_one_iff.1 hu
    exact hne v hv
   refine ⟨_, _, C', τ', H', rfl, h1, ?_, hs.st, hs.step⟩
   rw [dif_neg hu]
   exact .tuple _ _ (by simpa using h3) fun i c v hc hv => h4 i c v hc (by simpa using hv)
 cases e with
 | normal => obtain ⟨ρ', H', C', τ', hk, hs⟩ := hq; exact fin ρ' H' C' τ' hk hs
 | ret => obtain ⟨ρ', H', C', τ', hk, hs⟩ := hq; exact fin ρ' H' C' τ' hk hs
 | exit id => obtain ⟨_, _, _, _, hk, _⟩ := hq; exact hk.elim
 | _ => exact hq.elim
theorem acalls_opn {f : FuncId} {fn : Go.Func} {x y : Go.Code} {ax ay : ACode} {i2 m : Nat} {ob : List Nat} {rs : List ARes} {args : List AVal} {Q : AVal → List AObj → Prop} (hfn : P.funcs[f]? = some fn) (hbody : fn.body = some (.seq x (.seq y (.seq (.region i2 ops true) .ret)))) (hname : (fn.name == "runtime.NumGoroutine") = false) (hnt : fn.ntmps = m) (hres : compRes P fn.results.toList = some rs)
  (hx : comp P ob x = some ax) (hy : comp P ob y = some ay) (hcl : compList P ob ops ops.toList = some is) (hm : P.follows .mixedOrders = true) (hpreds : predsOk (predsL ops) 0 = true)
  (h : awp P (H.map AObj.olen) (.seq ax ay) (fun e ρ' H' => match e with
   | .normal => Opn P is (predsL ops) ρ' H' (fun ρ2 H2 => resK ρ2 H2 rs fun vs => tupK vs fun v => Q v H2)
   | _ => False) (args ++ List.replicate (m - args.length) (.tuple [])) H) : ACalls P f args H Q := by
 refine acalls_of_wp hfn hbody hname hnt hres fun E C τ a w hE hs => ?_
 rw [awp_seq] at h
 subst hE
 refine wp_seq (wp_mono (code_sound (E := E) (fun id ops is Q C τ ρ H a w h1 h2 h3 h4 => draw_sound h1 h2 h3 h4) x ax _ C τ _ _ _ w hx h hs) fun e a' w' hq => ?_)
 cases e with
 | normal =>
  obtain ⟨ρ', H', C', τ', hk, hs'⟩ := hq
  refine wp_seq (wp_mono (code_sound (E := E) (fun id ops is Q C τ ρ H a w h1 h2 h3 h4 => draw_sound h1 h2 h3 h4) y ay _ C' τ' _ H' _ w' hy hk hs') fun e a2 w2 hq => ?_)
  cases e with
  | normal =>
   obtain ⟨ρ2, H2, C2, τ2, hk2, hs2⟩ := hq
   refine wp_seq (wp_mono (opn_sound (E := E) (Q := fun e ρ' H' => match e with
    | .normal => resK ρ' H' rs fun vs => tupK vs fun v => Q v H'
    | _ => False) hcl hm hpreds hk2 hs2) fun e a3 w3 hq => ?_)
   cases e with
   | normal => exact wp_ret hq
   | exit id => obtain ⟨_, _, _, _, hk, _⟩ := hq; exact hk.elim
   | ret => obtain ⟨_, _, _, _, hk, _⟩ := hq; exact hk.elim
   | _ => exact hq.elim
  | exit id => obtain ⟨_, _, _, _, hk, _⟩ := hq; exact hk.elim
  | ret => obtain ⟨_, _, _, _, hk, _⟩ := hq; exact hk.elim
  | _ => exact hq.elim
 | exit id => obtain ⟨_, _, _, _, hk, _⟩ := hq; exact hk.elim
 | ret => obtain ⟨_, _, _, _, hk, _⟩ := hq; exact hk.elim
 | _ => exact hq.elim
end
end Go.AW

namespace Go.AW
variable [Draws]
attribute [local irreducible] ACalls
set_option maxRecDepth 100000
structure KO (i : Nat) where
 a1 : ACode
 a2 : ACode
 is : List AIns
 ps : List (List Nat)
 m : Nat
 rs : List ARes
 ok : ∀ (args : List AVal) (H : List AObj) (Q : AVal → List AObj → Prop), awp pr (H.map AObj.olen) (.seq a1 a2) (fun e ρ' H' => match e with
   | .normal => Opn pr is ps ρ' H' (fun ρ2 H2 => resK ρ2 H2 rs fun vs => tupK vs fun v => Q v H2)
   | _ => False) (args ++ List.replicate (m - args.length) (.tuple [])) H → ACalls pr i args H Q
theorem og {α : Type} {x : Option α} {z : α} (h : x.isSome = true) : x = some (x.getD z) := by
 cases x with
 | none => cases h
 | some y => rfl
noncomputable def ko (i : Nat) (ob : List Nat) (f : Go.Func) (hf : Proofs.Tryz.prog.funcs[i]? = some f) {x y : Go.Code} {i2 : Nat} {ops : Array Oper} (hb : f.body = some (.seq x (.seq y (.seq (.region i2 ops true) .ret))) := by rfl)
  {d1 d2 : Option ACode} {d3 : Option (List AIns)} {ps : List (List Nat)} {r : Option (List ARes)} {m : Nat}
  (h1 : comp Proofs.Tryz.prog ob x = d1 := by with_unfolding_all (conv => lhs; reduce; dsimp only [↓inL,Int.reduceNegSucc]))
  (h2 : comp Proofs.Tryz.prog ob y = d2 := by with_unfolding_all (conv => lhs; reduce; dsimp only [↓inL,Int.reduceNegSucc]))
  (h3 : compList Proofs.Tryz.prog ob ops ops.toList = d3 := by with_unfolding_all (conv => lhs; reduce; dsimp only [↓inL,Int.reduceNegSucc]))
  (h4 : predsL ops = ps := by with_unfolding_all (conv => lhs; reduce))
  (hr : compRes Proofs.Tryz.prog f.results.toList = r := by with_unfolding_all (conv => lhs; reduce)) (hm : f.ntmps = m := by with_unfolding_all (conv => lhs; reduce; dsimp only [])) (hn : (f.name == "runtime.NumGoroutine") = false := by rfl)
  (g1 : d1.isSome = true := by rfl) (g2 : d2.isSome = true := by rfl) (g3 : d3.isSome = true := by rfl) (g4 : predsOk ps 0 = true := by rfl) (ht : r.isSome = true := by rfl) (hf2 : Proofs.Tryz.prog.follows .mixedOrders = true := by rfl) : KO i :=
 ⟨d1.getD .skip, d2.getD .skip, d3.getD [], ps, m, r.getD [], by
  rw [prE0]
  intro args H Q h
  exact acalls_opn hf hb hn hm (hr.trans (og ht)) (h1.trans (og g1)) (h2.trans (og g2)) (h3.trans (og g3)) hf2 (by rw [h4]; exact g4) (by rw [h4]; exact h)⟩
noncomputable def k89 := ko 89 [15, 17] Proofs.Tryz.f89 Proofs.Tryz.func89
end Go.AW

namespace Go.AW
variable [Draws]
attribute [local irreducible] ACalls
set_option maxRecDepth 100000
set_option maxHeartbeats 4000000
def Sk (es : List (AVal × AVal)) : Prop := ∀ kv ∈ es, ∃ b, kv.1 = .str b
theorem Sk.put {es : List (AVal × AVal)} (h : Sk es) (k : ByteArray) (v : AVal) : Sk (mput 2 (.str k) v es) := by
 induction es with
 | nil => intro kv hk; simp [mput] at hk; subst hk; exact ⟨_, rfl⟩
 | cons kv r ih =>
  obtain ⟨b, hb⟩ := h kv (List.mem_cons_self ..)
  intro x hx
  rw [mput] at hx
  split at hx
  ·rcases List.mem_cons.1 hx with rfl | hx
   ·exact ⟨b, hb⟩
   ·exact h x (List.mem_cons_of_mem _ hx)
  ·rcases List.mem_cons.1 hx with rfl | hx
   ·exact ⟨b, hb⟩
   ·exact ih (fun y hy => h y (List.mem_cons_of_mem _ hy)) x hx
theorem Sk.ok {es : List (AVal × AVal)} (h : Sk es) (k : ByteArray) : keyOk 2 (.str k) es = true := by
 unfold keyOk
 rw [Bool.and_eq_true]
 refine ⟨rfl, List.all_eq_true.2 fun kv hk => ?_⟩
 obtain ⟨b, hb⟩ := h kv hk
 rw [hb]; rfl
theorem Sk.find {es : List (AVal × AVal)} (h : Sk es) (k : ByteArray) (v : AVal) : mfind 2 (.str k) (mput 2 (.str k) v es) = some v := by
 induction es with
 | nil => simp [mput, mfind, eqCell]
 | cons kv r ih =>
  obtain ⟨b, hb⟩ := h kv (List.mem_cons_self ..)
  have := ih fun y hy => h y (List.mem_cons_of_mem _ hy)
  cases e : (k.data.toList == b.data.toList) <;> simp [mput, mfind, hb, eqCell, e, this]
theorem Sk.other {es : List (AVal × AVal)} (h : Sk es) (k j : ByteArray) (v : AVal) (hkj : (k.data.toList == j.data.toList) = false) : mfind 2 (.str k) (mput 2 (.str j) v es) = mfind 2 (.str k) es := by
 induction es with
 | nil => simp [mput, mfind, eqCell, hkj]
 | cons kv r ih =>
  obtain ⟨b, hb⟩ := h kv (List.mem_cons_self ..)
  have := ih fun y hy => h y (List.mem_cons_of_mem _ hy)
  cases e : (j.data.toList == b.data.toList) with
  | false => cases e2 : (k.data.toList == b.data.toList) <;> simp [mput, mfind, hb, eqCell, e, e2, this]
  | true =>
   have hb2 : (k.data.toList == b.data.toList) = false := by rw [← eq_of_beq e]; exact hkj
   simp [mput, mfind, hb, eqCell, e, hb2]
theorem ms_yield {ρ : List AVal} {H : List AObj} {m : Nat} {k : ByteArray} {es : List (AVal × AVal)} (h5 : getT ρ 5 = .mp m) (hm : H[m]? = some (.map es)) (hk : Sk es) (x : AOpd) :
  YieldsO pr (.mapSet 2 (.t 5) (.c (.str k)) x) ρ H (.tuple []) (H.set m (.map (mput 2 (.str k) (ev ρ x) es))) := by
 intro K hK
 show evK ρ (.t 5) fun v => evK ρ (.c _) fun u => evK ρ x fun y => _
 simp only [evK_eq]
 rw [show ev ρ (.t 5) = .mp m from h5]
 show objK H m _
 refine idxA_intro hm ?_
 show chkA _ _
 refine (chkA_iff _ _).2 ⟨hk.ok k, ?_⟩
 rw [setO_eq]
 exact hK
def whB : ByteArray := bs [119, 104, 101, 114, 101]
def stF : AVal := .fn 129 [.ptr 1 1 0 0]
def stV : AVal := .fn 131 [.ptr 1 1 0 0]
def b2n (b : Bool) : Nat := if b then 1 else 0
structure InvS (o : AObj) (p : AVal) (L : Nat → Bool) (ρ : List AVal) (H : List AObj) : Prop where
 len : ρ.length = 23
 s1 : getT ρ 1 = .ptr 1 1 0 0
 s3 : getT ρ 3 = stF
 s6 : L 1 = true → getT ρ 6 = stV
 s14 : L 16 = true → getT ρ 14 = stF
 s16 : L 19 = true → getT ρ 16 = stF
 s22 : L 29 = true → getT ρ 22 = getT ρ 5
 s2 : L 30 = true → getT ρ 2 = getT ρ 5
 c0 : L 2 = true ∨ L 29 = true ∨ L 30 = true → L 0 = true
 hp : ∃ G, H = o :: .arr 1 [[p]] :: G ∧ G.length = b2n (L 0) + b2n (L 17) + b2n (L 20) ∧
  (L 0 = true → ∃ m es, getT ρ 5 = .mp (m + 2) ∧ G[m]? = some (.map es) ∧ Sk es ∧ (L 2 = true → mfind 2 (.str whB) es = some stV))
theorem InvS.pure {o : AObj} {p : AVal} {L : Nat → Bool} {ρ : List AVal} {H : List AObj} (h : InvS o p L ρ H) (j d : Nat) (v : AVal) (hd : ¬ (d = 1 ∨ d = 3 ∨ d = 5 ∨ d = 6 ∨ d = 14 ∨ d = 16 ∨ d = 22 ∨ d = 2))
  (hj : ¬ (j = 0 ∨ j = 1 ∨ j = 2 ∨ j = 16 ∨ j = 17 ∨ j = 19 ∨ j = 20 ∨ j = 29 ∨ j = 30)) : InvS o p (fun k => if k = j then true else L k) (putV ρ (some d) v) H := by
 have g : ∀ t, d ≠ t → getT (putV ρ (some d) v) t = getT ρ t := fun t ht => getT_putV (by simpa using ht)
 have l : ∀ k, j ≠ k → (if k = j then true else L k) = L k := fun k hk => if_neg (Ne.symm hk)
 obtain ⟨G, h1, h2, h3⟩ := h.hp
 refine ⟨by rw [putV_length]; exact h.len, ?_, ?_, ?_, ?_, ?_, ?_, ?_, ?_, G, h1, ?_, ?_⟩
 ·rw [g _ (by omega)]; exact h.s1
 ·rw [g _ (by omega)]; exact h.s3
 ·rw [g _ (by omega), l _ (by omega)]; exact h.s6
 ·rw [g _ (by omega), l _ (by omega)]; exact h.s14
 ·rw [g _ (by omega), l _ (by omega)]; exact h.s16
 ·rw [g _ (by omega), g _ (by omega), l _ (by omega)]; exact h.s22
 ·rw [g _ (by omega), g _ (by omega), l _ (by omega)]; exact h.s2
 ·rw [l _ (by omega), l _ (by omega), l _ (by omega), l _ (by omega)]; exact h.c0
 ·rw [l _ (by omega), l _ (by omega), l _ (by omega)]; exact h2
 ·rw [g _ (by omega), l _ (by omega), l _ (by omega)]; exact h3
theorem InvS.put {o : AObj} {p : AVal} {L : Nat → Bool} {ρ : List AVal} {H : List AObj} (h : InvS o p L ρ H) (j : Nat) (h0 : L 0 = true) (k : ByteArray) (x : AOpd) (hk : (whB.data.toList == k.data.toList) = false)
  (hj : ¬ (j = 0 ∨ j = 1 ∨ j = 2 ∨ j = 16 ∨ j = 17 ∨ j = 19 ∨ j = 20 ∨ j = 29 ∨ j = 30)) : ∃ v H', YieldsE pr ⟨none, .mapSet 2 (.t 5) (.c (.str k)) x, none⟩ ρ H v H' ∧ InvS o p (fun k => if k = j then true else L k) (putV ρ none v) H' := by
 have l : ∀ k, j ≠ k → (if k = j then true else L k) = L k := fun k hk => if_neg (Ne.symm hk)
 obtain ⟨G, h1, h2, h3⟩ := h.hp
 obtain ⟨m, es, g1, g2, g3, g4⟩ := h3 h0
 refine ⟨_, _, .inl ⟨rfl, ms_yield g1 (by rw [h1]; exact g2) g3 x⟩, h.len, h.s1, h.s3, ?_, ?_, ?_, ?_, ?_, ?_, G.set m (.map (mput 2 (.str k) (ev ρ x) es)), by rw [h1]; rfl, ?_, ?_⟩
 ·rw [l _ (by omega)]; exact h.s6
 ·rw [l _ (by omega)]; exact h.s14
 ·rw [l _ (by omega)]; exact h.s16
 ·rw [l _ (by omega)]; exact h.s22
 ·rw [l _ (by omega)]; exact h.s2
 ·rw [l _ (by omega), l _ (by omega), l _ (by omega), l _ (by omega)]; exact h.c0
 ·rw [l _ (by omega), l _ (by omega), l _ (by omega), List.length_set]; exact h2
 ·intro _
  refine ⟨m, _, g1, List.getElem?_set_self (List.getElem?_eq_some_iff.1 g2).1, g3.put _ _, ?_⟩
  rw [l _ (by omega), g3.other _ _ _ hk]
  exact g4
theorem getT_put {ρ : List AVal} {d : Nat} {v : AVal} (h : d < ρ.length) : getT (putV ρ (some d) v) d = v := by
 show getT (setT ρ d v) d = v
 rw [getT_setT, if_pos ⟨rfl, h⟩]
theorem snocI {H : List AObj} {o : AObj} {n : Nat} {k : Nat → List AObj → Prop} (h : k (n + H.length) (H ++ [o])) : snocK H o n k := by rw [snocK_eq]; exact h
theorem fq127_t (n : Int) (H : List AObj) : ACalls pr 129 [.int .i64 n, .ptr 1 1 0 0] H (fun r H' => r = .fn 130 [.ptr H.length 1 0 0, .ptr 1 1 0 0] ∧ H' = H ++ [.arr 1 [[.int .i64 n]]]) := by
 refine acalls_of_body k129.has ?_
 conv => whnf
 refine snocI ?_
 conv => whnf
 rw [Nat.zero_add]
 exact ⟨rfl, rfl⟩
end Go.AW

namespace Go.AW
variable [Draws]
attribute [local irreducible] ACalls
set_option maxRecDepth 100000
set_option maxHeartbeats 4000000
theorem mE {a : Nat} {l : List Nat} (h : List.elem a l = true) : a ∈ l := List.mem_of_elem_eq_true h
theorem mf_yield {f : FuncId} {caps : List AOpd} {ρ : List AVal} {H : List AObj} : YieldsO pr (.makeFunc f caps) ρ H (.fn f (caps.map (ev ρ))) H := fun K hK => by
 show evsK ρ caps _
 rw [evsK_eq]; exact hK
theorem mfb_yield {f : FuncId} {caps : List AOpd} {ρ : List AVal} {H : List AObj} : YieldsO pr (.makeFuncB f caps) ρ H (.fnb f (caps.map (ev ρ))) H := fun K hK => by
 show evsK ρ caps _
 rw [evsK_eq]; exact hK
theorem mv_yield {x : AOpd} {ρ : List AVal} {H : List AObj} : YieldsO pr (.move x) ρ H (ev ρ x) H := fun K hK => by
 show evK ρ x _
 rw [evK_eq]; exact hK
theorem ld_yield {ρ : List AVal} {o : AObj} {G : List AObj} (h1 : getT ρ 1 = .ptr 1 1 0 0) : YieldsO pr (.load false 1 (.t 1)) ρ (o :: .arr 1 [[.ptr 0 1 0 0]] :: G) (.ptr 0 1 0 0) (o :: .arr 1 [[.ptr 0 1 0 0]] :: G) := fun K hK => by
 show evK ρ (.t 1) _
 rw [evK_eq, show ev ρ (.t 1) = .ptr 1 1 0 0 from h1]
 exact hK
theorem mk_yield {ρ : List AVal} {H : List AObj} : YieldsO pr .mkMap ρ H (.mp H.length) (H ++ [.map []]) := fun K hK => by
 refine snocI (H := H) (o := .map []) (n := 0) (k := fun id H' => K (.mp id) H') ?_
 rw [Nat.zero_add]; exact hK
theorem cv_yield {n : Int} {s : Nat} {ρ : List AVal} {H : List AObj} (hs : getT ρ s = stF) : YieldsO pr (.callvE (.t s) [.c (.int .i64 n)]) ρ H (.fn 130 [.ptr H.length 1 0 0, .ptr 1 1 0 0]) (H ++ [.arr 1 [[.int .i64 n]]]) := fun K hK => by
 show evK ρ (.t s) _
 rw [evK_eq, show ev ρ (.t s) = stF from hs]
 show evsK ρ _ _
 rw [evsK_eq]
 refine (fq127_t n H).mono ?_
 rintro r H' ⟨rfl, rfl⟩
 exact hK
theorem InvS.snoc {o : AObj} {p : AVal} {L : Nat → Bool} {ρ : List AVal} {H : List AObj} (h : InvS o p L ρ H) (j d : Nat) (v : AVal) (x : AObj) (hj : j = 17 ∧ d = 15 ∨ j = 20 ∧ d = 17) (hL : L j = false) :
  InvS o p (fun k => if k = j then true else L k) (putV ρ (some d) v) (H ++ [x]) := by
 have g : ∀ t, d ≠ t → getT (putV ρ (some d) v) t = getT ρ t := fun t ht => getT_putV (by simpa using ht)
 have l : ∀ k, j ≠ k → (if k = j then true else L k) = L k := fun k hk => if_neg (Ne.symm hk)
 obtain ⟨G, h1, h2, h3⟩ := h.hp
 refine ⟨by rw [putV_length]; exact h.len, ?_, ?_, ?_, ?_, ?_, ?_, ?_, ?_, G ++ [x], by rw [h1]; rfl, ?_, ?_⟩
 ·rw [g _ (by omega)]; exact h.s1
 ·rw [g _ (by omega)]; exact h.s3
 ·rw [g _ (by omega), l _ (by omega)]; exact h.s6
 ·rw [g _ (by omega), l _ (by omega)]; exact h.s14
 ·rw [g _ (by omega), l _ (by omega)]; exact h.s16
 ·rw [g _ (by omega), g _ (by omega), l _ (by omega)]; exact h.s22
 ·rw [g _ (by omega), g _ (by omega), l _ (by omega)]; exact h.s2
 ·rw [l _ (by omega), l _ (by omega), l _ (by omega), l _ (by omega)]; exact h.c0
 ·rcases hj with ⟨rfl, rfl⟩ | ⟨rfl, rfl⟩
  ·rw [hL] at h2; rw [List.length_append, h2]; simp [b2n]; omega
  ·rw [hL] at h2; rw [List.length_append, h2]; simp [b2n]
 ·rw [g _ (by omega), l _ (by omega), l _ (by omega)]
  intro h0
  obtain ⟨m, es, g1, g2, g3⟩ := h3 h0
  exact ⟨m, es, g1, by rw [List.getElem?_append_left (List.getElem?_eq_some_iff.1 g2).1]; exact g2, g3⟩
theorem steps_t (o : AObj) : ACalls pr 89 [.ptr 0 1 0 0] [o] (fun r H' => ∃ G m es, H' = o :: .arr 1 [[.ptr 0 1 0 0]] :: G ∧ G.length = 3 ∧ G[m]? = some (.map es) ∧ r = .mp (m + 2) ∧ Sk es ∧ mfind 2 (.str whB) es = some stV) := by
 refine k89.ok _ _ _ ?_
 conv => whnf
 refine ⟨InvS o (.ptr 0 1 0 0), ?_, ?_, ?_⟩
 ·exact ⟨rfl, rfl, rfl, fun h => (by cases h), fun h => (by cases h), fun h => (by cases h), fun h => (by cases h), fun h => (by cases h), fun h => (by simp at h), [], rfl, rfl, fun h => (by cases h)⟩
 ·intro L ρ H j i hL hq hi hI
  have gp : ∀ (d : Nat) (v : AVal) t, d ≠ t → getT (putV ρ (some d) v) t = getT ρ t := fun d v t ht => getT_putV (by simpa using ht)
  obtain ⟨G, h1, h2, h3⟩ := hI.hp
  rcases j with _ | _ | _ | _ | _ | _ | _ | _ | _ | _ | _ | _ | _ | _ | _ | _ | _ | _ | _ | _ | _ | _ | _ | _ | _ | _ | _ | _ | _ | _ | _ | j
  all_goals ((conv at hi => lhs; whnf); cases hi)
  ·have hG : ∃ G1, G1 = G ++ [.map []] := ⟨_, rfl⟩
   refine ⟨_, _, .inl ⟨rfl, mk_yield⟩, by rw [putV_length]; exact hI.len, ?_, ?_, ?_, ?_, ?_, ?_, ?_, ?_, G ++ [.map []], by rw [h1]; rfl, ?_, ?_⟩
   ·rw [gp _ _ _ (by decide)]; exact hI.s1
   ·rw [gp _ _ _ (by decide)]; exact hI.s3
   ·rw [gp _ _ _ (by decide)]; exact hI.s6
   ·rw [gp _ _ _ (by decide)]; exact hI.s14
   ·rw [gp _ _ _ (by decide)]; exact hI.s16
   ·intro h; have := hI.c0 (.inr (.inl h)); rw [hL] at this; cases this
   ·intro h; have := hI.c0 (.inr (.inr h)); rw [hL] at this; cases this
   ·intro _; rfl
   ·rw [hL] at h2; rw [List.length_append, h2]; simp [b2n]; omega
   ·intro _
    refine ⟨G.length, [], ?_, by simp, fun kv hk => (by cases hk), ?_⟩
    ·rw [getT_put (by rw [hI.len]; decide), h1]; rfl
    ·intro h; have := hI.c0 (.inl h); rw [hL] at this; cases this
  ·refine ⟨_, _, .inl ⟨rfl, mf_yield⟩, by rw [putV_length]; exact hI.len, ?_, ?_, ?_, ?_, ?_, ?_, ?_, ?_, G, h1, h2, ?_⟩
   ·rw [gp _ _ _ (by decide)]; exact hI.s1
   ·rw [gp _ _ _ (by decide)]; exact hI.s3
   ·intro _; rw [getT_put (by rw [hI.len]; decide)]; exact congrArg (fun x => AVal.fn 131 [x]) hI.s1
   ·rw [gp _ _ _ (by decide)]; exact hI.s14
   ·rw [gp _ _ _ (by decide)]; exact hI.s16
   ·rw [gp _ _ _ (by decide), gp _ _ _ (by decide)]; exact hI.s22
   ·rw [gp _ _ _ (by decide), gp _ _ _ (by decide)]; exact hI.s2
   ·exact hI.c0
   ·rw [gp _ _ _ (by decide)]; exact h3
  ·obtain ⟨m, es, g1, g2, g3, g4⟩ := h3 (hq 0 (mE rfl))
   refine ⟨_, _, .inl ⟨rfl, ms_yield g1 (by rw [h1]; exact g2) g3 _⟩, hI.len, hI.s1, hI.s3, hI.s6, hI.s14, hI.s16, hI.s22, hI.s2, fun _ => hq 0 (mE rfl), G.set m (.map (mput 2 (.str whB) (ev ρ (.t 6)) es)), by rw [h1]; rfl, ?_, ?_⟩
   ·rw [List.length_set]; exact h2
   ·intro _
    refine ⟨m, _, g1, List.getElem?_set_self (List.getElem?_eq_some_iff.1 g2).1, g3.put _ _, fun _ => ?_⟩
    rw [g3.find]
    exact congrArg some (hI.s6 (hq 1 (mE rfl)))
  ·subst h1
   exact ⟨_, _, .inl ⟨rfl, ld_yield hI.s1⟩, hI.pure 3 7 _ (by decide) (by decide)⟩
  ·exact ⟨_, _, .inl ⟨rfl, mfb_yield⟩, hI.pure 4 8 _ (by decide) (by decide)⟩
  ·exact hI.put 5 (hq 0 (mE rfl)) _ _ (by decide) (by decide)
  ·exact ⟨_, _, .inl ⟨rfl, mf_yield⟩, hI.pure 6 9 _ (by decide) (by decide)⟩
  ·exact hI.put 7 (hq 0 (mE rfl)) _ _ (by decide) (by decide)
  ·exact ⟨_, _, .inl ⟨rfl, mf_yield⟩, hI.pure 8 10 _ (by decide) (by decide)⟩
  ·exact hI.put 9 (hq 0 (mE rfl)) _ _ (by decide) (by decide)
  ·exact ⟨_, _, .inl ⟨rfl, mf_yield⟩, hI.pure 10 11 _ (by decide) (by decide)⟩
  ·exact hI.put 11 (hq 0 (mE rfl)) _ _ (by decide) (by decide)
  ·exact ⟨_, _, .inl ⟨rfl, mf_yield⟩, hI.pure 12 12 _ (by decide) (by decide)⟩
  ·exact hI.put 13 (hq 0 (mE rfl)) _ _ (by decide) (by decide)
  ·exact ⟨_, _, .inl ⟨rfl, mf_yield⟩, hI.pure 14 13 _ (by decide) (by decide)⟩
  ·exact hI.put 15 (hq 0 (mE rfl)) _ _ (by decide) (by decide)
  ·refine ⟨_, _, .inl ⟨rfl, mv_yield⟩, by rw [putV_length]; exact hI.len, ?_, ?_, ?_, ?_, ?_, ?_, ?_, ?_, G, h1, h2, ?_⟩
   ·rw [gp _ _ _ (by decide)]; exact hI.s1
   ·rw [gp _ _ _ (by decide)]; exact hI.s3
   ·rw [gp _ _ _ (by decide)]; exact hI.s6
   ·intro _; rw [getT_put (by rw [hI.len]; decide)]; exact hI.s3
   ·rw [gp _ _ _ (by decide)]; exact hI.s16
   ·rw [gp _ _ _ (by decide), gp _ _ _ (by decide)]; exact hI.s22
   ·rw [gp _ _ _ (by decide), gp _ _ _ (by decide)]; exact hI.s2
   ·exact hI.c0
   ·rw [gp _ _ _ (by decide)]; exact h3
  ·exact ⟨_, _, .inl ⟨rfl, cv_yield (hI.s14 (hq 16 (mE rfl)))⟩, hI.snoc 17 15 _ _ (by decide) hL⟩
  ·exact hI.put 18 (hq 0 (mE rfl)) _ _ (by decide) (by decide)
  ·refine ⟨_, _, .inl ⟨rfl, mv_yield⟩, by rw [putV_length]; exact hI.len, ?_, ?_, ?_, ?_, ?_, ?_, ?_, ?_, G, h1, h2, ?_⟩
   ·rw [gp _ _ _ (by decide)]; exact hI.s1
   ·rw [gp _ _ _ (by decide)]; exact hI.s3
   ·rw [gp _ _ _ (by decide)]; exact hI.s6
   ·rw [gp _ _ _ (by decide)]; exact hI.s14
   ·intro _; rw [getT_put (by rw [hI.len]; decide)]; exact hI.s3
   ·rw [gp _ _ _ (by decide), gp _ _ _ (by decide)]; exact hI.s22
   ·rw [gp _ _ _ (by decide), gp _ _ _ (by decide)]; exact hI.s2
   ·exact hI.c0
   ·rw [gp _ _ _ (by decide)]; exact h3
  ·exact ⟨_, _, .inl ⟨rfl, cv_yield (hI.s16 (hq 19 (mE rfl)))⟩, hI.snoc 20 17 _ _ (by decide) hL⟩
  ·exact hI.put 21 (hq 0 (mE rfl)) _ _ (by decide) (by decide)
  ·exact hI.put 22 (hq 0 (mE rfl)) _ _ (by decide) (by decide)
  ·subst h1
   exact ⟨_, _, .inl ⟨rfl, ld_yield hI.s1⟩, hI.pure 23 18 _ (by decide) (by decide)⟩
  ·exact ⟨_, _, .inl ⟨rfl, mfb_yield⟩, hI.pure 24 19 _ (by decide) (by decide)⟩
  ·exact hI.put 25 (hq 0 (mE rfl)) _ _ (by decide) (by decide)
  ·subst h1
   exact ⟨_, _, .inl ⟨rfl, ld_yield hI.s1⟩, hI.pure 26 20 _ (by decide) (by decide)⟩
  ·exact ⟨_, _, .inl ⟨rfl, mfb_yield⟩, hI.pure 27 21 _ (by decide) (by decide)⟩
  ·exact hI.put 28 (hq 0 (mE rfl)) _ _ (by decide) (by decide)
  ·refine ⟨_, _, .inl ⟨rfl, mv_yield⟩, by rw [putV_length]; exact hI.len, ?_, ?_, ?_, ?_, ?_, ?_, ?_, ?_, G, h1, h2, ?_⟩
   ·rw [gp _ _ _ (by decide)]; exact hI.s1
   ·rw [gp _ _ _ (by decide)]; exact hI.s3
   ·rw [gp _ _ _ (by decide)]; exact hI.s6
   ·rw [gp _ _ _ (by decide)]; exact hI.s14
   ·rw [gp _ _ _ (by decide)]; exact hI.s16
   ·intro _; rw [getT_put (by rw [hI.len]; decide), gp _ _ _ (by decide)]; rfl
   ·rw [gp _ _ _ (by decide), gp _ _ _ (by decide)]; exact hI.s2
   ·intro _; exact hq 0 (mE rfl)
   ·rw [gp _ _ _ (by decide)]; exact h3
  ·refine ⟨_, _, .inl ⟨rfl, mv_yield⟩, by rw [putV_length]; exact hI.len, ?_, ?_, ?_, ?_, ?_, ?_, ?_, ?_, G, h1, h2, ?_⟩
   ·rw [gp _ _ _ (by decide)]; exact hI.s1
   ·rw [gp _ _ _ (by decide)]; exact hI.s3
   ·rw [gp _ _ _ (by decide)]; exact hI.s6
   ·rw [gp _ _ _ (by decide)]; exact hI.s14
   ·rw [gp _ _ _ (by decide)]; exact hI.s16
   ·rw [gp _ _ _ (by decide), gp _ _ _ (by decide)]; exact hI.s22
   ·intro _; rw [getT_put (by rw [hI.len]; decide), gp _ _ _ (by decide)]; exact hI.s22 (hq 29 (mE rfl))
   ·intro _; exact hI.c0 (.inr (.inl (hq 29 (mE rfl))))
   ·rw [gp _ _ _ (by decide)]; exact h3
 ·intro L ρ H hL hI
  have hL : ∀ j, j < 31 → L j = true := hL
  obtain ⟨G, h1, h2, h3⟩ := hI.hp
  obtain ⟨m, es, g1, g2, g3, g4⟩ := h3 (hL 0 (by decide))
  have e2 : getT ρ 2 = .mp (m + 2) := (hI.s2 (hL 30 (by decide))).trans g1
  show getK ρ 2 _
  rw [getK_eq, e2]
  exact ⟨G, m, es, h1, by rw [h2, hL 0 (by decide), hL 17 (by decide), hL 20 (by decide)]; rfl, g2, rfl, g3, g4 (hL 2 (by decide))⟩
end Go.AW

namespace Go.AW
variable [Draws]
attribute [local irreducible] ACalls
section
variable (F : (AExit → List AVal → List AObj → Prop) → List AVal → List AObj → Prop) (n0 : List Nat) (Qe : Nat → List AVal → List AObj → Prop) (Qr : List AVal → List AObj → Prop)
def lpR (I : Nat → List AVal → List AObj → Prop) (n : Nat) (ρ : List AVal) (H : List AObj) : Prop :=
 forceK ρ fun ρ1 => F (fun e ρ' H' => match e with
  | .normal => ∃ m, m < n ∧ Gp n0 ρ' H' (I m)
  | .exit id => Qe id ρ' H'
  | .ret => Qr ρ' H') ρ1 H
def lpT : Nat → Nat → List AVal → List AObj → Prop
 | 0, _ => fun _ _ => False
 | k + 1, m => if m < k then lpT k m else lpR F n0 Qe Qr (lpT k) m
def lpI (m : Nat) : List AVal → List AObj → Prop := lpT F n0 Qe Qr (m + 1) m
theorem lpT_le : ∀ (k m : Nat), m < k → lpT F n0 Qe Qr k m = lpI F n0 Qe Qr m
 | 0, m, h => absurd h (Nat.not_lt_zero _)
 | k + 1, m, h => by
  by_cases e : m < k
  ·rw [lpT, if_pos e]; exact lpT_le k m e
  ·have : m = k := by omega
   subst this; rfl
theorem lpI_eq (m : Nat) : lpI F n0 Qe Qr m = lpR F n0 Qe Qr (lpI F n0 Qe Qr) m := by
 rw [lpI, lpT, if_neg (Nat.lt_irrefl m)]
 funext ρ H
 unfold lpR
 congr; funext ρ1; congr; funext e ρ' H'
 cases e <;> try rfl
 refine propext ⟨fun ⟨k, h, g⟩ => ⟨k, h, by rwa [lpT_le F n0 Qe Qr m k h] at g⟩, fun ⟨k, h, g⟩ => ⟨k, h, by rwa [lpT_le F n0 Qe Qr m k h]⟩⟩
theorem lpU (N : Nat) {ρ : List AVal} {H : List AObj} (h : lpI F n0 Qe Qr N ρ H) : ∃ (I : Nat → List AVal → List AObj → Prop) (n : Nat) (vs : List (Nat × Nat)), nvK vs ρ H (I n) ∧ ∀ n1 ρ1 H1, I n1 ρ1 H1 →
  forceK ρ1 fun ρ1 => F (fun e ρ' H' => match e with
   | .normal => ∃ m, m < n1 ∧ Gp n0 ρ' H' (I m)
   | .exit id => Qe id ρ' H'
   | .ret => Qr ρ' H') ρ1 H1 :=
 ⟨lpI F n0 Qe Qr, N, [], h, fun n1 ρ1 H1 h1 => by rw [lpI_eq] at h1; exact h1⟩
theorem lpS {m : Nat} {ρ : List AVal} {H : List AObj} (h : forceK ρ fun ρ1 => F (fun e ρ' H' => match e with
   | .normal => ∃ k, k < m ∧ Gp n0 ρ' H' (lpI F n0 Qe Qr k)
   | .exit id => Qe id ρ' H'
   | .ret => Qr ρ' H') ρ1 H) : lpI F n0 Qe Qr m ρ H := by rw [lpI_eq]; exact h
theorem lpE {m : Nat} {ρ : List AVal} {H : List AObj} (h : lpI F n0 Qe Qr m ρ H) : ∃ k, k < m + 1 ∧ Gp n0 ρ H (lpI F n0 Qe Qr k) := ⟨m, Nat.lt_succ_self m, .inl h⟩
end
theorem drP {P : Program} {f : FuncId} {args : List AVal} {H : List AObj} {R : AVal} {k : AVal → Prop} (ha : args.all AVal.closed = true) (h : ACalls P f args [] (fun r H1 => Pub H1 0 [] r R)) (hk : k R) : ∃ r, ACalls P f args H (fun r' H' => r' = r ∧ H' = H) ∧ k r := ⟨R, ACalls.pure ha h, hk⟩
theorem drQ {P : Program} {f : FuncId} {args args' : List AVal} {H : List AObj} {R : AVal} {k : AVal → Prop} (e : args = args') (h : ACalls P f args' H (fun r' H' => r' = R ∧ H' = H)) (hk : k R) : ∃ r, ACalls P f args H (fun r' H' => r' = r ∧ H' = H) ∧ k r := by subst e; exact ⟨R, h, hk⟩
theorem usQ {P : Program} {f : FuncId} {args args' : List AVal} {H : List AObj} {R : AVal} {k : AVal → List AObj → Prop} (e : args = args') (h : ACalls P f args' H (fun r' H' => r' = R ∧ H' = H)) (hk : k R H) : ACalls P f args H k := by subst e; exact ACalls.use h hk
theorem ceA {P : Program} {f : FuncId} {vs : List AVal} {H H1 : List AObj} {R : AVal} {k : AVal → List AObj → Prop} (h : ACalls P f vs H (fun r' H' => r' = R ∧ H' = H1)) (hk : k R H1) : ∃ r H1, ACalls P f vs H (fun r' H' => r' = r ∧ H' = H1) ∧ k r H1 := ⟨R, H1, h, hk⟩
theorem ceB {P : Program} {f : FuncId} {vs : List AVal} {H H1 : List AObj} {R : AVal} {k : AVal → List AObj → Prop} (h : ACalls P f vs H (fun r' H' => r' = R ∧ H' = H1)) (hk : k R H1) : ∃ r H1, k r H1 ∧ ACalls P f vs H (fun r' H' => r' = r ∧ H' = H1) := ⟨R, H1, hk, h⟩
end Go.AW

namespace Go.AW
variable [Draws]
attribute [local irreducible] ACalls CallE CallS Gp lpI
set_option maxRecDepth 20000
set_option maxHeartbeats 8000000
noncomputable def kLaw := kd 3 [300069] Proofs.Tryz.f3 Proofs.Tryz.func3
theorem qok1 {cs : List Col} {e : List Nod} {kf : Kd} (he : ETy cs zsV e kf) (hk : kf.1 = 1 ∨ kf.1 = 0) : QOk cs zsV (none :: some e :: ([] : List (List Nod)).map some) := by
 refine ⟨by simp, by simp, fun s hs => ?_, fun k s hs => ?_⟩
 ·simp at hs
  rcases hs with rfl | rfl
  ·intro e h; cases h
  ·intro e' h; cases h; exact ⟨kf, he, hk⟩
 ·match k, hs with
  | 0, hs => cases hs; simp
  | 1, hs => cases hs; simp
  | k + 2, hs => simp at hs
theorem rlC_noI (l : List RlR) : ∀ e ∈ mC rlC l, ∀ d ∈ e, noI d = true := by
 intro e he d hd
 obtain ⟨r, _, rfl⟩ := List.mem_map.1 he
 simp only [rlC, List.mem_cons, List.not_mem_nil, or_false] at hd
 rcases hd with rfl | rfl | rfl | rfl <;> rfl
theorem run_own [Gls] (y : Bool) {cs : List Col} {e : List Nod} (hq : QOk cs zsV (none :: some e :: ([] : List (List Nod)).map some)) (hcs : CsOk cs) {r0 r1 r2 : RlR} (hr : RsOk cs r0 [r1, r2]) (G : List AObj)
  (hG : ∀ (id sz : Nat) (es : List (List AVal)), G[id]? = some (.arr sz es) → ∀ e ∈ es, ∀ d ∈ e, noI d = true) {A : List Ent} (hA : rwQ cs zsV r0.rows (some e :: ([] : List (List Nod)).map some) = A) :
  ACalls pr 6 [.sl 0 3 0 3, .list y 6 (mC spC [some e])] (.arr 4 (mC rlC [r0, r1, r2]) :: G) (fun r H' => r = .tuple [.agg (rlA cs A), .bool true] ∧ H' = .arr 4 (mC rlC [r0, r1, r2]) :: G) := by
 have h := (run_t false y hq hcs hr []).mono (Q' := fun r _ => r = .tuple [.agg (rlA cs A), .bool true]) fun r H1 h => by rw [← hA]; exact h.1
 refine ACalls.lend (ifl_run cs A) (fun id sz es h => ?_) h (Lents.cons (b := .list false 4 (mC rlC [r0, r1, r2])) (Lent.sl 0 3 0 3 4 (mC rlC [r0, r1, r2]) rfl rfl (mC_pure (fun r => rfl) _)) (Lents.cons (.same _ rfl) Lents.nil))
 cases id with
 | zero => cases h; exact rlC_noI _
 | succ id => exact hG id sz es h
theorem law_r [Gls] (hk : ∀ H, ACalls pr 10 [] H (fun r H' => r = .bool true ∧ H' = H)) (g1 g2 : Bool) (l m : List Int) (n : Int) :
  ACalls pr 3 [.list g1 1 (iC l), .list g2 1 (iC m), .int .i64 n] [] (fun r _ => r = .bool true) := by
 obtain ⟨r0, r1, r2, hr, hfc, hfil⟩ := filled_r g1 l
 have hnm := hr.nm
 have hcl := hr.cl
 obtain ⟨nm, fc, cols, rows⟩ := r0
 simp only at hnm hcl hfc
 subst hnm hcl hfc
 have hE := expr_t true g2 ordCz ordOk.vd m
 have b1 : 0 ≤ and64 n 15 ∧ and64 n 15 ≤ 15 := by rw [and_15]; omega
 obtain ⟨_, ⟨p, rfl, hp⟩, hpp, hpc⟩ := hE 1 (and64 n 15) (by decide) ⟨b1.1, by omega⟩
 obtain ⟨kp, hpt, hpk⟩ := hp.ety (by decide)
 have hin := ety_in hpt
 have hpl := hpt.len
 have h0 : p ≠ [] := by rintro rfl; have := hpt.kk; cases this
 have hpM := ety_ren hpt
 have ht0 : TbOk ordC rows := hr.tb ⟨ordN, true, ordC, rows⟩ (List.mem_cons_self ..)
 have hr' : RsOk ordM ⟨ordN, false, ordM, rows⟩ [r1, r2] := by
  refine ⟨hr.len, rfl, rfl, fun r h => ?_, fun r h => ?_⟩
  ·rcases List.mem_cons.1 h with rfl | h
   ·exact ordM_ok
   ·exact hr.cv r (List.mem_cons_of_mem _ h)
  ·rcases List.mem_cons.1 h with rfl | h
   ·exact tb_ren ht0
   ·exact hr.tb r (List.mem_cons_of_mem _ h)
 have hq1 : QOk ordC zsV (none :: some p :: ([] : List (List Nod)).map some) := qok1 hpt hpk
 have hq2 : QOk ordM zsV (none :: some (p.map renN) :: ([] : List (List Nod)).map some) := qok1 hpM hpk
 have hrows : rwQ ordM zsV rows (some (p.map renN) :: ([] : List (List Nod)).map some) = rwQ ordC zsV rows (some p :: ([] : List (List Nod)).map some) := kp_ren hpt ht0
 obtain ⟨A, hA⟩ : ∃ A, A = rwQ ordC zsV rows (some p :: ([] : List (List Nod)).map some) := ⟨_, rfl⟩
 have hAt : TbOk ordC A := by rw [hA]; exact rwQ_ok _ _ ht0
 have hbA : bagB A = 0 := by have := hAt.1; unfold tabB at this; simp at this; exact this.1
 have hAl := bag_len hbA
 have run1 := fun x H => run_t x true hq1 ordOk hr H
 have run2 := fun x H => run_t x true hq2 ordM_ok hr' H
 rw [← hA] at hrows
 rw [hrows] at run2
 rw [← hA] at run1
 have hfil : ACalls pr 4 [.list g1 1 (iC l), .int .i64 8] [] (fun r H' => r = .sl 0 3 0 3 ∧ H' = [.arr 4 [[.str ordN, .list true 3 (cC ordC), .nil, .list false 2 (eC rows)], rlC r1, rlC r2]]) := hfil
 refine acalls_of_body kLaw.has ?_
 conv => whnf
 refine ACalls.mono hfil ?_
 rintro r H1 ⟨rfl, rfl⟩
 (conv => whnf); refine And.intro (by decide) ?_
 (conv => whnf); refine ACalls.use (ACalls.frz1 rfl hpc rfl hpp) ?_
 (conv => whnf); refine And.intro (by decide) ?_
 (conv => whnf); refine And.intro ⟨(by decide : (cC ordC).length * 32 ≤ roomB), (by decide : (cC ordC).length ≤ roomB)⟩ ?_
 conv => whnf
 refine lpU _ _ _ _ 60 ?_
 repeat' (first | refine lpS _ _ _ _ ?_ | refine lpE _ _ _ _ ?_ | ((conv => whnf); first | refine recT (by decide) ?_ | refine recF (by decide) ?_ | refine And.intro (by first | exact rfl | decide | omega | ((conv => whnf); exact ⟨by decide, rfl⟩)) ?_ | refine lpU _ _ _ _ 60 ?_))
 conv => whnf
 refine .mk (Gp.some (n := 101) (live := [(7, .sl 0 3 0 3), (8, .list false 6 (mC nodC p)), (9, .list false 3 (cC ordM)), (10, .list false 1 (sC fromN)), (11, .list false 1 (sC toN))]) (H1 := [.arr 4 [[.str ordN, .list true 3 (cC ordC), .nil, .list false 2 (eC rows)], rlC r1, rlC r2]]) [0] (by simp) ⟨⟨_, rfl, .same _ _ rfl⟩, trivial⟩ rfl ⟨.keep 0 3 0 3 0 rfl, .closed _ rfl, pubFI (by simp) rfl rfl rfl rfl, pubFI (by simp) rfl rfl rfl rfl, pubFI (by simp) rfl rfl rfl rfl, trivial⟩ ?_)
 rintro ρ ⟨dd, rfl⟩
 (conv => whnf); refine ACalls.use (wstep_t p _) ?_
 (conv => whnf); refine ACalls.use (run_own true hq1 ordOk hr [] (fun id sz es h => by simp at h) hA.symm) ?_
 (conv => whnf); refine And.intro (by decide) ?_
 (conv => whnf); refine ACalls.use (rename_t false p h0 (by omega) hin _) ?_
 (conv => whnf); refine ACalls.use (wstep_t _ _) ?_
 conv => whnf
 refine ACalls.use (run_own true hq2 ordM_ok hr' [.arr 4 [rlA ordC A]] (fun id sz es h e he d hd => ?_) hrows) ?_
 ·cases id with
  | zero =>
   cases h
   simp only [List.mem_cons, List.not_mem_nil, or_false] at he
   subst he
   simp only [rlA, List.mem_cons, List.not_mem_nil, or_false] at hd
   rcases hd with rfl | rfl | rfl | rfl <;> rfl
  | succ id => cases id <;> cases h
 (conv => whnf); refine ACalls.use (ref6_Same_refl false false A (by omega) (fun e he => by have := (chkRow_ok (hAt.2 e he)).1; have : ordC.length = 4 := rfl; omega) _) ?_
 (conv => whnf); refine ACalls.use (hk _) ?_
 conv => whnf
end Go.AW

namespace Go.AW
set_option maxRecDepth 100000
noncomputable def k54 := kd 54 [] Proofs.Tryz.f54 Proofs.Tryz.func54
noncomputable def k261 := kd 261 [] Proofs.Tryz.f261 Proofs.Tryz.func261
noncomputable def k322 := kd 322 [29] Proofs.Tryz.f322 Proofs.Tryz.func322
end Go.AW

namespace Go.AW
variable [Draws]
attribute [local irreducible] ACalls CallE CallS Gp lpI
set_option maxRecDepth 100000
set_option maxHeartbeats 4000000
def tkR (k : Int) (s : ByteArray) (n a : Int) : List AVal := [.int .i64 k, .str s, .int .i64 n, .int .i64 a]
def oneR (k : Int) (s : ByteArray) (n l : Int) : AVal := .tuple [.agg (tkR k s n 0), .int .i64 l, .int .i64 0]
theorem one_from [Gls] (H : List AObj) : ACalls pr 52 [.str (bs [102, 114, 111, 109, 32, 111, 114, 100, 101, 114, 115, 32, 124, 32, 119, 104, 101, 114, 101, 32, 105, 100, 32, 62, 32, 48])] H (fun r H' => r = oneR 1 (bs [102, 114, 111, 109]) 0 4 ∧ H' = H) := by
 refine ACalls.pure rfl (acalls_of_body k52.has ?_)
 repeat' (first | refine lpS _ _ _ _ ?_ | refine lpE _ _ _ _ ?_ | ((conv => whnf); first | exact .closed _ rfl | exact pub3 (.closed _ rfl) (.closed _ rfl) (.closed _ rfl) | exact ⟨rfl, rfl⟩ | refine recO Gls.sy ?_ | apply ceA | refine acalls_of_body k79.has ?_ | refine acalls_of_body k81.has ?_ | refine acalls_of_body k80.has ?_ | refine acalls_of_body k123.has ?_ | refine acalls_of_body k82.has ?_ | refine acalls_of_body k85.has ?_ | refine acalls_of_body k126.has ?_ | refine recT (by decide) ?_ | refine recF (by decide) ?_ | refine And.intro (by first | exact rfl | decide | omega | ((conv => whnf); exact ⟨by decide, rfl⟩)) ?_ | refine lpU _ _ _ _ 60 ?_))
theorem one_orders [Gls] (H : List AObj) : ACalls pr 52 [.str (bs [111, 114, 100, 101, 114, 115, 32, 124, 32, 119, 104, 101, 114, 101, 32, 105, 100, 32, 62, 32, 48])] H (fun r H' => r = oneR 1 (bs [111, 114, 100, 101, 114, 115]) 0 6 ∧ H' = H) := by
 refine ACalls.pure rfl (acalls_of_body k52.has ?_)
 repeat' (first | refine lpS _ _ _ _ ?_ | refine lpE _ _ _ _ ?_ | ((conv => whnf); first | exact .closed _ rfl | exact pub3 (.closed _ rfl) (.closed _ rfl) (.closed _ rfl) | exact ⟨rfl, rfl⟩ | refine recO Gls.sy ?_ | apply ceA | refine acalls_of_body k79.has ?_ | refine acalls_of_body k81.has ?_ | refine acalls_of_body k80.has ?_ | refine acalls_of_body k123.has ?_ | refine acalls_of_body k82.has ?_ | refine acalls_of_body k85.has ?_ | refine acalls_of_body k126.has ?_ | refine recT (by decide) ?_ | refine recF (by decide) ?_ | refine And.intro (by first | exact rfl | decide | omega | ((conv => whnf); exact ⟨by decide, rfl⟩)) ?_ | refine lpU _ _ _ _ 60 ?_))
theorem one_bar [Gls] (H : List AObj) : ACalls pr 52 [.str (bs [124, 32, 119, 104, 101, 114, 101, 32, 105, 100, 32, 62, 32, 48])] H (fun r H' => r = oneR 5 (bs [124]) 0 1 ∧ H' = H) := by
 refine ACalls.pure rfl (acalls_of_body k52.has ?_)
 repeat' (first | refine lpS _ _ _ _ ?_ | refine lpE _ _ _ _ ?_ | ((conv => whnf); first | exact .closed _ rfl | exact pub3 (.closed _ rfl) (.closed _ rfl) (.closed _ rfl) | exact ⟨rfl, rfl⟩ | refine recO Gls.sy ?_ | apply ceA | refine acalls_of_body k79.has ?_ | refine acalls_of_body k81.has ?_ | refine acalls_of_body k80.has ?_ | refine acalls_of_body k123.has ?_ | refine acalls_of_body k82.has ?_ | refine acalls_of_body k85.has ?_ | refine acalls_of_body k126.has ?_ | refine recT (by decide) ?_ | refine recF (by decide) ?_ | refine And.intro (by first | exact rfl | decide | omega | ((conv => whnf); exact ⟨by decide, rfl⟩)) ?_ | refine lpU _ _ _ _ 60 ?_))
theorem one_where [Gls] (H : List AObj) : ACalls pr 52 [.str (bs [119, 104, 101, 114, 101, 32, 105, 100, 32, 62, 32, 48])] H (fun r H' => r = oneR 1 (bs [119, 104, 101, 114, 101]) 0 5 ∧ H' = H) := by
 refine ACalls.pure rfl (acalls_of_body k52.has ?_)
 repeat' (first | refine lpS _ _ _ _ ?_ | refine lpE _ _ _ _ ?_ | ((conv => whnf); first | exact .closed _ rfl | exact pub3 (.closed _ rfl) (.closed _ rfl) (.closed _ rfl) | exact ⟨rfl, rfl⟩ | refine recO Gls.sy ?_ | apply ceA | refine acalls_of_body k79.has ?_ | refine acalls_of_body k81.has ?_ | refine acalls_of_body k80.has ?_ | refine acalls_of_body k123.has ?_ | refine acalls_of_body k82.has ?_ | refine acalls_of_body k85.has ?_ | refine acalls_of_body k126.has ?_ | refine recT (by decide) ?_ | refine recF (by decide) ?_ | refine And.intro (by first | exact rfl | decide | omega | ((conv => whnf); exact ⟨by decide, rfl⟩)) ?_ | refine lpU _ _ _ _ 60 ?_))
theorem one_id [Gls] (H : List AObj) : ACalls pr 52 [.str (bs [105, 100, 32, 62, 32, 48])] H (fun r H' => r = oneR 1 (bs [105, 100]) 0 2 ∧ H' = H) := by
 refine ACalls.pure rfl (acalls_of_body k52.has ?_)
 repeat' (first | refine lpS _ _ _ _ ?_ | refine lpE _ _ _ _ ?_ | ((conv => whnf); first | exact .closed _ rfl | exact pub3 (.closed _ rfl) (.closed _ rfl) (.closed _ rfl) | exact ⟨rfl, rfl⟩ | refine recO Gls.sy ?_ | apply ceA | refine acalls_of_body k79.has ?_ | refine acalls_of_body k81.has ?_ | refine acalls_of_body k80.has ?_ | refine acalls_of_body k123.has ?_ | refine acalls_of_body k82.has ?_ | refine acalls_of_body k85.has ?_ | refine acalls_of_body k126.has ?_ | refine recT (by decide) ?_ | refine recF (by decide) ?_ | refine And.intro (by first | exact rfl | decide | omega | ((conv => whnf); exact ⟨by decide, rfl⟩)) ?_ | refine lpU _ _ _ _ 60 ?_))
theorem one_gt [Gls] (H : List AObj) : ACalls pr 52 [.str (bs [62, 32, 48])] H (fun r H' => r = oneR 5 (bs [62]) 0 1 ∧ H' = H) := by
 refine ACalls.pure rfl (acalls_of_body k52.has ?_)
 repeat' (first | refine lpS _ _ _ _ ?_ | refine lpE _ _ _ _ ?_ | ((conv => whnf); first | exact .closed _ rfl | exact pub3 (.closed _ rfl) (.closed _ rfl) (.closed _ rfl) | exact ⟨rfl, rfl⟩ | refine recO Gls.sy ?_ | apply ceA | refine acalls_of_body k79.has ?_ | refine acalls_of_body k81.has ?_ | refine acalls_of_body k80.has ?_ | refine acalls_of_body k123.has ?_ | refine acalls_of_body k82.has ?_ | refine acalls_of_body k85.has ?_ | refine acalls_of_body k126.has ?_ | refine recT (by decide) ?_ | refine recF (by decide) ?_ | refine And.intro (by first | exact rfl | decide | omega | ((conv => whnf); exact ⟨by decide, rfl⟩)) ?_ | refine lpU _ _ _ _ 60 ?_))
theorem one_0 [Gls] (H : List AObj) : ACalls pr 52 [.str (bs [48])] H (fun r H' => r = oneR 2 (bs []) 0 1 ∧ H' = H) := by
 refine ACalls.pure rfl (acalls_of_body k52.has ?_)
 repeat' (first | refine lpS _ _ _ _ ?_ | refine lpE _ _ _ _ ?_ | ((conv => whnf); first | exact .closed _ rfl | exact pub3 (.closed _ rfl) (.closed _ rfl) (.closed _ rfl) | exact ⟨rfl, rfl⟩ | refine recO Gls.sy ?_ | apply ceA | refine acalls_of_body k79.has ?_ | refine acalls_of_body k81.has ?_ | refine acalls_of_body k80.has ?_ | refine acalls_of_body k123.has ?_ | refine acalls_of_body k82.has ?_ | refine acalls_of_body k85.has ?_ | refine acalls_of_body k126.has ?_ | refine recT (by decide) ?_ | refine recF (by decide) ?_ | refine And.intro (by first | exact rfl | decide | omega | ((conv => whnf); exact ⟨by decide, rfl⟩)) ?_ | refine lpU _ _ _ _ 60 ?_))
end Go.AW

namespace Go.AW
variable [Draws]
attribute [local irreducible] ACalls CallE CallS Gp lpI
set_option maxRecDepth 100000
set_option maxHeartbeats 4000000
def kTk : List (List AVal) := [tkR 1 (bs [102, 114, 111, 109]) 0 0, tkR 1 (bs [111, 114, 100, 101, 114, 115]) 0 5, tkR 5 (bs [124]) 0 12, tkR 1 (bs [119, 104, 101, 114, 101]) 0 14, tkR 1 (bs [105, 100]) 0 20, tkR 5 (bs [62]) 0 23, tkR 2 (bs []) 0 25, tkR 0 (bs []) 0 26]
def kTx : ByteArray := bs [102, 114, 111, 109, 32, 111, 114, 100, 101, 114, 115, 32, 124, 32, 119, 104, 101, 114, 101, 32, 105, 100, 32, 62, 32, 48]
theorem split_t [Gls] (H : List AObj) : ACalls pr 33 [.str kTx] H (fun r H' => r = .tuple [.list false 4 kTk, .int .i64 0, .int .i64 0] ∧ H' = H) := by
 refine ACalls.pure rfl (acalls_of_body k33.has ?_)
 repeat' (first | refine lpS _ _ _ _ ?_ | refine lpE _ _ _ _ ?_ | ((conv => whnf); first | exact pub3 (.frz _ _ _ _ _ _ rfl rfl rfl (by simp)) (.closed _ rfl) (.closed _ rfl) | refine usQ (args' := [.str (bs [102, 114, 111, 109, 32, 111, 114, 100, 101, 114, 115, 32, 124, 32, 119, 104, 101, 114, 101, 32, 105, 100, 32, 62, 32, 48])]) (by exact rfl) (one_from _) ?_ | refine usQ (args' := [.str (bs [111, 114, 100, 101, 114, 115, 32, 124, 32, 119, 104, 101, 114, 101, 32, 105, 100, 32, 62, 32, 48])]) (by exact rfl) (one_orders _) ?_ | refine usQ (args' := [.str (bs [124, 32, 119, 104, 101, 114, 101, 32, 105, 100, 32, 62, 32, 48])]) (by exact rfl) (one_bar _) ?_ | refine usQ (args' := [.str (bs [119, 104, 101, 114, 101, 32, 105, 100, 32, 62, 32, 48])]) (by exact rfl) (one_where _) ?_ | refine usQ (args' := [.str (bs [105, 100, 32, 62, 32, 48])]) (by exact rfl) (one_id _) ?_ | refine usQ (args' := [.str (bs [62, 32, 48])]) (by exact rfl) (one_gt _) ?_ | refine usQ (args' := [.str (bs [48])]) (by exact rfl) (one_0 _) ?_ | refine recT (by decide) ?_ | refine recF (by decide) ?_ | refine And.intro (by first | exact rfl | decide | omega | ((conv => whnf); exact ⟨by decide, rfl⟩)) ?_ | refine lpU _ _ _ _ 60 ?_))
end Go.AW

namespace Go.AW
variable [Draws]
attribute [local irreducible] ACalls CallE CallS Gp lpI
set_option maxRecDepth 100000
set_option maxHeartbeats 4000000
theorem tval_t [Gls] (H : List AObj) : ACalls pr 53 [.list false 4 kTk] H (fun r H' => r = .int .i64 0 ∧ H' = H) := by
 refine ACalls.pure rfl (acalls_of_body k53.has ?_)
 repeat' (first | refine lpS _ _ _ _ ?_ | refine lpE _ _ _ _ ?_ | ((conv => whnf); first | exact .closed _ rfl | exact ⟨rfl, rfl⟩ | refine recO Gls.sy ?_ | refine ACalls.use (schema_IsQualified_spec _ (by decide) _) ?_ | refine ACalls.use (Contains_spec false symW (by decide) _ _) ?_ | refine acalls_of_body k86.has ?_ | refine recT (by decide) ?_ | refine recF (by decide) ?_ | refine And.intro (by first | exact rfl | decide | omega | ((conv => whnf); exact ⟨by decide, rfl⟩)) ?_ | refine lpU _ _ _ _ 60 ?_))
end Go.AW

namespace Go.AW
variable [Draws]
attribute [local irreducible] ACalls CallE CallS Gp lpI
set_option maxRecDepth 100000
set_option maxHeartbeats 4000000
theorem usH {P : Program} {f : FuncId} {args args' : List AVal} {H H1 : List AObj} {R : AVal} {k : AVal → List AObj → Prop} (e : args = args') (h : ACalls P f args' H (fun r' H' => r' = R ∧ H' = H1)) (hk : k R H1) : ACalls P f args H k := by subst e; exact h.mono (by rintro r H' ⟨rfl, rfl⟩; exact hk)
def pO (a : Int) : AObj := .arr 4 [[.list false 4 kTk, .int .i64 a, .int .i64 0, .int .i64 0]]
theorem pfr {f : FuncId} {args : List AVal} {o o1 : AObj} {R : AVal} (hp : o.clean = true) (hp1 : o1.clean = true) (hn1 : o1.olen = o.olen) (hk : ObP [o1] [0] o1 o1) (ha : args.all AVal.closed = true) (hR : R.closed = true ∨ R = .tuple [])
  (h : ACalls pr f (.ptr 0 1 0 0 :: args) [o] (fun r H' => ∃ G, H' = o1 :: G ∧ Pub H' 0 [0] r R)) {H : List AObj} {id : Nat} (hH : H[id]? = some o) :
  ACalls pr f (.ptr id 1 0 0 :: args) H (fun r H' => r = R ∧ H' = H.set id o1) := by
 have h1 : ACalls pr f (.ptr 0 1 0 0 :: args) [o] (fun r H' => r = R ∧ H' = [o1]) := by
  refine h.gp ?_
  rintro r H' ⟨G, rfl, hpub⟩
  refine Gp.res (r' := R) (H1 := [o1]) [0] (by simp) (keepB_one rfl rfl hn1) ⟨⟨_, rfl, ?_⟩, trivial⟩ hpub ⟨_, rfl, rfl, rfl⟩
  cases o1 with
  | arr n es => exact .same _ _ hp1
  | iter s p => exact .iter s p
  | map kvs => exact .mp kvs hp1
  | bmap _ _ _ => cases hp1
  | mit _ _ _ => cases hp1
 refine h1.fr hH hp hp1 (.pt ?_) (by rcases hR with hR | rfl; exact .closed _ hR; exact .tuple _ _ rfl fun i v r h => by cases h)
 clear h h1
 induction args with
 | nil => exact trivial
 | cons a l ih =>
  rw [List.all_cons, Bool.and_eq_true] at ha
  exact .cl ha.1 (ih ha.2)
def colN (s : ByteArray) : Nod := ⟨1, ⟨0, 0, bs []⟩, s, 0⟩
def cN0 : Nod := ⟨0, ⟨2, 0, bs []⟩, bs [], 0⟩
def e0 : List Nod := [cN0, colN (bs [105, 100]), opN 12]
theorem unary4 [Gls] {H : List AObj} {id : Nat} (hH : H[id]? = some (pO 4)) : ACalls pr 342 [.ptr id 1 0 0] H (fun r H' => r = .list true 6 (mC nodC [colN (bs [105, 100])]) ∧ H' = H.set id (pO 5)) := by
 refine pfr (o := pO 4) (o1 := pO 5) (R := .list true 6 (mC nodC [colN (bs [105, 100])])) rfl rfl rfl (.same _ _ rfl) rfl (.inl rfl) ?_ hH
 refine acalls_of_body k342.has ?_
 repeat' (first | refine lpS _ _ _ _ ?_ | refine lpE _ _ _ _ ?_ | ((conv => whnf); first | exact ⟨_, rfl, .closed _ rfl⟩ | refine ACalls.use ((reserved_t _).a _) ?_ | refine acalls_of_body k321.has ?_ | refine acalls_of_body k349.has ?_ | refine acalls_of_body k348.has ?_ | refine acalls_of_body k350.has ?_ | refine acalls_of_body k353.has ?_ | refine acalls_of_body k355.has ?_ | refine recT (by decide) ?_ | refine recF (by decide) ?_ | refine And.intro (by first | exact rfl | decide | omega | ((conv => whnf); exact ⟨by decide, rfl⟩)) ?_ | refine lpU _ _ _ _ 60 ?_))
theorem unary6 [Gls] {H : List AObj} {id : Nat} (hH : H[id]? = some (pO 6)) : ACalls pr 342 [.ptr id 1 0 0] H (fun r H' => r = .list true 6 (mC nodC [cN0]) ∧ H' = H.set id (pO 7)) := by
 refine pfr (o := pO 6) (o1 := pO 7) (R := .list true 6 (mC nodC [cN0])) rfl rfl rfl (.same _ _ rfl) rfl (.inl rfl) ?_ hH
 refine acalls_of_body k342.has ?_
 repeat' (first | refine lpS _ _ _ _ ?_ | refine lpE _ _ _ _ ?_ | ((conv => whnf); first | exact ⟨_, rfl, .closed _ rfl⟩ | refine ACalls.use ((reserved_t _).a _) ?_ | refine acalls_of_body k321.has ?_ | refine acalls_of_body k349.has ?_ | refine acalls_of_body k348.has ?_ | refine acalls_of_body k350.has ?_ | refine acalls_of_body k351.has ?_ | refine recT (by decide) ?_ | refine recF (by decide) ?_ | refine And.intro (by first | exact rfl | decide | omega | ((conv => whnf); exact ⟨by decide, rfl⟩)) ?_ | refine lpU _ _ _ _ 60 ?_))
theorem compare4 [Gls] {H : List AObj} {id : Nat} (hH : H[id]? = some (pO 4)) : ACalls pr 322 [.ptr id 1 0 0] H (fun r H' => r = .list false 6 (mC nodC e0) ∧ H' = H.set id (pO 7)) := by
 refine pfr (o := pO 4) (o1 := pO 7) (R := .list false 6 (mC nodC e0)) rfl rfl rfl (.same _ _ rfl) rfl (.inl rfl) ?_ hH
 refine acalls_of_body k322.has ?_
 repeat' (first | refine lpS _ _ _ _ ?_ | refine lpE _ _ _ _ ?_ | ((conv => whnf); first | exact ⟨rfl, rfl⟩ | exact ⟨_, rfl, .closed _ rfl⟩ | exact ⟨_, rfl, pubFI (by simp) rfl rfl rfl rfl⟩ | refine usH rfl (unary4 (id := 0) rfl) ?_ | refine usH rfl (unary6 (id := 0) rfl) ?_ | apply ceA | refine acalls_of_body k341.has ?_ | refine acalls_of_body k289.has ?_ | refine acalls_of_body k343.has ?_ | refine recT (by decide) ?_ | refine recF (by decide) ?_ | refine And.intro (by first | exact rfl | decide | omega | ((conv => whnf); exact ⟨by decide, rfl⟩)) ?_ | refine lpU _ _ _ _ 60 ?_))
end Go.AW

namespace Go.AW
variable [Draws]
attribute [local irreducible] ACalls CallE CallS Gp lpI
set_option maxRecDepth 100000
set_option maxHeartbeats 4000000
theorem or4 [Gls] {H : List AObj} {id : Nat} (hH : H[id]? = some (pO 4)) : ACalls pr 261 [.ptr id 1 0 0] H (fun r H' => r = .list false 6 (mC nodC e0) ∧ H' = H.set id (pO 7)) := by
 refine pfr (o := pO 4) (o1 := pO 7) (R := .list false 6 (mC nodC e0)) rfl rfl rfl (.same _ _ rfl) rfl (.inl rfl) ?_ hH
 refine acalls_of_body k261.has ?_
 repeat' (first | refine lpS _ _ _ _ ?_ | refine lpE _ _ _ _ ?_ | ((conv => whnf); first | exact ⟨rfl, rfl⟩ | exact ⟨_, rfl, .closed _ rfl⟩ | exact ⟨_, rfl, pubFI (by simp) rfl rfl rfl rfl⟩ | refine usH rfl (compare4 (id := 0) rfl) ?_ | refine acalls_of_body k290.has ?_ | refine acalls_of_body k289.has ?_ | refine acalls_of_body k291.has ?_ | refine acalls_of_body k321.has ?_ | refine recT (by decide) ?_ | refine recF (by decide) ?_ | refine And.intro (by first | exact rfl | decide | omega | ((conv => whnf); exact ⟨by decide, rfl⟩)) ?_ | refine lpU _ _ _ _ 60 ?_))
theorem e0_ex : ExK ordC 1 3 2 e0 := ExK.cmp (op := 12) (k := 2) (by decide) (ExK.cst (v := ⟨2, 0, bs []⟩) (by decide) (.inl rfl)) (ExK.col ordCz (c := ⟨bs [105, 100], 2, false⟩) (List.mem_cons_self ..) rfl) (by decide)
theorem e0_hf : ∃ hf, stk fH e0 [] = some [hf] := by
 obtain ⟨k, _, x⟩ := e0_ex
 obtain ⟨hf, _, _, hh⟩ := x.hh
 exact ⟨hf, hh []⟩
theorem parseAt_t [Gls] (H : List AObj) : ACalls pr 211 [.list false 4 kTk, .int .i64 4] H (fun r H' => r = .tuple [.list false 6 (mC nodC e0), .int .i64 7, .int .i64 0] ∧ H' = H) := by
 obtain ⟨hf, hh⟩ := e0_hf
 refine ACalls.pure rfl (acalls_of_body k211.has ?_)
 repeat' (first | refine lpS _ _ _ _ ?_ | refine lpE _ _ _ _ ?_ | ((conv => whnf); first | exact pub3 (.closed _ rfl) (.closed _ rfl) (.closed _ rfl) | refine usQ rfl (tval_t _) ?_ | refine usH rfl (or4 (id := 0) rfl) ?_ | refine usQ rfl (val_t false e0 (by decide) hh _) ?_ | refine recT (by decide) ?_ | refine recF (by decide) ?_ | refine And.intro (by first | exact rfl | decide | omega | ((conv => whnf); exact ⟨by decide, rfl⟩)) ?_ | refine lpU _ _ _ _ 60 ?_))
end Go.AW

namespace Go.AW
variable [Draws]
attribute [local irreducible] ACalls CallE CallS Gp lpI
set_option maxRecDepth 100000
set_option maxHeartbeats 4000000
def qO (a : Int) : AObj := .arr 3 [[.list false 4 kTk, .int .i64 a, .int .i64 0]]
theorem word0 {H : List AObj} {id : Nat} (hH : H[id]? = some (qO 0)) : ACalls pr 87 [.ptr id 1 0 0, .str (bs [102, 114, 111, 109])] H (fun r H' => r = .tuple [] ∧ H' = H.set id (qO 1)) := by
 refine pfr (o := qO 0) (o1 := qO 1) (R := .tuple []) rfl rfl rfl (.same _ _ rfl) rfl (.inr rfl) ?_ hH
 refine acalls_of_body k87.has ?_
 repeat' (first | refine lpS _ _ _ _ ?_ | refine lpE _ _ _ _ ?_ | ((conv => whnf); first | exact ⟨_, rfl, .tuple _ _ rfl fun i v r h => by cases h⟩ | refine acalls_of_body k90.has ?_ | refine acalls_of_body k145.has ?_ | refine acalls_of_body k91.has ?_ | refine recT (by decide) ?_ | refine recF (by decide) ?_ | refine And.intro (by first | exact rfl | decide | omega | ((conv => whnf); exact ⟨by decide, rfl⟩)) ?_ | refine lpU _ _ _ _ 60 ?_))
theorem name1 {H : List AObj} {id : Nat} (hH : H[id]? = some (qO 1)) : ACalls pr 88 [.ptr id 1 0 0] H (fun r H' => r = .str ordN ∧ H' = H.set id (qO 2)) := by
 refine pfr (o := qO 1) (o1 := qO 2) (R := .str ordN) rfl rfl rfl (.same _ _ rfl) rfl (.inl rfl) ?_ hH
 refine acalls_of_body k88.has ?_
 repeat' (first | refine lpS _ _ _ _ ?_ | refine lpE _ _ _ _ ?_ | ((conv => whnf); first | exact ⟨_, rfl, .closed _ rfl⟩ | refine acalls_of_body k92.has ?_ | refine acalls_of_body k91.has ?_ | refine recT (by decide) ?_ | refine recF (by decide) ?_ | refine And.intro (by first | exact rfl | decide | omega | ((conv => whnf); exact ⟨by decide, rfl⟩)) ?_ | refine lpU _ _ _ _ 60 ?_))
theorem expression4 [Gls] {H : List AObj} {id : Nat} (hH : H[id]? = some (qO 4)) : ACalls pr 132 [.ptr id 1 0 0] H (fun r H' => r = .list false 6 (mC nodC e0) ∧ H' = H.set id (qO 7)) := by
 refine pfr (o := qO 4) (o1 := qO 7) (R := .list false 6 (mC nodC e0)) rfl rfl rfl (.same _ _ rfl) rfl (.inl rfl) ?_ hH
 refine acalls_of_body k132.has ?_
 repeat' (first | refine lpS _ _ _ _ ?_ | refine lpE _ _ _ _ ?_ | ((conv => whnf); first | exact ⟨_, rfl, .closed _ rfl⟩ | refine drQ rfl (parseAt_t _) ?_ | refine recT (by decide) ?_ | refine recF (by decide) ?_ | refine And.intro (by first | exact rfl | decide | omega | ((conv => whnf); exact ⟨by decide, rfl⟩)) ?_ | refine lpU _ _ _ _ 60 ?_))
theorem query0 [Gls] {H : List AObj} {id : Nat} (hH : H[id]? = some (qO 0)) : ACalls pr 54 [.ptr id 1 0 0] H (fun r H' => r = .list false 6 (mC spC [none, some e0]) ∧ H' = H.set id (qO 7)) := by
 refine pfr (o := qO 0) (o1 := qO 7) (R := .list false 6 (mC spC [none, some e0])) rfl rfl rfl (.same _ _ rfl) rfl (.inl rfl) ?_ hH
 refine acalls_of_body k54.has ?_
 repeat' (first | refine lpS _ _ _ _ ?_ | refine lpE _ _ _ _ ?_ | ((conv => whnf); first | refine usH rfl (name1 (id := 0) rfl) ?_ | refine usH rfl (word0 (id := 0) rfl) ?_ | refine ACalls.mono (steps_t _) ?_ | refine acalls_of_body k90.has ?_ | refine acalls_of_body k145.has ?_ | refine acalls_of_body k91.has ?_ | refine recT (by decide) ?_ | refine recF (by decide) ?_ | refine And.intro (by first | exact rfl | decide | omega | ((conv => whnf); exact ⟨by decide, rfl⟩)) ?_ | refine lpU _ _ _ _ 60 ?_))
 rintro r H1 ⟨G, m, es, rfl, hG, hm, rfl, hk, hf⟩
 obtain ⟨x, y, z, rfl⟩ : ∃ x y z, G = [x, y, z] := by
  match G, hG with
  | [x, y, z], _ => exact ⟨x, y, z, rfl⟩
 have hm3 := (List.getElem?_eq_some_iff.1 hm).1
 obtain rfl | rfl | rfl : m = 0 ∨ m = 1 ∨ m = 2 := by simp at hm3; omega
 all_goals cases hm
 all_goals repeat' (first | refine lpS _ _ _ _ ?_ | refine lpE _ _ _ _ ?_ | ((conv => whnf); first | exact ⟨_, rfl, pubFI (by simp) rfl rfl rfl rfl⟩ | refine usH rfl (expression4 (id := 0) rfl) ?_ | refine recT (hk.ok _) ?_ | refine recO hf ?_ | refine acalls_of_body k90.has ?_ | refine acalls_of_body k145.has ?_ | refine acalls_of_body k91.has ?_ | refine acalls_of_body k92.has ?_ | refine acalls_of_body k131.has ?_ | refine recT (by decide) ?_ | refine recF (by decide) ?_ | refine And.intro (by first | exact rfl | decide | omega | ((conv => whnf); exact ⟨by decide, rfl⟩)) ?_ | refine lpU _ _ _ _ 60 ?_))
end Go.AW

namespace Go.AW
variable [Draws]
attribute [local irreducible] ACalls CallE CallS Gp lpI
set_option maxRecDepth 100000
set_option maxHeartbeats 4000000
theorem e0_ety : ∃ kf, ETy ordC [] e0 kf ∧ (kf.1 = 1 ∨ kf.1 = 0) := by
 obtain ⟨k, hk, x⟩ := e0_ex
 obtain ⟨hf, _, _, hh⟩ := x.hh
 refine ⟨k, ⟨Nat.le_trans x.len (by decide), ⟨hf, hh []⟩, x.gd, fun n hn h20 => ?_, x.kk []⟩, hk⟩
 simp only [e0, List.mem_cons, List.not_mem_nil, or_false] at hn
 rcases hn with rfl | rfl | rfl <;> exact absurd h20 (by decide)
theorem q0_ok : QOk ordC [] [none, some e0] := ⟨by decide, by decide, fun s hs => by
  simp only [List.mem_cons, List.not_mem_nil, or_false] at hs
  rcases hs with rfl | rfl
  ·intro e h; cases h
  ·intro e h; cases h; exact e0_ety, fun k s hs => by
  match k, hs with
  | 0, hs => cases hs; simp
  | 1, hs => cases hs; simp
  | k + 2, hs => simp at hs⟩
theorem parseAtQ_t [Gls] (H : List AObj) : ACalls pr 34 [.list false 4 kTk, .int .i64 0] H (fun r H' => r = .tuple [.list false 6 (mC spC [none, some e0]), .int .i64 7, .int .i64 0] ∧ H' = H) := by
 refine ACalls.pure rfl (acalls_of_body k34.has ?_)
 repeat' (first | refine lpS _ _ _ _ ?_ | refine lpE _ _ _ _ ?_ | ((conv => whnf); first | exact pub3 (.closed _ rfl) (.closed _ rfl) (.closed _ rfl) | refine usQ rfl (tval_t _) ?_ | refine usH rfl (query0 (id := 0) rfl) ?_ | refine usQ rfl (qvalid_t false q0_ok _) ?_ | refine recT (by decide) ?_ | refine recF (by decide) ?_ | refine And.intro (by first | exact rfl | decide | omega | ((conv => whnf); exact ⟨by decide, rfl⟩)) ?_ | refine lpU _ _ _ _ 60 ?_))
theorem parse_t [Gls] (H : List AObj) : ACalls pr 25 [.str kTx] H (fun r H' => r = .tuple [.list false 6 (mC spC [none, some e0]), .int .i64 0, .int .i64 0] ∧ H' = H) := by
 refine ACalls.pure rfl (acalls_of_body k25.has ?_)
 repeat' (first | refine lpS _ _ _ _ ?_ | refine lpE _ _ _ _ ?_ | ((conv => whnf); first | exact pub3 (.closed _ rfl) (.closed _ rfl) (.closed _ rfl) | refine usQ rfl (split_t _) ?_ | refine usQ rfl (parseAtQ_t _) ?_ | refine recT (by decide) ?_ | refine recF (by decide) ?_ | refine And.intro (by first | exact rfl | decide | omega | ((conv => whnf); exact ⟨by decide, rfl⟩)) ?_ | refine lpU _ _ _ _ 60 ?_))
def kRow (i : Int) : List V := [⟨2, i, bs []⟩, ⟨3, 0, bs [97]⟩, ⟨4, 0, bs []⟩, ⟨0, 0, bs []⟩]
def kEnt (i : Int) : Ent := ⟨kRow i, 1⟩
theorem zs0_ok : ZsOk [] := ⟨by decide, fun z hz => by cases hz⟩
theorem kev [Gls] (i : Int) (hi : i = 0 ∨ i = 1) : evE [] (mpR (ordC.zip (kRow i))) e0 = boV (decide (valCmp ⟨2, 0, bs []⟩ ⟨2, i, bs []⟩ < 0)) := by
 obtain ⟨m, hm⟩ : ∃ m, m = mpR (ordC.zip (kRow i)) := ⟨_, rfl⟩
 have h1 : evN [] m cN0 [] = ⟨2, 0, bs []⟩ := by
  rw [evN, if_neg (by decide), if_neg (by rintro ⟨h, _⟩; cases h)]
  exact (spV_t cN0 [] rfl).2.2.2 rfl
 have h2 : evN [] m (colN (bs [105, 100])) [] = ⟨2, i, bs []⟩ := by
  rw [evN, if_pos (show (colN (bs [105, 100])).op = 1 from rfl), hm]
  rcases hi with rfl | rfl <;> rfl
 have h3 : evN [] m (opN 12) [⟨2, 0, bs []⟩, ⟨2, i, bs []⟩] = boV (decide (valCmp ⟨2, 0, bs []⟩ ⟨2, i, bs []⟩ < 0)) := by
  rw [evN, if_neg (by decide), if_pos (by rcases hi with rfl | rfl <;> exact ⟨rfl, rfl⟩)]
  refine (apV_t zs0_ok (opN_gd (by decide)) rfl (fun v hv => ?_) (fun h => by cases h) rfl (by decide)).2.2 rfl _ _ rfl
  simp only [List.mem_cons, List.not_mem_nil, or_false] at hv
  rcases hv with rfl | rfl
  ·exact valid64 rfl
  ·rcases hi with rfl | rfl <;> exact valid64 (by decide)
 have l1 : Lv (fV [] m) [cN0] ⟨2, 0, bs []⟩ := .n0 rfl (by rw [fV, h1])
 have l2 : Lv (fV [] m) [colN (bs [105, 100])] ⟨2, i, bs []⟩ := .n0 rfl (by rw [fV, h2])
 have l3 : Lv (fV [] m) ([cN0] ++ [colN (bs [105, 100])] ++ [opN 12]) _ := .n2 l1 l2 rfl (by rw [fV, h3])
 rw [← hm]
 unfold evE
 rw [show e0 = [cN0] ++ [colN (bs [105, 100])] ++ [opN 12] from rfl, l3 []]
 rfl
theorem kRows [Gls] : rwQ ordC [] [kEnt 0, kEnt 1] [none, some e0] = [kEnt 1] := by
 have h0 : kpB ordC [] e0 (kEnt 0) = false := by
  unfold kpB
  rw [show (kEnt 0).row = kRow 0 from rfl, kev 0 (.inl rfl)]
  decide
 have h1 : kpB ordC [] e0 (kEnt 1) = true := by
  unfold kpB
  rw [show (kEnt 1).row = kRow 1 from rfl, kev 1 (.inr rfl)]
  decide
 simp only [rwQ, kpF, List.filter, h0, h1]
end Go.AW

