/-
  An abstract machine over the model, the code of functions on it, and their contracts: what the claim needs.
  No condition: definitions, plain laws, contracts over any program that has this code.
-/
import Derived.Test.YtdffiibjghcobaaGreatZ6
set_option linter.all false
namespace Go.AW
variable [Draws]
attribute [local irreducible] ACalls
theorem half_i (s : Int) (h0 : 0 ≤ s) (h1 : s ≤ 4000000) : IntKind.i64.wrap ((IntKind.u64.wrap (IntKind.i64.wrap s)).fdiv (2 ^ (min (1 : Int).toNat IntKind.u64.bits))) = s / 2 := by
 rw [wrapI s (by omega) (by omega)]
 have e : IntKind.u64.wrap s = s := by
  unfold IntKind.wrap
  simp [IntKind.bits, IntKind.signed]
  omega
 have e2 : (2 : Int) ^ (min (1 : Int).toNat IntKind.u64.bits) = 2 := by decide
 rw [e, e2, Int.fdiv_eq_ediv_of_nonneg _ (by decide), wrapI _ (by omega) (by omega)]

theorem get_app {α : Type} {L X R D : List α} (hD : D = L ++ X ++ R) {k : Nat} {x : α} (h : X[k]? = some x) {n : Nat} (hn : n = L.length + k) : D[n]? = some x := by
 have hk := (List.getElem?_eq_some_iff.1 h).1
 subst hD hn
 rw [List.append_assoc, List.getElem?_append_right (by omega), show L.length + k - L.length = k from by omega, List.getElem?_append_left hk, h]

section
variable {P : Program} {H : List AObj} {i0 : Nat} {g : FuncId} {caps : List AVal} {ok : Ver → Prop} {cmp : Ver → Ver → Int}
def SymC (P : Program) (f : FuncId) (H : List AObj) (i0 : Nat) (g : FuncId) (caps : List AVal) (ok : Ver → Prop) (cmp : Ver → Ver → Int) (N : Nat) : Prop :=
 ∀ (L X Y R D : List Ver) (a m b : Int) (d : Nat), X.length + Y.length ≤ N → X ≠ [] → Y ≠ [] → (∀ x ∈ X, ok x) → (∀ x ∈ Y, ok x) → AscO cmp X → AscO cmp Y → D = L ++ X ++ Y ++ R → a = L.length → m = L.length + X.length → b = L.length + X.length + Y.length → d = D.length → d ≤ 1000000 →
  ACalls P f [.sl i0 d 0 d, .int .i64 a, .int .i64 m, .int .i64 b, .fn g caps] (H.set i0 (vO D)) (fun r H' => r = .tuple [] ∧ ∃ Z : List Ver, Z.Perm (X ++ Y) ∧ AscO cmp Z ∧ H' = H.set i0 (vO (L ++ Z ++ R)))

set_option maxHeartbeats 1000000 in
set_option maxRecDepth 20000 in
theorem sym_one (F : F_z1j P) (hi0 : i0 < H.length) (hg : CmpV P g caps ok cmp) (O : Orders cmp) (L Y R : List Ver) (x : Ver) (hY : Y ≠ []) (hx : ok x) (hok : ∀ y ∈ Y, ok y) (hs : AscO cmp Y) {a m b : Int} {d : Nat} {D : List Ver} (hD : D = L ++ x :: (Y ++ R))
  (ha : a = L.length) (hm : m = L.length + 1) (hb : b = L.length + 1 + Y.length) (hd : d = D.length) (hmax : d ≤ 1000000) :
  ACalls P F.id [.sl i0 d 0 d, .int .i64 a, .int .i64 m, .int .i64 b, .fn g caps] (H.set i0 (vO D)) (fun r H' => r = .tuple [] ∧ ∃ Z : List Ver, Z.Perm (x :: Y) ∧ AscO cmp Z ∧ H' = H.set i0 (vO (L ++ Z ++ R))) := by
 have hob : ∀ o : AObj, (H.set i0 o)[i0]? = some o := hset hi0
 have hdl := congrArg List.length hD
 simp only [List.length_append, List.length_cons] at hdl
 have tl : Nat.beq d (vsC D).length = true := by rw [vsC_length, ← hd]; exact Nat.beq_refl _
 refine acalls_of_body F.has ?_
 (conv => whnf); refine recT ((by rw [wrapI _ (by omega) (by omega)]; simp; omega)) ?_
 conv => whnf
 refine ⟨fun q ρ H1 => ∃ p r : Nat, p + q = r ∧ r ≤ Y.length ∧ (∀ k y, k < p → Y[k]? = some y → 0 ≤ cmp x y) ∧ (∀ k y, r ≤ k → Y[k]? = some y → 0 ≤ cmp y x) ∧ H1 = H.set i0 (vO D) ∧ Sv 220 [(0, .sl i0 d 0 d), (1, .int .i64 a), (4, .fn g caps), (10, .int .i64 (m + p)), (11, .int .i64 (m + r))] ρ, Y.length, [], ?_, ?_⟩
 ·refine ⟨0, Y.length, by omega, by omega, fun k y h => by omega, fun k y h h2 => ?_, rfl, Sv.intro rfl ⟨rfl, rfl, rfl, intEq (by omega), intEq (by omega), trivial⟩⟩
  have := (List.getElem?_eq_some_iff.1 h2).1
  omega
 rintro q ρ H1 ⟨p, r, hpq, hr, h1, h2, rfl, c, rfl⟩
 (conv => whnf); refine recA (fun hlt => ?_) (fun hlt => ?_)
 ·simp at hlt
  have eh := half_i (m + p + (m + r)) (by omega) (by omega)
  obtain ⟨h, hh⟩ : ∃ h : Nat, (m + (p : Int) + (m + r)) / 2 = m + h := ⟨((m + (p : Int) + (m + r)) / 2 - m).toNat, by omega⟩
  have hhp : p ≤ h ∧ h < r := by omega
  rw [hh] at eh
  have hy : Y[h]? = some Y[h] := List.getElem?_eq_getElem (by omega)
  have hyo := hok Y[h] (List.getElem_mem (by omega))
  generalize Y[h] = y at hy hyo
  have gy : (vsC D)[0 + (m + (h : Int)).toNat]? = some (verC y) := vsC_at (get_app (L := L ++ [x]) (X := Y) (R := R) (by rw [hD]; simp) hy (by simp; omega))
  have gx : (vsC D)[0 + a.toNat]? = some (verC x) := vsC_at (get_app (L := L) (X := [x]) (R := Y ++ R) (k := 0) (by rw [hD]; simp) rfl (by omega))
  rw [← eh] at gy
  (conv => whnf); refine And.intro (by decide) ?_
  (conv => whnf); refine recO (hob _) ?_
  (conv => whnf); refine recT (tl) ?_
  (conv => whnf); refine And.intro (by rw [eh]; omega) ?_
  (conv => whnf); refine recO (hob _) ?_
  (conv => whnf); refine recT (tl) ?_
  (conv => whnf); refine recO (gy) ?_
  (conv => whnf); refine recO (hob _) ?_
  (conv => whnf); refine recT (tl) ?_
  (conv => whnf); refine And.intro (by omega) ?_
  (conv => whnf); refine recO (hob _) ?_
  (conv => whnf); refine recT (tl) ?_
  (conv => whnf); refine recO (gx) ?_
  (conv => whnf); refine ⟨_, hg y x hyo hx _, ?_⟩
  (conv => whnf); refine recA (fun hc => ?_) (fun hc => ?_)
  ·simp at hc
   conv => whnf
   refine ⟨r - (h + 1), by omega, Gp.keep rfl ?_ fun ρ1 hh => ⟨h + 1, r, by omega, hr, ?_, h2, rfl, hh⟩⟩
   ·exact ⟨rfl, rfl, rfl, intEq (by rw [eh, wrapI _ (by omega) (by omega)]; omega), rfl, trivial⟩
   ·intro k z hk hz
    have hxy := O.anti _ _ hc
    rcases Nat.lt_or_ge k h with hkh | hkh
    ·exact O.trans _ _ _ (asc_get hs hkh hz hy) hxy
    ·have : k = h := by omega
     subst this
     rw [hy] at hz; cases hz; exact hxy
  ·simp at hc
   conv => whnf
   refine ⟨h - p, by omega, Gp.keep rfl ?_ fun ρ1 hh => ⟨p, h, by omega, by omega, h1, ?_, rfl, hh⟩⟩
   ·exact ⟨rfl, rfl, rfl, rfl, intEq eh, trivial⟩
   ·intro k z hk hz
    rcases Nat.lt_or_ge h k with hkh | hkh
    ·exact O.trans _ _ _ hc (asc_get hs hkh hy hz)
    ·have : k = h := by omega
     subst this
     rw [hy] at hz; cases hz; exact hc
 ·simp at hlt
  have hpr : r = p := by omega
  subst hpr
  have e1 : IntKind.i64.wrap (m + (r : Int) - 1) = a + r := by rw [wrapI _ (by omega) (by omega)]; omega
  conv => whnf
  refine ⟨fun q ρ H1 => ∃ t : Nat, t + q = r ∧ H1 = H.set i0 (vO (L ++ Y.take t ++ x :: (Y.drop t ++ R))) ∧ Sv 220 [(0, .sl i0 d 0 d), (10, .int .i64 (m + r)), (13, .int .i64 (a + t))] ρ, r, [], ?_, ?_⟩
  ·refine ⟨0, by omega, by rw [hD]; simp, Sv.intro rfl ⟨rfl, rfl, intEq (by omega), trivial⟩⟩
  rintro q ρ H1 ⟨t, htq, rfl, c, rfl⟩
  (conv => whnf); refine recA (fun hk => ?_) (fun hk => ?_)
  ·replace hk := of_decide_eq_true hk
   rw [e1] at hk
   have hy : Y[t]? = some Y[t] := List.getElem?_eq_getElem (by omega)
   generalize Y[t] = y at hy
   have hDe : L ++ Y.take t ++ x :: (Y.drop t ++ R) = (L ++ Y.take t) ++ x :: ([] ++ y :: (Y.drop (t + 1) ++ R)) := by rw [drop_cons hy]; rfl
   have ek : IntKind.i64.wrap (a + (t : Int) + 1) = a + ((t + 1 : Nat) : Int) := by rw [wrapI _ (by omega) (by omega)]; omega
   obtain ⟨tl, bA, bB, xa, xb, s1, tl2, x2, s2⟩ := swIJ (H := H) (i0 := i0) (p := a + (t : Int)) (q := IntKind.i64.wrap (a + (t : Int) + 1)) (d := d) hDe (by simp only [List.length_append, List.length_take]; omega) (by rw [ek]; simp only [List.length_append, List.length_take, List.length_nil]; omega) (by simp only [List.length_append, List.length_take, List.length_cons, List.length_drop]; omega)
   (conv => whnf); refine recO (hob _) ?_
   (conv => whnf); refine recT (tl) ?_
   (conv => whnf); refine And.intro (bB) ?_
   (conv => whnf); refine recO (hob _) ?_
   (conv => whnf); refine recT (tl) ?_
   (conv => whnf); refine recO (xb) ?_
   (conv => whnf); refine recO (hob _) ?_
   (conv => whnf); refine recT (tl) ?_
   (conv => whnf); refine And.intro (bA) ?_
   (conv => whnf); refine recO (hob _) ?_
   (conv => whnf); refine recT (tl) ?_
   (conv => whnf); refine recO (xa) ?_
   (conv => whnf); refine recO (hob _) ?_
   (conv => whnf); refine recT (tl) ?_
   (conv => whnf); refine And.intro (bA) ?_
   (conv => whnf); refine recO (hob _) ?_
   (conv => whnf); refine recT (tl) ?_
   (conv => whnf); refine recO (xa) ?_
   conv => whnf
   refine setOv s1 ?_
   (conv => whnf); refine recO (hob _) ?_
   (conv => whnf); refine recT (tl2) ?_
   (conv => whnf); refine And.intro (bB) ?_
   (conv => whnf); refine recO (hob _) ?_
   (conv => whnf); refine recT (tl2) ?_
   (conv => whnf); refine recO (x2) ?_
   conv => whnf
   refine setOv s2 ?_
   conv => whnf
   refine ⟨q - 1, by omega, Gp.keep rfl ?_ fun ρ1 hh => ⟨t + 1, by omega, ?_, hh⟩⟩
   ·exact ⟨rfl, rfl, intEq ek, trivial⟩
   ·rw [take_snoc hy]; simp
  ·replace hk := of_decide_eq_false hk
   rw [e1] at hk
   have htr : t = r := by omega
   subst htr
   conv => whnf
   exact ⟨rfl, _, perm_ins t, asc_ins hs h1 h2, by simp⟩

set_option maxHeartbeats 1000000 in
set_option maxRecDepth 20000 in
theorem sym_last (F : F_z1j P) (hi0 : i0 < H.length) (hg : CmpV P g caps ok cmp) (O : Orders cmp) (L X R : List Ver) (y : Ver) (hX : 2 ≤ X.length) (hy : ok y) (hok : ∀ x ∈ X, ok x) (hs : AscO cmp X) {a m b : Int} {d : Nat} {D : List Ver} (hD : D = L ++ X ++ y :: R)
  (ha : a = L.length) (hm : m = L.length + X.length) (hb : b = L.length + X.length + 1) (hd : d = D.length) (hmax : d ≤ 1000000) :
  ACalls P F.id [.sl i0 d 0 d, .int .i64 a, .int .i64 m, .int .i64 b, .fn g caps] (H.set i0 (vO D)) (fun r H' => r = .tuple [] ∧ ∃ Z : List Ver, Z.Perm (X ++ [y]) ∧ AscO cmp Z ∧ H' = H.set i0 (vO (L ++ Z ++ R))) := by
 have hob : ∀ o : AObj, (H.set i0 o)[i0]? = some o := hset hi0
 have hdl := congrArg List.length hD
 simp only [List.length_append, List.length_cons] at hdl
 have tl : Nat.beq d (vsC D).length = true := by rw [vsC_length, ← hd]; exact Nat.beq_refl _
 refine acalls_of_body F.has ?_
 (conv => whnf); refine recF ((by rw [wrapI _ (by omega) (by omega)]; simp; omega)) ?_
 (conv => whnf); refine recT ((by rw [wrapI _ (by omega) (by omega)]; simp; omega)) ?_
 conv => whnf
 refine ⟨fun q ρ H1 => ∃ p r : Nat, p + q = r ∧ r ≤ X.length ∧ (∀ k x, k < p → X[k]? = some x → 0 ≤ cmp y x) ∧ (∀ k x, r ≤ k → X[k]? = some x → 0 ≤ cmp x y) ∧ H1 = H.set i0 (vO D) ∧ Sv 220 [(0, .sl i0 d 0 d), (2, .int .i64 m), (4, .fn g caps), (14, .int .i64 (a + p)), (15, .int .i64 (a + r))] ρ, X.length, [], ?_, ?_⟩
 ·refine ⟨0, X.length, by omega, by omega, fun k y h => by omega, fun k y h h2 => ?_, rfl, Sv.intro rfl ⟨rfl, rfl, rfl, intEq (by omega), intEq (by omega), trivial⟩⟩
  have := (List.getElem?_eq_some_iff.1 h2).1
  omega
 rintro q ρ H1 ⟨p, r, hpq, hr, h1, h2, rfl, c, rfl⟩
 (conv => whnf); refine recA (fun hlt => ?_) (fun hlt => ?_)
 ·simp at hlt
  have eh := half_i (a + p + (a + r)) (by omega) (by omega)
  obtain ⟨h, hh⟩ : ∃ h : Nat, (a + (p : Int) + (a + r)) / 2 = a + h := ⟨((a + (p : Int) + (a + r)) / 2 - a).toNat, by omega⟩
  have hhp : p ≤ h ∧ h < r := by omega
  rw [hh] at eh
  have hx : X[h]? = some X[h] := List.getElem?_eq_getElem (by omega)
  have hxo := hok X[h] (List.getElem_mem (by omega))
  generalize X[h] = x at hx hxo
  have gx : (vsC D)[0 + (a + (h : Int)).toNat]? = some (verC x) := vsC_at (get_app (L := L) (X := X) (R := y :: R) hD hx (by omega))
  have gy : (vsC D)[0 + m.toNat]? = some (verC y) := vsC_at (get_app (L := L ++ X) (X := [y]) (R := R) (k := 0) (by rw [hD]; simp) rfl (by simp only [List.length_append]; omega))
  rw [← eh] at gx
  (conv => whnf); refine And.intro (by decide) ?_
  (conv => whnf); refine recO (hob _) ?_
  (conv => whnf); refine recT (tl) ?_
  (conv => whnf); refine And.intro (by omega) ?_
  (conv => whnf); refine recO (hob _) ?_
  (conv => whnf); refine recT (tl) ?_
  (conv => whnf); refine recO (gy) ?_
  (conv => whnf); refine recO (hob _) ?_
  (conv => whnf); refine recT (tl) ?_
  (conv => whnf); refine And.intro (by rw [eh]; omega) ?_
  (conv => whnf); refine recO (hob _) ?_
  (conv => whnf); refine recT (tl) ?_
  (conv => whnf); refine recO (gx) ?_
  (conv => whnf); refine ⟨_, hg y x hy hxo _, ?_⟩
  (conv => whnf); refine recA (fun hc => ?_) (fun hc => ?_)
  ·simp at hc
   conv => whnf
   refine ⟨r - (h + 1), by omega, Gp.keep rfl ?_ fun ρ1 hh => ⟨h + 1, r, by omega, hr, ?_, h2, rfl, hh⟩⟩
   ·exact ⟨rfl, rfl, rfl, intEq (by rw [eh, wrapI _ (by omega) (by omega)]; omega), rfl, trivial⟩
   ·intro k z hk hz
    rcases Nat.lt_or_ge k h with hkh | hkh
    ·exact O.trans _ _ _ (asc_get hs hkh hz hx) hc
    ·have : k = h := by omega
     subst this
     rw [hx] at hz; cases hz; exact hc
  ·simp at hc
   conv => whnf
   refine ⟨h - p, by omega, Gp.keep rfl ?_ fun ρ1 hh => ⟨p, h, by omega, by omega, h1, ?_, rfl, hh⟩⟩
   ·exact ⟨rfl, rfl, rfl, rfl, intEq eh, trivial⟩
   ·intro k z hk hz
    have hyx := O.anti _ _ hc
    rcases Nat.lt_or_ge h k with hkh | hkh
    ·exact O.trans _ _ _ hyx (asc_get hs hkh hx hz)
    ·have : k = h := by omega
     subst this
     rw [hx] at hz; cases hz; exact hyx
 ·simp at hlt
  have hpr : r = p := by omega
  subst hpr
  conv => whnf
  refine ⟨fun q ρ H1 => ∃ t : Nat, t = r + q ∧ t ≤ X.length ∧ H1 = H.set i0 (vO (L ++ X.take t ++ y :: (X.drop t ++ R))) ∧ Sv 220 [(0, .sl i0 d 0 d), (14, .int .i64 (a + r)), (17, .int .i64 (a + t))] ρ, X.length - r, [], ?_, ?_⟩
  ·refine ⟨X.length, by omega, Nat.le_refl _, by rw [hD]; simp, Sv.intro rfl ⟨rfl, rfl, intEq (by omega), trivial⟩⟩
  rintro q ρ H1 ⟨t, htq, htx, rfl, c, rfl⟩
  (conv => whnf); refine recA (fun hk => ?_) (fun hk => ?_)
  ·simp at hk
   obtain ⟨t, rfl⟩ : ∃ t', t = t' + 1 := ⟨t - 1, by omega⟩
   have hx : X[t]? = some X[t] := List.getElem?_eq_getElem (by omega)
   generalize X[t] = x at hx
   have hDe : L ++ X.take (t + 1) ++ y :: (X.drop (t + 1) ++ R) = (L ++ X.take t) ++ x :: ([] ++ y :: (X.drop (t + 1) ++ R)) := by rw [take_snoc hx]; simp
   have ek : IntKind.i64.wrap (a + ((t + 1 : Nat) : Int) - 1) = a + (t : Int) := by rw [wrapI _ (by omega) (by omega)]; omega
   obtain ⟨tl, bA, bB, xa, xb, s1, tl2, x2, s2⟩ := swJI (H := H) (i0 := i0) (p := IntKind.i64.wrap (a + ((t + 1 : Nat) : Int) - 1)) (q := a + ((t + 1 : Nat) : Int)) (d := d) hDe (by rw [ek]; simp only [List.length_append, List.length_take]; omega) (by simp only [List.length_append, List.length_take, List.length_nil]; omega) (by simp only [List.length_append, List.length_take, List.length_cons, List.length_drop]; omega)
   (conv => whnf); refine recO (hob _) ?_
   (conv => whnf); refine recT (tl) ?_
   (conv => whnf); refine And.intro (bA) ?_
   (conv => whnf); refine recO (hob _) ?_
   (conv => whnf); refine recT (tl) ?_
   (conv => whnf); refine recO (xa) ?_
   (conv => whnf); refine recO (hob _) ?_
   (conv => whnf); refine recT (tl) ?_
   (conv => whnf); refine And.intro (bB) ?_
   (conv => whnf); refine recO (hob _) ?_
   (conv => whnf); refine recT (tl) ?_
   (conv => whnf); refine recO (xb) ?_
   (conv => whnf); refine recO (hob _) ?_
   (conv => whnf); refine recT (tl) ?_
   (conv => whnf); refine And.intro (bB) ?_
   (conv => whnf); refine recO (hob _) ?_
   (conv => whnf); refine recT (tl) ?_
   (conv => whnf); refine recO (xb) ?_
   conv => whnf
   refine setOv s1 ?_
   (conv => whnf); refine recO (hob _) ?_
   (conv => whnf); refine recT (tl2) ?_
   (conv => whnf); refine And.intro (bA) ?_
   (conv => whnf); refine recO (hob _) ?_
   (conv => whnf); refine recT (tl2) ?_
   (conv => whnf); refine recO (x2) ?_
   conv => whnf
   refine setOv s2 ?_
   conv => whnf
   refine ⟨q - 1, by omega, Gp.keep rfl ?_ fun ρ1 hh => ⟨t, by omega, by omega, ?_, hh⟩⟩
   ·exact ⟨rfl, rfl, intEq ek, trivial⟩
   ·rw [drop_cons hx]; simp
  ·simp at hk
   have htr : t = r := by omega
   subst htr
   conv => whnf
   exact ⟨rfl, _, (perm_ins t).trans (List.perm_append_comm (l₁ := [y])), asc_ins hs h1 h2, by simp⟩

end
end Go.AW

namespace Go.AW
variable [Draws]
attribute [local irreducible] ACalls
section
variable {P : Program} {H : List AObj} {i0 : Nat} {g : FuncId} {caps : List AVal} {ok : Ver → Prop} {cmp : Ver → Ver → Int}
def Ble (cmp : Ver → Ver → Int) (X Y : List Ver) (i j : Int) : Prop := ∃ x y, X[i.toNat]? = some x ∧ Y[j.toNat]? = some y ∧ 0 ≤ cmp y x

set_option maxHeartbeats 4000000 in
set_option maxRecDepth 20000 in
theorem sym_step (F : F_z1j P) (hi0 : i0 < H.length) (hg : CmpV P g caps ok cmp) (O : Orders cmp) (N : Nat) (ih : SymC P F.id H i0 g caps ok cmp N)
  (L X Y R D : List Ver) (a m b : Int) (d : Nat) (hN : X.length + Y.length = N + 1) (hX2 : 2 ≤ X.length) (hY2 : 2 ≤ Y.length) (hokX : ∀ x ∈ X, ok x) (hokY : ∀ x ∈ Y, ok x) (hsX : AscO cmp X) (hsY : AscO cmp Y) (hD : D = L ++ X ++ Y ++ R) (ha : a = L.length) (hm : m = L.length + X.length) (hb : b = L.length + X.length + Y.length) (hd : d = D.length) (hmax : d ≤ 1000000) :
  ACalls P F.id [.sl i0 d 0 d, .int .i64 a, .int .i64 m, .int .i64 b, .fn g caps] (H.set i0 (vO D)) (fun r H' => r = .tuple [] ∧ ∃ Z : List Ver, Z.Perm (X ++ Y) ∧ AscO cmp Z ∧ H' = H.set i0 (vO (L ++ Z ++ R))) := by
 have hob : ∀ o : AObj, (H.set i0 o)[i0]? = some o := hset hi0
 have hdl := congrArg List.length hD
 simp only [List.length_append] at hdl
 have tl : Nat.beq d (vsC D).length = true := by rw [vsC_length, ← hd]; exact Nat.beq_refl _
 have emid := half_i (a + b) (by omega) (by omega)
 obtain ⟨mid, hmid⟩ : ∃ mid : Int, mid = (a + b) / 2 := ⟨_, rfl⟩
 rw [← hmid] at emid
 obtain ⟨n, hn⟩ : ∃ n : Int, n = mid + m := ⟨_, rfl⟩
 have en : IntKind.i64.wrap (mid + m) = n := by rw [wrapI _ (by omega) (by omega), hn]
 have enb : IntKind.i64.wrap (n - b) = n - b := wrapI _ (by omega) (by omega)
 have ep : IntKind.i64.wrap (n - 1) = n - 1 := wrapI _ (by omega) (by omega)
 
 have gX : ∀ (i : Int), a ≤ i → i < m → ∃ x, X[(i - a).toNat]? = some x ∧ ok x ∧ (vsC D)[0 + i.toNat]? = some (verC x) := fun i h1 h2 => by
  have hx : X[(i - a).toNat]? = some X[(i - a).toNat] := List.getElem?_eq_getElem (by omega)
  exact ⟨_, hx, hokX _ (List.getElem_mem _), vsC_at (get_app (L := L) (X := X) (R := Y ++ R) (by rw [hD]; simp) hx (by omega))⟩
 have gY : ∀ (i : Int), m ≤ i → i < b → ∃ x, Y[(i - m).toNat]? = some x ∧ ok x ∧ (vsC D)[0 + i.toNat]? = some (verC x) := fun i h1 h2 => by
  have hx : Y[(i - m).toNat]? = some Y[(i - m).toNat] := List.getElem?_eq_getElem (by omega)
  exact ⟨_, hx, hokY _ (List.getElem_mem _), vsC_at (get_app (L := L ++ X) (X := Y) (R := R) hD hx (by simp only [List.length_append]; omega))⟩
 refine acalls_of_body F.has ?_
 (conv => whnf); refine recF ((by rw [wrapI _ (by omega) (by omega)]; simp; omega)) ?_
 (conv => whnf); refine recF ((by rw [wrapI _ (by omega) (by omega)]; simp; omega)) ?_
 (conv => whnf); refine And.intro (by decide) ?_
 have key : ∀ s0 r0 : Int, (s0 = a ∧ r0 = m ∧ m ≤ mid) ∨ (s0 = n - b ∧ r0 = mid ∧ mid < m) → s0 ≤ r0 ∧ a ≤ s0 ∧ r0 ≤ m ∧ (∀ i, s0 ≤ i → i < r0 → m ≤ n - 1 - i ∧ n - 1 - i < b) := by
  intro s0 r0 h
  rcases h with ⟨rfl, rfl, h⟩ | ⟨rfl, rfl, h⟩ <;> refine ⟨by omega, by omega, by omega, fun i h1 h2 => by omega⟩
 (conv => whnf)
 rw [emid, en]
 (conv => whnf); refine recA (fun hmm => ?_) (fun hmm => ?_)
 ·replace hmm := of_decide_eq_true hmm
  have hk : (n - b = a ∧ mid = m ∧ m ≤ mid) ∨ (n - b = n - b ∧ mid = mid ∧ mid < m) := .inr ⟨rfl, rfl, hmm⟩
  (conv => whnf)
  rw [enb]
  obtain ⟨k1, k2, k3, k4⟩ := key ((n - b)) (mid) hk
  conv => whnf
  rw [ep]
  refine ⟨fun q ρ H1 => ∃ st r : Int, (n - b) ≤ st ∧ st ≤ r ∧ r ≤ mid ∧ (r - st).toNat = q ∧ (st = (n - b) ∨ Ble cmp X Y (st - 1 - a) (n - st - m)) ∧ (r = mid ∨ Ble cmp Y X (n - 1 - r - m) (r - a)) ∧ H1 = H.set i0 (vO D) ∧
   Sv 220 [(0, .sl i0 d 0 d), (1, .int .i64 a), (2, .int .i64 m), (3, .int .i64 b), (4, .fn g caps), (18, .int .i64 mid), (19, .int .i64 n), (20, .int .i64 st), (21, .int .i64 r), (22, .int .i64 (n - 1))] ρ, ((mid) - ((n - b))).toNat, [], ?_, ?_⟩
  ·exact ⟨(n - b), mid, Int.le_refl _, k1, Int.le_refl _, rfl, .inl rfl, .inl rfl, rfl, Sv.intro rfl ⟨rfl, rfl, rfl, rfl, rfl, rfl, rfl, rfl, rfl, rfl, trivial⟩⟩
  rintro q0 ρ H1 ⟨st, r, g1, g2, g3, g4, b1, b2, rfl, c, rfl⟩
  (conv => whnf); refine recA (fun hlt => ?_) (fun hlt => ?_)
  ·simp at hlt
   have eh := half_i (st + r) (by omega) (by omega)
   obtain ⟨c, hc⟩ : ∃ c : Int, c = (st + r) / 2 := ⟨_, rfl⟩
   rw [← hc] at eh
   have epc : IntKind.i64.wrap (n - 1 - c) = n - 1 - c := wrapI _ (by omega) (by omega)
   have ec1 : IntKind.i64.wrap (c + 1) = c + 1 := wrapI _ (by omega) (by omega)
   obtain ⟨j1, j2⟩ := k4 c (by omega) (by omega)
   obtain ⟨x, x1, x2, x3⟩ := gX c (by omega) (by omega)
   obtain ⟨y, y1, y2, y3⟩ := gY (n - 1 - c) j1 j2
   (conv => whnf); refine And.intro (by decide) ?_
   (conv => whnf)
   rw [eh, epc]
   (conv => whnf); refine recO (hob _) ?_
   (conv => whnf); refine recT (tl) ?_
   (conv => whnf); refine And.intro (by omega) ?_
   (conv => whnf); refine recO (hob _) ?_
   (conv => whnf); refine recT (tl) ?_
   (conv => whnf); refine recO (y3) ?_
   (conv => whnf); refine recO (hob _) ?_
   (conv => whnf); refine recT (tl) ?_
   (conv => whnf); refine And.intro (by omega) ?_
   (conv => whnf); refine recO (hob _) ?_
   (conv => whnf); refine recT (tl) ?_
   (conv => whnf); refine recO (x3) ?_
   (conv => whnf); refine ⟨_, hg y x y2 x2 _, ?_⟩
   (conv => whnf); refine recA (fun hcc => ?_) (fun hcc => ?_)
   ·simp at hcc
    conv => whnf
    refine ⟨(r - (c + 1)).toNat, by omega, Gp.keep rfl ?_ fun ρ1 hh => ⟨c + 1, r, by omega, by omega, g3, rfl, .inr ⟨x, y, ?_, ?_, hcc⟩, b2, rfl, hh⟩⟩
    ·exact ⟨rfl, rfl, rfl, rfl, rfl, rfl, rfl, intEq ec1, rfl, rfl, trivial⟩
    ·rw [show c + 1 - 1 - a = c - a from by omega]; exact x1
    ·rw [show n - (c + 1) - m = n - 1 - c - m from by omega]; exact y1
   ·simp at hcc
    conv => whnf
    refine ⟨(c - st).toNat, by omega, Gp.keep rfl ?_ fun ρ1 hh => ⟨st, c, g1, by omega, by omega, rfl, b1, .inr ⟨y, x, y1, x1, O.anti _ _ hcc⟩, rfl, hh⟩⟩
    exact ⟨rfl, rfl, rfl, rfl, rfl, rfl, rfl, rfl, rfl, rfl, trivial⟩
  ·simp at hlt
   have hrs : st = r := by omega
   subst hrs
   have een : IntKind.i64.wrap (n - st) = n - st := wrapI _ (by omega) (by omega)
   obtain ⟨p, hp⟩ : ∃ p : Nat, st = a + p := ⟨(st - a).toNat, by omega⟩
   obtain ⟨q, hq⟩ : ∃ q : Nat, n - st = m + q := ⟨(n - st - m).toNat, by omega⟩
   have hpX : p ≤ X.length := by omega
   have hqY : q ≤ Y.length := by omega
   have hq1 : p = 0 ∨ Y.length ≤ q ∨ ∃ x y, X[p - 1]? = some x ∧ Y[q]? = some y ∧ 0 ≤ cmp y x := by
    rcases b1 with b1 | ⟨x, y, c1, c2, c3⟩
    ·rcases hk with ⟨v1, v2, v3⟩ | ⟨v1, v2, v3⟩
     ·exact .inl (by omega)
     ·exact .inr (.inl (by omega))
    ·by_cases hp0 : p = 0
     ·exact .inl hp0
     ·rw [show (st - 1 - a).toNat = p - 1 from by omega] at c1
      rw [show (n - st - m).toNat = q from by omega] at c2
      exact .inr (.inr ⟨x, y, c1, c2, c3⟩)
   have hq2 : X.length ≤ p ∨ q = 0 ∨ ∃ x y, X[p]? = some x ∧ Y[q - 1]? = some y ∧ 0 ≤ cmp x y := by
    rcases b2 with b2 | ⟨y, x, c2, c1, c3⟩
    ·rcases hk with ⟨v1, v2, v3⟩ | ⟨v1, v2, v3⟩
     ·exact .inl (by omega)
     ·exact .inr (.inl (by omega))
    ·by_cases hq0 : q = 0
     ·exact .inr (.inl hq0)
     ·rw [show (st - a).toNat = p from by omega] at c1
      rw [show (n - 1 - st - m).toNat = q - 1 from by omega] at c2
      exact .inr (.inr ⟨x, y, c1, c2, c3⟩)
   have hD1 : L ++ X.take p ++ X.drop p ++ Y.take q ++ (Y.drop q ++ R) = D := by
    rw [hD]; simp only [List.append_assoc]
    rw [← List.append_assoc (Y.take q), List.take_append_drop, ← List.append_assoc (X.take p), List.take_append_drop]
   (conv => whnf); refine recA (fun hc1 => ?_) (fun hc1 => ?_)
   focus ((conv => whnf); refine recA (fun hc2 => ?_) (fun hc2 => ?_))
   focus
    replace hc1 := of_decide_eq_true hc1
    replace hc2 := of_decide_eq_true hc2
    try rw [een] at hc2
    (conv => whnf)
    rw [een]
    (conv => whnf); refine ACalls.mono (rotate_spec F.z1g hi0 (.fn g caps) (L ++ X.take p) (X.drop p) (Y.take q) (Y.drop q ++ R) (a := st) (m := m) (b := n - st) (d := d) (by simp only [List.length_append, List.length_take]; omega) (by simp only [List.length_append, List.length_take, List.length_drop]; omega) (by simp only [List.length_append, List.length_take, List.length_drop]; omega) (fun h => by have := congrArg List.length h; rw [List.length_drop, List.length_nil] at this; omega) (fun h => by have := congrArg List.length h; rw [List.length_take, List.length_nil] at this; omega) (by rw [hD1]; exact hd) hmax hD1.symm) ?_
    rintro r' H' ⟨rfl, rfl⟩
   rotate_left
   focus
    replace hc1 := of_decide_eq_true hc1
    replace hc2 := of_decide_eq_false hc2
    try rw [een] at hc2
    have hz : Y.take q = [] := by rw [show q = 0 from by omega]; rfl
    have hD2 : D = L ++ X.take p ++ Y.take q ++ X.drop p ++ (Y.drop q ++ R) := by rw [← hD1, hz]; simp only [List.append_nil]
    rw [hD2]
   rotate_left
   focus
    replace hc1 := of_decide_eq_false hc1
    have hz : X.drop p = [] := List.drop_of_length_le (by omega)
    have hD2 : D = L ++ X.take p ++ Y.take q ++ X.drop p ++ (Y.drop q ++ R) := by rw [← hD1, hz]; simp only [List.append_nil]
    rw [hD2]
   all_goals
    (conv => whnf); refine recA (fun hc3 => ?_) (fun hc3 => ?_)
    focus ((conv => whnf); refine recA (fun hc4 => ?_) (fun hc4 => ?_))
    focus
     replace hc3 := of_decide_eq_true hc3
     replace hc4 := of_decide_eq_true hc4
     (conv => whnf); refine ACalls.mono (ih L (X.take p) (Y.take q) (X.drop p ++ (Y.drop q ++ R)) _ a st mid d (by rw [List.length_take, List.length_take]; omega) (fun h => by have := congrArg List.length h; rw [List.length_take, List.length_nil] at this; omega) (fun h => by have := congrArg List.length h; rw [List.length_take, List.length_nil] at this; omega) (fun x hx => hokX x (List.mem_of_mem_take hx)) (fun x hx => hokY x (List.mem_of_mem_take hx)) (List.Pairwise.take hsX) (List.Pairwise.take hsY) (by simp only [List.append_assoc]) ha (by rw [List.length_take]; omega) (by rw [List.length_take, List.length_take]; omega) (by simp only [List.length_append, List.length_take, List.length_drop]; omega) hmax) ?_
     rintro r H' ⟨rfl, Z1, p1, a1, rfl⟩
    rotate_left
    focus
     replace hc3 := of_decide_eq_true hc3
     replace hc4 := of_decide_eq_false hc4
     have hz : Y.take q = [] := by rw [show q = 0 from by omega]; rfl
     obtain ⟨Z1, hZ1⟩ : ∃ Z1, X.take p ++ Y.take q = Z1 := ⟨_, rfl⟩
     have p1 : Z1.Perm (X.take p ++ Y.take q) := by rw [hZ1]
     have a1 : AscO cmp Z1 := by rw [← hZ1, hz, List.append_nil]; exact List.Pairwise.take hsX
     have hh : L ++ X.take p ++ Y.take q ++ X.drop p ++ (Y.drop q ++ R) = L ++ Z1 ++ (X.drop p ++ (Y.drop q ++ R)) := by rw [← hZ1]; simp only [List.append_assoc]
     rw [hh]
    rotate_left
    focus
     replace hc3 := of_decide_eq_false hc3
     have hz : X.take p = [] := by rw [show p = 0 from by omega]; rfl
     obtain ⟨Z1, hZ1⟩ : ∃ Z1, X.take p ++ Y.take q = Z1 := ⟨_, rfl⟩
     have p1 : Z1.Perm (X.take p ++ Y.take q) := by rw [hZ1]
     have a1 : AscO cmp Z1 := by rw [← hZ1, hz, List.nil_append]; exact List.Pairwise.take hsY
     have hh : L ++ X.take p ++ Y.take q ++ X.drop p ++ (Y.drop q ++ R) = L ++ Z1 ++ (X.drop p ++ (Y.drop q ++ R)) := by rw [← hZ1]; simp only [List.append_assoc]
     rw [hh]
    all_goals
     (conv => whnf); refine recA (fun hc5 => ?_) (fun hc5 => ?_)
     focus ((conv => whnf); refine recA (fun hc6 => ?_) (fun hc6 => ?_))
     focus
      replace hc5 := of_decide_eq_true hc5
      try rw [een] at hc5
      replace hc6 := of_decide_eq_true hc6
      try rw [een] at hc6
      try rw [een]
      (conv => whnf); refine ACalls.mono (ih (L ++ Z1) (X.drop p) (Y.drop q) R _ mid (n - st) b d (by rw [List.length_drop, List.length_drop]; omega) (fun h => by have := congrArg List.length h; rw [List.length_drop, List.length_nil] at this; omega) (fun h => by have := congrArg List.length h; rw [List.length_drop, List.length_nil] at this; omega) (fun x hx => hokX x (List.mem_of_mem_drop hx)) (fun x hx => hokY x (List.mem_of_mem_drop hx)) (List.Pairwise.drop hsX) (List.Pairwise.drop hsY) (by simp only [List.append_assoc]) (by rw [List.length_append, p1.length_eq]; simp only [List.length_append, List.length_take]; omega) (by rw [List.length_append, p1.length_eq]; simp only [List.length_append, List.length_take, List.length_drop]; omega) (by rw [List.length_append, p1.length_eq]; simp only [List.length_append, List.length_take, List.length_drop]; omega) (by have := p1.length_eq; simp only [List.length_append, List.length_take] at this; simp only [List.length_append, List.length_drop]; omega) hmax) ?_
      rintro r H' ⟨rfl, Z2, p2, a2, rfl⟩
     rotate_left
     focus
      replace hc5 := of_decide_eq_true hc5
      try rw [een] at hc5
      replace hc6 := of_decide_eq_false hc6
      try rw [een] at hc6
      have hz : Y.drop q = [] := List.drop_of_length_le (by omega)
      obtain ⟨Z2, hZ2⟩ : ∃ Z2, X.drop p ++ Y.drop q = Z2 := ⟨_, rfl⟩
      have p2 : Z2.Perm (X.drop p ++ Y.drop q) := by rw [hZ2]
      have a2 : AscO cmp Z2 := by rw [← hZ2, hz, List.append_nil]; exact List.Pairwise.drop hsX
      have hh : L ++ Z1 ++ (X.drop p ++ (Y.drop q ++ R)) = L ++ Z1 ++ Z2 ++ R := by rw [← hZ2]; simp only [List.append_assoc]
      rw [hh]
     rotate_left
     focus
      replace hc5 := of_decide_eq_false hc5
      try rw [een] at hc5
      have hz : X.drop p = [] := List.drop_of_length_le (by omega)
      obtain ⟨Z2, hZ2⟩ : ∃ Z2, X.drop p ++ Y.drop q = Z2 := ⟨_, rfl⟩
      have p2 : Z2.Perm (X.drop p ++ Y.drop q) := by rw [hZ2]
      have a2 : AscO cmp Z2 := by rw [← hZ2, hz, List.nil_append]; exact List.Pairwise.drop hsY
      have hh : L ++ Z1 ++ (X.drop p ++ (Y.drop q ++ R)) = L ++ Z1 ++ Z2 ++ R := by rw [← hZ2]; simp only [List.append_assoc]
      rw [hh]
     all_goals
      conv => whnf
      have hm := merge_split O hsX hsY hq1 hq2 p1 p2 a1 a2
      exact ⟨rfl, Z1 ++ Z2, hm.2, hm.1, by simp only [List.append_assoc]⟩
 ·replace hmm := of_decide_eq_false hmm
  have hk : (a = a ∧ m = m ∧ m ≤ mid) ∨ (a = n - b ∧ m = mid ∧ mid < m) := .inl ⟨rfl, rfl, by omega⟩
  obtain ⟨k1, k2, k3, k4⟩ := key (a) (m) hk
  conv => whnf
  rw [ep]
  refine ⟨fun q ρ H1 => ∃ st r : Int, a ≤ st ∧ st ≤ r ∧ r ≤ m ∧ (r - st).toNat = q ∧ (st = a ∨ Ble cmp X Y (st - 1 - a) (n - st - m)) ∧ (r = m ∨ Ble cmp Y X (n - 1 - r - m) (r - a)) ∧ H1 = H.set i0 (vO D) ∧
   Sv 220 [(0, .sl i0 d 0 d), (1, .int .i64 a), (2, .int .i64 m), (3, .int .i64 b), (4, .fn g caps), (18, .int .i64 mid), (19, .int .i64 n), (20, .int .i64 st), (21, .int .i64 r), (22, .int .i64 (n - 1))] ρ, ((m) - (a)).toNat, [], ?_, ?_⟩
  ·exact ⟨a, m, Int.le_refl _, k1, Int.le_refl _, rfl, .inl rfl, .inl rfl, rfl, Sv.intro rfl ⟨rfl, rfl, rfl, rfl, rfl, rfl, rfl, rfl, rfl, rfl, trivial⟩⟩
  rintro q0 ρ H1 ⟨st, r, g1, g2, g3, g4, b1, b2, rfl, c, rfl⟩
  (conv => whnf); refine recA (fun hlt => ?_) (fun hlt => ?_)
  ·simp at hlt
   have eh := half_i (st + r) (by omega) (by omega)
   obtain ⟨c, hc⟩ : ∃ c : Int, c = (st + r) / 2 := ⟨_, rfl⟩
   rw [← hc] at eh
   have epc : IntKind.i64.wrap (n - 1 - c) = n - 1 - c := wrapI _ (by omega) (by omega)
   have ec1 : IntKind.i64.wrap (c + 1) = c + 1 := wrapI _ (by omega) (by omega)
   obtain ⟨j1, j2⟩ := k4 c (by omega) (by omega)
   obtain ⟨x, x1, x2, x3⟩ := gX c (by omega) (by omega)
   obtain ⟨y, y1, y2, y3⟩ := gY (n - 1 - c) j1 j2
   (conv => whnf); refine And.intro (by decide) ?_
   (conv => whnf)
   rw [eh, epc]
   (conv => whnf); refine recO (hob _) ?_
   (conv => whnf); refine recT (tl) ?_
   (conv => whnf); refine And.intro (by omega) ?_
   (conv => whnf); refine recO (hob _) ?_
   (conv => whnf); refine recT (tl) ?_
   (conv => whnf); refine recO (y3) ?_
   (conv => whnf); refine recO (hob _) ?_
   (conv => whnf); refine recT (tl) ?_
   (conv => whnf); refine And.intro (by omega) ?_
   (conv => whnf); refine recO (hob _) ?_
   (conv => whnf); refine recT (tl) ?_
   (conv => whnf); refine recO (x3) ?_
   (conv => whnf); refine ⟨_, hg y x y2 x2 _, ?_⟩
   (conv => whnf); refine recA (fun hcc => ?_) (fun hcc => ?_)
   ·simp at hcc
    conv => whnf
    refine ⟨(r - (c + 1)).toNat, by omega, Gp.keep rfl ?_ fun ρ1 hh => ⟨c + 1, r, by omega, by omega, g3, rfl, .inr ⟨x, y, ?_, ?_, hcc⟩, b2, rfl, hh⟩⟩
    ·exact ⟨rfl, rfl, rfl, rfl, rfl, rfl, rfl, intEq ec1, rfl, rfl, trivial⟩
    ·rw [show c + 1 - 1 - a = c - a from by omega]; exact x1
    ·rw [show n - (c + 1) - m = n - 1 - c - m from by omega]; exact y1
   ·simp at hcc
    conv => whnf
    refine ⟨(c - st).toNat, by omega, Gp.keep rfl ?_ fun ρ1 hh => ⟨st, c, g1, by omega, by omega, rfl, b1, .inr ⟨y, x, y1, x1, O.anti _ _ hcc⟩, rfl, hh⟩⟩
    exact ⟨rfl, rfl, rfl, rfl, rfl, rfl, rfl, rfl, rfl, rfl, trivial⟩
  ·simp at hlt
   have hrs : st = r := by omega
   subst hrs
   have een : IntKind.i64.wrap (n - st) = n - st := wrapI _ (by omega) (by omega)
   obtain ⟨p, hp⟩ : ∃ p : Nat, st = a + p := ⟨(st - a).toNat, by omega⟩
   obtain ⟨q, hq⟩ : ∃ q : Nat, n - st = m + q := ⟨(n - st - m).toNat, by omega⟩
   have hpX : p ≤ X.length := by omega
   have hqY : q ≤ Y.length := by omega
   have hq1 : p = 0 ∨ Y.length ≤ q ∨ ∃ x y, X[p - 1]? = some x ∧ Y[q]? = some y ∧ 0 ≤ cmp y x := by
    rcases b1 with b1 | ⟨x, y, c1, c2, c3⟩
    ·rcases hk with ⟨v1, v2, v3⟩ | ⟨v1, v2, v3⟩
     ·exact .inl (by omega)
     ·exact .inr (.inl (by omega))
    ·by_cases hp0 : p = 0
     ·exact .inl hp0
     ·rw [show (st - 1 - a).toNat = p - 1 from by omega] at c1
      rw [show (n - st - m).toNat = q from by omega] at c2
      exact .inr (.inr ⟨x, y, c1, c2, c3⟩)
   have hq2 : X.length ≤ p ∨ q = 0 ∨ ∃ x y, X[p]? = some x ∧ Y[q - 1]? = some y ∧ 0 ≤ cmp x y := by
    rcases b2 with b2 | ⟨y, x, c2, c1, c3⟩
    ·rcases hk with ⟨v1, v2, v3⟩ | ⟨v1, v2, v3⟩
     ·exact .inl (by omega)
     ·exact .inr (.inl (by omega))
    ·by_cases hq0 : q = 0
     ·exact .inr (.inl hq0)
     ·rw [show (st - a).toNat = p from by omega] at c1
      rw [show (n - 1 - st - m).toNat = q - 1 from by omega] at c2
      exact .inr (.inr ⟨x, y, c1, c2, c3⟩)
   have hD1 : L ++ X.take p ++ X.drop p ++ Y.take q ++ (Y.drop q ++ R) = D := by
    rw [hD]; simp only [List.append_assoc]
    rw [← List.append_assoc (Y.take q), List.take_append_drop, ← List.append_assoc (X.take p), List.take_append_drop]
   (conv => whnf); refine recA (fun hc1 => ?_) (fun hc1 => ?_)
   focus ((conv => whnf); refine recA (fun hc2 => ?_) (fun hc2 => ?_))
   focus
    replace hc1 := of_decide_eq_true hc1
    replace hc2 := of_decide_eq_true hc2
    try rw [een] at hc2
    (conv => whnf)
    rw [een]
    (conv => whnf); refine ACalls.mono (rotate_spec F.z1g hi0 (.fn g caps) (L ++ X.take p) (X.drop p) (Y.take q) (Y.drop q ++ R) (a := st) (m := m) (b := n - st) (d := d) (by simp only [List.length_append, List.length_take]; omega) (by simp only [List.length_append, List.length_take, List.length_drop]; omega) (by simp only [List.length_append, List.length_take, List.length_drop]; omega) (fun h => by have := congrArg List.length h; rw [List.length_drop, List.length_nil] at this; omega) (fun h => by have := congrArg List.length h; rw [List.length_take, List.length_nil] at this; omega) (by rw [hD1]; exact hd) hmax hD1.symm) ?_
    rintro r' H' ⟨rfl, rfl⟩
   rotate_left
   focus
    replace hc1 := of_decide_eq_true hc1
    replace hc2 := of_decide_eq_false hc2
    try rw [een] at hc2
    have hz : Y.take q = [] := by rw [show q = 0 from by omega]; rfl
    have hD2 : D = L ++ X.take p ++ Y.take q ++ X.drop p ++ (Y.drop q ++ R) := by rw [← hD1, hz]; simp only [List.append_nil]
    rw [hD2]
   rotate_left
   focus
    replace hc1 := of_decide_eq_false hc1
    have hz : X.drop p = [] := List.drop_of_length_le (by omega)
    have hD2 : D = L ++ X.take p ++ Y.take q ++ X.drop p ++ (Y.drop q ++ R) := by rw [← hD1, hz]; simp only [List.append_nil]
    rw [hD2]
   all_goals
    (conv => whnf); refine recA (fun hc3 => ?_) (fun hc3 => ?_)
    focus ((conv => whnf); refine recA (fun hc4 => ?_) (fun hc4 => ?_))
    focus
     replace hc3 := of_decide_eq_true hc3
     replace hc4 := of_decide_eq_true hc4
     (conv => whnf); refine ACalls.mono (ih L (X.take p) (Y.take q) (X.drop p ++ (Y.drop q ++ R)) _ a st mid d (by rw [List.length_take, List.length_take]; omega) (fun h => by have := congrArg List.length h; rw [List.length_take, List.length_nil] at this; omega) (fun h => by have := congrArg List.length h; rw [List.length_take, List.length_nil] at this; omega) (fun x hx => hokX x (List.mem_of_mem_take hx)) (fun x hx => hokY x (List.mem_of_mem_take hx)) (List.Pairwise.take hsX) (List.Pairwise.take hsY) (by simp only [List.append_assoc]) ha (by rw [List.length_take]; omega) (by rw [List.length_take, List.length_take]; omega) (by simp only [List.length_append, List.length_take, List.length_drop]; omega) hmax) ?_
     rintro r H' ⟨rfl, Z1, p1, a1, rfl⟩
    rotate_left
    focus
     replace hc3 := of_decide_eq_true hc3
     replace hc4 := of_decide_eq_false hc4
     have hz : Y.take q = [] := by rw [show q = 0 from by omega]; rfl
     obtain ⟨Z1, hZ1⟩ : ∃ Z1, X.take p ++ Y.take q = Z1 := ⟨_, rfl⟩
     have p1 : Z1.Perm (X.take p ++ Y.take q) := by rw [hZ1]
     have a1 : AscO cmp Z1 := by rw [← hZ1, hz, List.append_nil]; exact List.Pairwise.take hsX
     have hh : L ++ X.take p ++ Y.take q ++ X.drop p ++ (Y.drop q ++ R) = L ++ Z1 ++ (X.drop p ++ (Y.drop q ++ R)) := by rw [← hZ1]; simp only [List.append_assoc]
     rw [hh]
    rotate_left
    focus
     replace hc3 := of_decide_eq_false hc3
     have hz : X.take p = [] := by rw [show p = 0 from by omega]; rfl
     obtain ⟨Z1, hZ1⟩ : ∃ Z1, X.take p ++ Y.take q = Z1 := ⟨_, rfl⟩
     have p1 : Z1.Perm (X.take p ++ Y.take q) := by rw [hZ1]
     have a1 : AscO cmp Z1 := by rw [← hZ1, hz, List.nil_append]; exact List.Pairwise.take hsY
     have hh : L ++ X.take p ++ Y.take q ++ X.drop p ++ (Y.drop q ++ R) = L ++ Z1 ++ (X.drop p ++ (Y.drop q ++ R)) := by rw [← hZ1]; simp only [List.append_assoc]
     rw [hh]
    all_goals
     (conv => whnf); refine recA (fun hc5 => ?_) (fun hc5 => ?_)
     focus ((conv => whnf); refine recA (fun hc6 => ?_) (fun hc6 => ?_))
     focus
      replace hc5 := of_decide_eq_true hc5
      try rw [een] at hc5
      replace hc6 := of_decide_eq_true hc6
      try rw [een] at hc6
      try rw [een]
      (conv => whnf); refine ACalls.mono (ih (L ++ Z1) (X.drop p) (Y.drop q) R _ mid (n - st) b d (by rw [List.length_drop, List.length_drop]; omega) (fun h => by have := congrArg List.length h; rw [List.length_drop, List.length_nil] at this; omega) (fun h => by have := congrArg List.length h; rw [List.length_drop, List.length_nil] at this; omega) (fun x hx => hokX x (List.mem_of_mem_drop hx)) (fun x hx => hokY x (List.mem_of_mem_drop hx)) (List.Pairwise.drop hsX) (List.Pairwise.drop hsY) (by simp only [List.append_assoc]) (by rw [List.length_append, p1.length_eq]; simp only [List.length_append, List.length_take]; omega) (by rw [List.length_append, p1.length_eq]; simp only [List.length_append, List.length_take, List.length_drop]; omega) (by rw [List.length_append, p1.length_eq]; simp only [List.length_append, List.length_take, List.length_drop]; omega) (by have := p1.length_eq; simp only [List.length_append, List.length_take] at this; simp only [List.length_append, List.length_drop]; omega) hmax) ?_
      rintro r H' ⟨rfl, Z2, p2, a2, rfl⟩
     rotate_left
     focus
      replace hc5 := of_decide_eq_true hc5
      try rw [een] at hc5
      replace hc6 := of_decide_eq_false hc6
      try rw [een] at hc6
      have hz : Y.drop q = [] := List.drop_of_length_le (by omega)
      obtain ⟨Z2, hZ2⟩ : ∃ Z2, X.drop p ++ Y.drop q = Z2 := ⟨_, rfl⟩
      have p2 : Z2.Perm (X.drop p ++ Y.drop q) := by rw [hZ2]
      have a2 : AscO cmp Z2 := by rw [← hZ2, hz, List.append_nil]; exact List.Pairwise.drop hsX
      have hh : L ++ Z1 ++ (X.drop p ++ (Y.drop q ++ R)) = L ++ Z1 ++ Z2 ++ R := by rw [← hZ2]; simp only [List.append_assoc]
      rw [hh]
     rotate_left
     focus
      replace hc5 := of_decide_eq_false hc5
      try rw [een] at hc5
      have hz : X.drop p = [] := List.drop_of_length_le (by omega)
      obtain ⟨Z2, hZ2⟩ : ∃ Z2, X.drop p ++ Y.drop q = Z2 := ⟨_, rfl⟩
      have p2 : Z2.Perm (X.drop p ++ Y.drop q) := by rw [hZ2]
      have a2 : AscO cmp Z2 := by rw [← hZ2, hz, List.nil_append]; exact List.Pairwise.drop hsY
      have hh : L ++ Z1 ++ (X.drop p ++ (Y.drop q ++ R)) = L ++ Z1 ++ Z2 ++ R := by rw [← hZ2]; simp only [List.append_assoc]
      rw [hh]
     all_goals
      conv => whnf
      have hm := merge_split O hsX hsY hq1 hq2 p1 p2 a1 a2
      exact ⟨rfl, Z1 ++ Z2, hm.2, hm.1, by simp only [List.append_assoc]⟩

end
end Go.AW

namespace Go.AW
variable [Draws]
attribute [local irreducible] ACalls
section
variable {P : Program} {H : List AObj} {i0 : Nat} {g : FuncId} {caps : List AVal} {ok : Ver → Prop} {cmp : Ver → Ver → Int}
theorem sym_all (F : F_z1j P) (hi0 : i0 < H.length) (hg : CmpV P g caps ok cmp) (O : Orders cmp) : ∀ N, SymC P F.id H i0 g caps ok cmp N
 | 0 => by
  intro L X Y R D a m b d hN hX
  exact absurd (List.eq_nil_of_length_eq_zero (by omega)) hX
 | N + 1 => by
  have ih := sym_all F hi0 hg O N
  intro L X Y R D a m b d hN hX hY hoX hoY hsX hsY hD ha hm hb hd hmax
  have px := List.length_pos_iff.2 hX
  have py := List.length_pos_iff.2 hY
  by_cases h1 : X.length = 1
  ·obtain ⟨x, rfl⟩ := List.length_eq_one_iff.1 h1
   exact sym_one F hi0 hg O L Y R x hY (hoX x (by simp)) hoY hsY (by rw [hD]; simp) ha (by simpa using hm) (by simpa using hb) hd hmax
  by_cases h2 : Y.length = 1
  ·obtain ⟨y, rfl⟩ := List.length_eq_one_iff.1 h2
   exact sym_last F hi0 hg O L X R y (by omega) (hoY y (by simp)) hoX hsX (by rw [hD]; simp) ha hm (by simpa using hb) hd hmax
  by_cases h3 : X.length + Y.length ≤ N
  ·exact ih L X Y R D a m b d h3 hX hY hoX hoY hsX hsY hD ha hm hb hd hmax
  ·exact sym_step F hi0 hg O N ih L X Y R D a m b d (by omega) (by omega) (by omega) hoX hoY hsX hsY hD ha hm hb hd hmax

theorem asc_nil : AscO cmp ([] : List Ver) := List.Pairwise.nil

set_option maxHeartbeats 4000000 in
set_option maxRecDepth 20000 in
theorem stable_spec (F : F_z1h P) (hi0 : i0 < H.length) (hg : CmpV P g caps ok cmp) (O : Orders cmp) (D : List Ver) {n : Nat} (hn : n = D.length) (h40 : D.length < 40) (hok : ∀ x ∈ D, ok x) :
  ACalls P F.id [.sl i0 n 0 n, .int .i64 n, .fn g caps] (H.set i0 (vO D)) (fun r H' => r = .tuple [] ∧ ∃ Z : List Ver, Z.Perm D ∧ AscO cmp Z ∧ H' = H.set i0 (vO Z)) := by
 refine acalls_of_body F.has ?_
 conv => whnf
 refine ⟨fun q ρ H1 => ∃ Z X : List Ver, q = 40 - Z.length ∧ (Z = [] ∨ Z.length = 20) ∧ (Z ++ X).Perm D ∧ AscO cmp Z ∧ H1 = H.set i0 (vO (Z ++ X)) ∧ Sv 63 [(0, .sl i0 n 0 n), (1, .int .i64 n), (2, .fn g caps), (6, .int .i64 20), (7, .int .i64 Z.length), (8, .int .i64 (Z.length + 20))] ρ, 40, [], ?_, ?_⟩
 ·exact ⟨[], D, rfl, .inl rfl, .refl _, asc_nil, rfl, Sv.intro rfl ⟨rfl, rfl, rfl, rfl, rfl, rfl, trivial⟩⟩
 rintro q ρ H1 ⟨Z, X, hq, hz, hp, hs, rfl, c, rfl⟩
 have hl := hp.length_eq
 rw [List.length_append] at hl
 have okX : ∀ x ∈ X, ok x := fun x hx => hok x (hp.mem_iff.1 (List.mem_append_right _ hx))
 have okZ : ∀ x ∈ Z, ok x := fun x hx => hok x (hp.mem_iff.1 (List.mem_append_left _ hx))
 (conv => whnf); refine recA (fun hle => ?_) (fun hle => ?_)
 ·simp at hle
  have hz0 : Z = [] := by
   rcases hz with h | h
   ·exact h
   ·omega
  subst hz0
  simp only [List.length_nil] at *
  (conv => whnf); refine ACalls.mono (insertion_spec F.z1e hi0 hg O [] (X.take 20) (X.drop 20) (a := ((0 : Nat) : Int)) (b := ((0 : Nat) : Int) + 20) (d := n) rfl (by simp only [List.length_take, List.length_nil]; omega) (fun x hx => okX x (List.mem_of_mem_take hx)) (by simp only [List.nil_append, List.take_append_drop]; omega) (by omega) (by simp only [List.nil_append, List.take_append_drop])) ?_
  rintro r H' ⟨rfl, Z, p1, a1, rfl⟩
  have hz20 := p1.length_eq
  rw [List.length_take] at hz20
  conv => whnf
  refine ⟨40 - Z.length, by omega, Gp.keep rfl ?_ fun ρ1 h => ⟨Z, X.drop 20, rfl, .inr (by omega), ?_, a1, by rw [List.nil_append], h⟩⟩
  ·exact ⟨rfl, rfl, rfl, rfl, intEq (by omega), intEq (by rw [wrapI _ (by omega) (by omega)]; omega), trivial⟩
  ·exact (p1.append_right _).trans (by rw [List.take_append_drop]; exact hp)
 ·simp at hle
  (conv => whnf); refine ACalls.mono (insertion_spec F.z1e hi0 hg O Z X [] (a := Z.length) (b := n) (d := n) rfl (by omega) okX (by simp only [List.append_nil, List.length_append]; omega) (by omega) (by simp)) ?_
  rintro r H' ⟨rfl, X2, p1, a1, rfl⟩
  have hx2 := p1.length_eq
  have okX2 : ∀ x ∈ X2, ok x := fun x hx => okX x (p1.mem_iff.1 hx)
  have hp2 : (Z ++ X2).Perm D := (p1.append_left _).trans hp
  rw [List.append_nil]
  conv => whnf
  refine ⟨fun q ρ H1 => ∃ (bs : Int) (W : List Ver), W.Perm D ∧ ((bs = 20 ∧ q = 1 ∧ W = Z ++ X2) ∨ (bs = 40 ∧ q = 0 ∧ AscO cmp W)) ∧ H1 = H.set i0 (vO W) ∧ Sv 63 [(0, .sl i0 n 0 n), (1, .int .i64 n), (2, .fn g caps), (6, .int .i64 bs)] ρ, 1, [], ?_, ?_⟩
  ·exact ⟨20, Z ++ X2, hp2, .inl ⟨rfl, rfl, rfl⟩, rfl, Sv.intro rfl ⟨rfl, rfl, rfl, rfl, trivial⟩⟩
  rintro q ρ H1 ⟨bs, W, hpW, hw, rfl, c, rfl⟩
  (conv => whnf); refine recA (fun hbs => ?_) (fun hbs => ?_)
  ·simp at hbs
   obtain ⟨rfl, rfl, rfl⟩ : bs = 20 ∧ q = 1 ∧ W = Z ++ X2 := by
    rcases hw with h | ⟨h, _, _⟩
    ·exact h
    ·omega
   have hz20 : Z.length = 20 := by
    rcases hz with h | h
    ·rw [h] at hle; simp at hle; omega
    ·exact h
   conv => whnf
   refine ⟨fun q ρ H1 => H1 = H.set i0 (vO (Z ++ X2)) ∧ Sv 63 [(0, .sl i0 n 0 n), (1, .int .i64 n), (2, .fn g caps), (6, .int .i64 20), (7, .int .i64 0), (8, .int .i64 40)] ρ, 0, [], ?_, ?_⟩
   ·exact ⟨rfl, Sv.intro rfl ⟨rfl, rfl, rfl, rfl, rfl, intEq (by decide), trivial⟩⟩
   rintro q ρ H1 ⟨rfl, c, rfl⟩
   (conv => whnf); refine recF (by simp; omega) ?_
   (conv => whnf); refine recT ((by rw [wrapI _ (by omega) (by omega)]; simp; omega)) ?_
   have em : IntKind.i64.wrap ((0 : Int) + 20) = 20 := wrapI _ (by omega) (by omega)
   (conv => whnf)
   rw [em]
   (conv => whnf); refine ACalls.mono (sym_all F.z1j hi0 hg O (Z.length + X2.length) [] Z X2 [] _ 0 20 n n (Nat.le_refl _) (fun h => by rw [h] at hz20; simp at hz20) (fun h => by rw [h] at hx2; simp at hx2; omega) okZ okX2 hs a1 (by simp) rfl (by simp only [List.length_nil]; omega) (by simp only [List.length_nil]; omega) (by rw [List.length_append]; omega) (by omega)) ?_
   rintro r H' ⟨rfl, W, p3, a3, rfl⟩
   conv => whnf
   refine ⟨0, by omega, Gp.keep rfl ?_ fun ρ1 h => ⟨40, W, p3.trans hp2, .inr ⟨rfl, rfl, a3⟩, by simp, h⟩⟩
   exact ⟨rfl, rfl, rfl, intEq (by decide), trivial⟩
  ·simp at hbs
   conv => whnf
   refine ⟨rfl, W, hpW, ?_, rfl⟩
   rcases hw with ⟨h1, _, h⟩ | ⟨_, _, h⟩
   ·rw [h]
    rcases hz with hz | hz
    ·rw [hz, List.nil_append]; exact a1
    ·have : X2 = [] := List.eq_nil_of_length_eq_zero (by omega)
     rw [this, List.append_nil]; exact hs
   ·exact h

set_option maxRecDepth 20000 in
theorem sortStable_spec (F : F_z1c P) (hi0 : i0 < H.length) (hg : CmpV P g caps ok cmp) (O : Orders cmp) (D : List Ver) {n : Nat} (hn : n = D.length) (h40 : D.length < 40) (hok : ∀ x ∈ D, ok x) :
  ACalls P F.id [.sl i0 n 0 n, .fn g caps] (H.set i0 (vO D)) (fun r H' => r = .tuple [] ∧ ∃ Z : List Ver, Z.Perm D ∧ AscO cmp Z ∧ H' = H.set i0 (vO Z)) := by
 have hob : ∀ o : AObj, (H.set i0 o)[i0]? = some o := hset hi0
 refine acalls_of_body F.has ?_
 (conv => whnf); refine recO (hob _) ?_
 (conv => whnf); refine recT (by rw [vsC_length, ← hn]; exact Nat.beq_refl _) ?_
 (conv => whnf); refine ACalls.mono (stable_spec F.z1h hi0 hg O D hn h40 hok) ?_
 rintro r H' ⟨rfl, Z, h⟩
 conv => whnf
 exact ⟨rfl, Z, h⟩

end
end Go.AW

namespace Go.AW
variable [Draws]
attribute [local irreducible] ACalls
def keyV (s : Sou) (row : List V) : List V := s.key.map fun n => row.getD (colIdx s.cols n).toNat zV

theorem keyV_length (s : Sou) (row : List V) : (keyV s row).length = s.key.length := by rw [keyV, List.length_map]

theorem key_at {s : Sou} (hs : s.good) {k : Nat} {n : ByteArray} (h : s.key[k]? = some n) : 0 ≤ colIdx s.cols n ∧ (colIdx s.cols n).toNat < s.cols.length := by
 have h1 := List.any_eq_false.1 hs.keys n (List.mem_of_getElem? h)
 have h0 : 0 ≤ colIdx s.cols n := by simpa using h1
 exact ⟨h0, colIdx_lt s.cols n h0⟩

theorem keyV_at {s : Sou} {row : List V} {k : Nat} {n : ByteArray} (h : s.key[k]? = some n) : (keyV s row)[k]? = some (row.getD (colIdx s.cols n).toNat zV) := by
 rw [keyV, List.getElem?_map, h]; rfl

theorem row_at {s : Sou} (hs : s.good) {row : List V} (hr : s.cols.length ≤ row.length) {k : Nat} {n : ByteArray} (h : s.key[k]? = some n) : row[(colIdx s.cols n).toNat]? = some (row.getD (colIdx s.cols n).toNat zV) := by
 have := (key_at hs h).2
 rw [List.getD_eq_getElem?_getD, List.getElem?_eq_getElem (by omega)]; rfl

set_option maxRecDepth 20000 in
theorem hkey_spec {P : Program} (F : F_z0o P) (s : Sou) (hs : s.good) (v : Ver) (hv : s.cols.length ≤ v.rc.row.length) (H : List AObj) :
  ACalls P F.id [.agg (souC s), .agg (verC v)] H (fun r H' => r = .list false 3 (vC (keyV s v.rc.row)) ∧ H' = H) := by
 have hkl := hs.klen
 refine ACalls.pure (by simp [souC_closed, verC_closed]) (acalls_of_body F.has ?_)
 conv => whnf
 refine ⟨fun m ρ H1 => ∃ k : Nat, k + m = s.key.length ∧ H1 = [.arr 7 [souC s], .arr 5 [verC v], .arr 3 (vC ((keyV s v.rc.row).take k))] ∧ Sv 29 [(2, .ptr 0 1 0 0), (3, .ptr 1 1 0 0), (5, .sl 2 k 0 k), (9, .list false 1 (sC s.key)), (10, .int .i64 s.key.length), (11, .int .i64 k)] ρ, s.key.length, [(5, 3)], ?_, ?_⟩
 ·exact ⟨0, by omega, rfl, Sv.intro rfl ⟨rfl, rfl, rfl, rfl, intEq (by rw [sC_length]), rfl, trivial⟩⟩
 rintro m ρ H1 ⟨k, hk, rfl, d, rfl⟩
 have hkv : ((keyV s v.rc.row).take k).length = k := by rw [List.length_take, keyV_length]; omega
 (conv => whnf); refine recA (fun hlt => ?_) (fun hlt => ?_)
 ·simp at hlt
  have hn : s.key[k]? = some s.key[k] := List.getElem?_eq_getElem hlt
  generalize s.key[k] = n at hn
  (conv => whnf); refine And.intro (by omega) ?_
  (conv => whnf); refine recO (sC_at hn) ?_
  (conv => whnf); refine ⟨_, schema_Index_spec F.z0w false s.cols (by have := hs.ten; omega) n _, ?_⟩
  (conv => whnf); refine And.intro ((key_at hs hn).1) ?_
  (conv => whnf); refine recO (vC_at (row_at hs hv hn)) ?_
  (conv => whnf); refine recT (by rw [vC_length, hkv]; exact Nat.beq_refl _) ?_
  (conv => whnf); refine And.intro (⟨roomMul (by simp; omega) (by omega), roomB_le (by simp; omega), rfl, by rw [vC_length, hkv]⟩) ?_
  repeat ((conv => whnf); refine And.intro rfl ?_)
  conv => whnf
  have hcn : vC ((keyV s v.rc.row).take k) ++ [valC (v.rc.row.getD (colIdx s.cols n).toNat zV)] = vC ((keyV s v.rc.row).take (k + 1)) := by rw [take_snoc (keyV_at hn), vC_append]; rfl
  have hl2 : (vC ((keyV s v.rc.row).take k) ++ [valC (v.rc.row.getD (colIdx s.cols n).toNat zV)]).length = k + 1 := by rw [List.length_append, vC_length, hkv]; rfl
  refine ⟨m - 1, by omega, Gp.keep rfl ?_ fun ρ1 h => ⟨k + 1, by omega, ?_, h⟩⟩
  ·exact ⟨rfl, rfl, slEq hl2 hl2, rfl, rfl, intEq (wrapI _ (by omega) (by omega)), trivial⟩
  ·rw [← hcn]; rfl
 ·simp at hlt
  have hkn : k = (keyV s v.rc.row).length := by rw [keyV_length]; omega
  conv => whnf
  refine pubFxH (es := vC (keyV s v.rc.row)) (es' := vC ((keyV s v.rc.row).take k)) rfl (by rw [hkn, List.take_length]) (by rw [vC_length]; exact hkn) (by rw [vC_length]; exact hkn) (pureEs_vC _)

def cmpVr (s : Sou) (a b : Ver) : Int := orI [rowsCmp (keyV s a.rc.row) (keyV s b.rc.row), cmpI (timeV s a.rc) (timeV s b.rc), cmpI a.rc.seq b.rc.seq, cmpI a.file b.file, cmpI a.place b.place]

def okV (s : Sou) (v : Ver) : Prop := fitsV s v.rc = 0

theorem okV_len {s : Sou} (hs : s.good) {v : Ver} (h : okV s v) : v.rc.row.length ≤ 10 ∧ s.cols.length ≤ v.rc.row.length := by
 have := fits_len h
 have := hs.ten
 omega

set_option maxRecDepth 20000 in
theorem sorted_1_spec {P : Program} (F : F_z0r P) (s : Sou) (hs : s.good) : CmpV P F.id [.cptr (souC s) 0] (okV s) (cmpVr s) := by
 intro x y hx hy H
 have lx := okV_len hs hx
 have ly := okV_len hs hy
 refine ACalls.pure rfl (acalls_of_body F.has ?_)
 (conv => whnf); refine ⟨_, hkey_spec F.z0o s hs x lx.2 _, ?_⟩
 (conv => whnf); refine ⟨_, hkey_spec F.z0o s hs y ly.2 _, ?_⟩
 (conv => whnf); refine ⟨_, value_CompareRows_spec F.z1p false false (keyV s x.rc.row) (keyV s y.rc.row) (by rw [keyV_length]; have := hs.klen; omega) _, ?_⟩
 (conv => whnf); refine ⟨_, wTime_spec F.z3x s hs.ok x.rc (by omega) _, ?_⟩
 (conv => whnf); refine ⟨_, wTime_spec F.z3x s hs.ok y.rc (by omega) _, ?_⟩
 (conv => whnf); refine ⟨_, cmpCompare_int_spec F.z0a (timeV s x.rc) (timeV s y.rc) _, ?_⟩
 (conv => whnf); refine ⟨_, cmpCompare_int_spec F.z0a x.rc.seq y.rc.seq _, ?_⟩
 (conv => whnf); refine ⟨_, cmpCompare_int_spec F.z0a x.file y.file _, ?_⟩
 (conv => whnf); refine ⟨_, cmpCompare_int_spec F.z0a x.place y.place _, ?_⟩
 (conv => whnf); refine ⟨_, cmpOr_spec F.z0c [rowsCmp (keyV s x.rc.row) (keyV s y.rc.row), cmpI (timeV s x.rc) (timeV s y.rc), cmpI x.rc.seq y.rc.seq, cmpI x.file y.file, cmpI x.place y.place] (by simp) _, ?_⟩
 repeat ((conv => whnf); refine And.intro rfl ?_)
 conv => whnf
 exact .closed _ rfl

structure PreC {α : Type} (c : α → α → Int) : Prop where
 anti : ∀ x y, c y x = - c x y
 tr : ∀ x y z, 0 ≤ c y x → 0 ≤ c z y → 0 ≤ c z x

def lexC {α : Type} (c d : α → α → Int) (x y : α) : Int := if c x y = 0 then d x y else c x y

theorem PreC.lex {α : Type} {c d : α → α → Int} (hc : PreC c) (hd : PreC d) : PreC (lexC c d) where
 anti x y := by
  have h1 := hc.anti x y
  have h2 := hd.anti x y
  unfold lexC
  split <;> split <;> omega
 tr x y z := by
  have a1 := hc.anti x y
  have a2 := hc.anti y z
  have a3 := hc.anti x z
  have t1 := hc.tr x y z
  have t2 := hc.tr y z x
  have t3 := hc.tr z x y
  have t4 := hc.tr z y x
  have t5 := hc.tr y x z
  have t6 := hc.tr x z y
  have t7 := hd.tr x y z
  unfold lexC
  split <;> split <;> split <;> intro h1 h2 <;> omega

theorem preC_I {α : Type} (f : α → Int) : PreC fun x y => cmpI (f x) (f y) where
 anti x y := by unfold cmpI; split <;> split <;> (try split) <;> omega
 tr x y z := by unfold cmpI; repeat' split; all_goals omega

theorem cmpI_zero (a b : Int) : cmpI a b = 0 ↔ a = b := by unfold cmpI; split <;> (try split) <;> omega

theorem rows_tr (x y z : List V) (h1 : 0 ≤ rowsCmp y x) (h2 : 0 ≤ rowsCmp z y) : 0 ≤ rowsCmp z x := by
 by_cases e1 : rowsCmp y x = 0
 ·rw [(rowsCmp_zero _ _).1 e1] at h2; exact h2
 by_cases e2 : rowsCmp z y = 0
 ·rw [(rowsCmp_zero _ _).1 e2]; exact h1
 have t := rowsCmp_trans x y z (by rw [rowsCmp_anti]; omega) (by rw [rowsCmp_anti]; omega)
 rw [rowsCmp_anti]; omega

theorem preC_R {α : Type} (f : α → List V) : PreC fun x y => rowsCmp (f x) (f y) where
 anti x y := rowsCmp_anti _ _
 tr x y z := rows_tr _ _ _

theorem orI_two (a : Int) (l : List Int) : orI (a :: l) = if a = 0 then orI l else a := rfl

theorem cmpVr_lex (s : Sou) : cmpVr s = lexC (fun x y => rowsCmp (keyV s x.rc.row) (keyV s y.rc.row)) (lexC (fun x y => cmpI (timeV s x.rc) (timeV s y.rc)) (lexC (fun x y => cmpI x.rc.seq y.rc.seq) (lexC (fun x y => cmpI x.file y.file) fun x y => cmpI x.place y.place))) := by
 funext x y
 unfold cmpVr lexC
 rw [orI_two, orI_two, orI_two, orI_two, orI_two, orI]
 repeat' split
 all_goals first | rfl | exact Eq.symm (by assumption)

theorem preC_V (s : Sou) : PreC (cmpVr s) := by
 rw [cmpVr_lex]
 exact (preC_R fun v : Ver => keyV s v.rc.row).lex ((preC_I fun v : Ver => timeV s v.rc).lex ((preC_I fun v : Ver => v.rc.seq).lex ((preC_I fun v : Ver => v.file).lex (preC_I fun v : Ver => v.place))))

theorem orders_V (s : Sou) : Orders (cmpVr s) where
 anti x y h := by rw [(preC_V s).anti x y]; omega
 trans := (preC_V s).tr

theorem cmpVr_zero {s : Sou} {x y : Ver} : cmpVr s x y = 0 ↔ keyV s x.rc.row = keyV s y.rc.row ∧ timeV s x.rc = timeV s y.rc ∧ x.rc.seq = y.rc.seq ∧ x.file = y.file ∧ x.place = y.place := by
 rw [← rowsCmp_zero, ← cmpI_zero (timeV s x.rc), ← cmpI_zero x.rc.seq, ← cmpI_zero x.file, ← cmpI_zero x.place]
 unfold cmpVr
 rw [orI_two, orI_two, orI_two, orI_two, orI_two, orI]
 repeat' split
 all_goals constructor
 all_goals intro h
 all_goals omega

end Go.AW

namespace Go.AW
universe u
variable {β : Type u}
def insO (cmp : β → β → Int) (x : β) : List β → List β
 | [] => [x]
 | y :: r => if 0 ≤ cmp y x then x :: y :: r else y :: insO cmp x r

def isort (cmp : β → β → Int) : List β → List β
 | [] => []
 | x :: l => insO cmp x (isort cmp l)

variable {cmp : β → β → Int}
theorem insO_perm (x : β) : ∀ l, (insO cmp x l).Perm (x :: l)
 | [] => .refl _
 | y :: r => by
  rw [insO]
  split
  ·exact .refl _
  ·exact ((insO_perm x r).cons y).trans (.swap x y r)

theorem isort_perm : ∀ l : List β, (isort cmp l).Perm l
 | [] => .refl _
 | x :: l => (insO_perm x _).trans ((isort_perm l).cons x)

theorem isort_length (l : List β) : (isort cmp l).length = l.length := (isort_perm l).length_eq

theorem insO_asc (O : Orders cmp) (x : β) : ∀ l, AscO cmp l → AscO cmp (insO cmp x l)
 | [], _ => List.pairwise_singleton _ _
 | y :: r, h => by
  rw [insO]
  obtain ⟨h1, h2⟩ := List.pairwise_cons.1 h
  split
  ·rename_i hy
   refine List.pairwise_cons.2 ⟨fun z hz => ?_, h⟩
   rcases List.mem_cons.1 hz with rfl | hz
   ·exact hy
   ·exact O.trans _ _ _ hy (h1 z hz)
  ·rename_i hy
   refine List.pairwise_cons.2 ⟨fun z hz => ?_, insO_asc O x r h2⟩
   rcases List.mem_cons.1 ((insO_perm x r).mem_iff.1 hz) with rfl | hz
   ·exact O.anti _ _ (by omega)
   ·exact h1 z hz

theorem isort_asc (O : Orders cmp) : ∀ l, AscO cmp (isort cmp l)
 | [] => List.Pairwise.nil
 | x :: l => insO_asc O x _ (isort_asc O l)

theorem asc_eq : ∀ {l m : List β}, l.Perm m → AscO cmp l → AscO cmp m → (∀ x ∈ l, ∀ y ∈ l, 0 ≤ cmp x y → 0 ≤ cmp y x → x = y) → l = m
 | [], m, hp, _, _, _ => (List.nil_perm.1 hp).symm
 | x :: l, [], hp, _, _, _ => absurd hp.length_eq (by simp)
 | x :: l, y :: m, hp, hl, hm, hz => by
  obtain ⟨l1, l2⟩ := List.pairwise_cons.1 hl
  obtain ⟨m1, m2⟩ := List.pairwise_cons.1 hm
  have hxy : x = y := by
   have hx : x ∈ y :: m := hp.mem_iff.1 (List.mem_cons_self ..)
   have hy : y ∈ x :: l := hp.mem_iff.2 (List.mem_cons_self ..)
   rcases List.mem_cons.1 hx with e | hx
   ·exact e
   rcases List.mem_cons.1 hy with e | hy2
   ·exact e.symm
   exact hz x (List.mem_cons_self ..) y hy (m1 x hx) (l1 y hy2)
  subst hxy
  rw [asc_eq (List.Perm.cons_inv hp) l2 m2 fun a ha b hb => hz a (List.mem_cons_of_mem _ ha) b (List.mem_cons_of_mem _ hb)]

theorem isort_eq (O : Orders cmp) {l m : List β} (hp : m.Perm l) (hm : AscO cmp m) (hz : ∀ x ∈ l, ∀ y ∈ l, 0 ≤ cmp x y → 0 ≤ cmp y x → x = y) : m = isort cmp l :=
 asc_eq (hp.trans (isort_perm l).symm) hm (isort_asc O l) fun x hx y hy => hz x (hp.mem_iff.1 hx) y (hp.mem_iff.1 hy)

end Go.AW

namespace Go.AW
variable [Draws]
attribute [local irreducible] ACalls
def Uq (s : Sou) (l : List Ver) : Prop := ∀ x ∈ l, ∀ y ∈ l, cmpVr s x y = 0 → x = y

def srtV (s : Sou) (l : List Ver) : List Ver := isort (cmpVr s) l

theorem Uq.zz {s : Sou} {l : List Ver} (h : Uq s l) : ∀ x ∈ l, ∀ y ∈ l, 0 ≤ cmpVr s x y → 0 ≤ cmpVr s y x → x = y := fun x hx y hy h1 h2 =>
 h x hx y hy (by have := (preC_V s).anti x y; omega)

set_option maxRecDepth 20000 in
theorem CloneVer_own {P : Program} (F : F_z14 P) (ex : Bool) (cs : List Ver) (hl : cs.length ≤ 1000000) (H : List AObj) :
  ACalls P F.id [.list ex 5 (vsC cs)] H (fun r H' => (r = .nil ∧ cs = [] ∧ H' = H) ∨ (r = .sl H.length cs.length 0 cs.length ∧ H' = H ++ [vO cs])) := by
 have h0 : ACalls P F.id [.list ex 5 (vsC cs)] [] (fun r H1 => (r = .nil ∧ cs = [] ∧ H1 = []) ∨ (r = .sl 0 cs.length 0 cs.length ∧ H1 = [vO cs])) := by
  refine acalls_of_body F.has ?_
  (conv => whnf); refine And.intro ((fun h => ?_)) ?_
  ·conv => whnf
   exact .inl ⟨rfl, by simpa [vsC] using h, rfl⟩
  ·(conv => whnf); refine And.intro (⟨roomMul (by simp [vsC_length]; omega) (by omega), roomB_le (by simp [vsC_length]; omega), .inr rfl⟩) ?_
   conv => whnf
   refine .inr ⟨slEq ?_ ?_, rfl⟩
   ·simp [vsC_length]
   ·simp [vsC_length]
 refine ACalls.lift (by simp [AVal.closed, AVal.isPure]) h0 ?_
 rintro r H1 (⟨rfl, h1, rfl⟩ | ⟨rfl, rfl⟩)
 ·exact ⟨[], .nil, [], .closed _ rfl, List.nodup_nil, rfl, fun k id h => by simp at h, .inl ⟨rfl, h1, by simp⟩⟩
 ·exact ⟨[0], _, [vO cs], pubSl (k := 0) rfl (Nat.add_zero _).symm rfl rfl, by simp, rfl, fun k id hk => by
   cases k with
   | zero => simp at hk; subst hk; exact ⟨rfl, 5, _, rfl, pureEs_vsC _⟩
   | succ k => simp at hk, .inr ⟨rfl, rfl⟩⟩

section
variable {P : Program} {H : List AObj}
theorem insertion_nil (F : F_z1e P) (f : AVal) : ACalls P F.id [.nil, .int .i64 0, .int .i64 0, f] H (fun r H' => r = .tuple [] ∧ H' = H) := by
 refine acalls_of_body F.has ?_
 conv => whnf
 refine ⟨fun m ρ H1 => H1 = H ∧ Sv 53 [(0, .nil), (1, .int .i64 0), (2, .int .i64 0), (3, f), (8, .int .i64 1)] ρ, 0, [], ?_, ?_⟩
 ·exact ⟨rfl, Sv.intro rfl ⟨rfl, rfl, rfl, rfl, intEq (by decide), trivial⟩⟩
 rintro m ρ H1 ⟨rfl, d, rfl⟩
 conv => whnf
 exact ⟨rfl, rfl⟩

theorem stable_nil (F : F_z1h P) (f : AVal) : ACalls P F.id [.nil, .int .i64 0, f] H (fun r H' => r = .tuple [] ∧ H' = H) := by
 refine acalls_of_body F.has ?_
 conv => whnf
 refine ⟨fun m ρ H1 => H1 = H ∧ Sv 63 [(0, .nil), (1, .int .i64 0), (2, f), (6, .int .i64 20), (7, .int .i64 0), (8, .int .i64 20)] ρ, 0, [], ?_, ?_⟩
 ·exact ⟨rfl, Sv.intro rfl ⟨rfl, rfl, rfl, rfl, rfl, rfl, trivial⟩⟩
 rintro m ρ H1 ⟨rfl, d, rfl⟩
 (conv => whnf); refine ACalls.use (insertion_nil F.z1e f) ?_
 conv => whnf
 refine ⟨fun m ρ H2 => H2 = H1 ∧ Sv 63 [(0, .nil), (1, .int .i64 0), (2, f), (6, .int .i64 20)] ρ, 0, [], ?_, ?_⟩
 ·exact ⟨rfl, Sv.intro rfl ⟨rfl, rfl, rfl, rfl, trivial⟩⟩
 rintro m ρ H2 ⟨rfl, d, rfl⟩
 conv => whnf
 exact ⟨rfl, rfl⟩

theorem sortStable_nil (F : F_z1c P) (f : AVal) : ACalls P F.id [.nil, f] H (fun r H' => r = .tuple [] ∧ H' = H) := by
 refine acalls_of_body F.has ?_
 (conv => whnf); refine ACalls.use (stable_nil F.z1h f) ?_
 conv => whnf
 exact ⟨rfl, rfl⟩

end
set_option maxRecDepth 20000 in
theorem sorted_raw {P : Program} (F : F_z0q P) (s : Sou) (hs : s.good) (ex : Bool) (vs : List Ver) (h40 : vs.length < 40) (hok : ∀ v ∈ vs, okV s v) (hU : Uq s vs) (H : List AObj) :
  ACalls P F.id [.agg (souC s), .list ex 5 (vsC vs)] H (fun r H' => ((r = .nil ∧ vs = []) ∨ r = .list false 5 (vsC (srtV s vs))) ∧ H' = H) := by
 refine ACalls.lift0 (by simp [souC, AVal.closed, AVal.isPure]) (acalls_of_body F.has ?_)
 (conv => whnf); refine ACalls.mono (CloneVer_own F.z14 ex vs (by omega) _) ?_
 rintro r H' (⟨rfl, h0, rfl⟩ | ⟨rfl, rfl⟩)
 ·conv => whnf
  refine Ghost.none (n := 12) (live := [(2, .cptr (souC s) 0), (5, .nil)]) rfl ⟨.frzP 0 1 0 0 7 [souC s] _ rfl rfl rfl rfl (by simp), .closed _ rfl, trivial⟩ ?_
  rintro ρ ⟨d, rfl⟩
  (conv => whnf); refine ACalls.use (sortStable_nil F.z1c _) ?_
  conv => whnf
  exact ⟨_, .closed _ rfl, .inl ⟨rfl, h0⟩⟩
 ·conv => whnf
  refine Ghost.one (n := 12) (live := [(2, .cptr (souC s) 0), (5, .sl 0 vs.length 0 vs.length)]) 1 5 (vsC vs) rfl (pureEs_vsC _) rfl ⟨.frzP 0 1 0 0 7 [souC s] _ rfl rfl rfl rfl (by simp), .keep 1 _ _ _ 0 rfl, trivial⟩ ?_
  rintro ρ ⟨d, rfl⟩
  (conv => whnf); refine ACalls.mono (sortStable_spec F.z1c (H := [vO vs]) (i0 := 0) (by simp) (sorted_1_spec F.z0r s hs) (orders_V s) vs rfl h40 hok) ?_
  rintro r H' ⟨rfl, Z, hp, ha, rfl⟩
  have hZ : Z = srtV s vs := isort_eq (orders_V s) hp ha hU.zz
  have hl := hp.length_eq
  conv => whnf
  refine ⟨_, pubFxH (es := vsC (srtV s vs)) (es' := vsC Z) rfl (by rw [hZ]) ?_ ?_ (pureEs_vsC _), .inr rfl⟩
  ·rw [vsC_length, ← hZ, hl]
  ·rw [vsC_length, ← hZ, hl]

theorem sorted_spec {P : Program} (F : F_z0q P) (s : Sou) (hs : s.good) (ex : Bool) (vs : List Ver) (h40 : vs.length < 40) (hok : ∀ v ∈ vs, okV s v) (hU : Uq s vs) (H : List AObj) :
  ACalls P F.id [.agg (souC s), .list ex 5 (vsC vs)] H (fun r H' => r = .list false 5 (vsC (srtV s vs)) ∧ H' = H) :=
 ACalls.weakR (sorted_raw F s hs ex vs h40 hok hU H) (by
  rintro r H' ⟨⟨rfl, rfl⟩ | rfl, rfl⟩
  ·exact ⟨_, .nil false 5, rfl, rfl⟩
  ·exact ⟨_, .refl _, rfl, rfl⟩)

end Go.AW

namespace Go.AW
variable [Draws]
attribute [local irreducible] ACalls
def sameKT (s : Sou) (a b : Ver) : Bool := rowsCmp (keyV s a.rc.row) (keyV s b.rc.row) == 0 && timeV s a.rc == timeV s b.rc

theorem pureS (s : Sou) : pureO (.arr 7 [souC s]) = true := by simp [pureO, pureEs, souC, AVal.isPure]

theorem pureVO (l : List Ver) : pureO (vO l) = true := pureEs_vsC l

theorem all2 {a b : AObj} (ha : pureO a = true) (hb : pureO b = true) : [a, b].all pureO = true := by rw [List.all_cons, ha, List.all_cons, hb]; rfl

def usedV (s : Sou) : List Ver → List Ver
 | [] => []
 | v :: vs => if vs.head?.any (sameKT s v) then usedV s vs else v :: usedV s vs

theorem usedV_sub (s : Sou) : ∀ vs, List.Sublist (usedV s vs) vs
 | [] => .slnil
 | v :: vs => by
  rw [usedV]
  split
  ·exact (usedV_sub s vs).cons _
  ·exact (usedV_sub s vs).cons₂ _

set_option maxRecDepth 20000 in
theorem hused_spec {P : Program} (F : F_z0s P) (s : Sou) (hs : s.good) (ex : Bool) (vs : List Ver) (hl : vs.length ≤ 100000) (hok : ∀ v ∈ vs, okV s v) (H : List AObj) :
  ACalls P F.id [.agg (souC s), .list ex 5 (vsC vs)] H (fun r H' => r = .list false 5 (vsC (usedV s vs)) ∧ H' = H) := by
 refine ACalls.pure (by simp [souC, AVal.closed, AVal.isPure]) (acalls_of_body F.has ?_)
 conv => whnf
 refine ⟨fun m ρ H1 => ∃ (k : Nat) (U : List Ver), k + m = vs.length ∧ U.length ≤ k ∧ U ++ usedV s (vs.drop k) = usedV s vs ∧ H1 = [.arr 7 [souC s], vO U] ∧ Sv 51 [(1, .list ex 5 (vsC vs)), (2, .ptr 0 1 0 0), (5, .sl 1 U.length 0 U.length), (9, .list ex 5 (vsC vs)), (10, .int .i64 vs.length), (11, .int .i64 k)] ρ, vs.length, [(5, 5)], ?_, ?_⟩
 ·exact ⟨0, [], by omega, by simp, rfl, rfl, Sv.intro rfl ⟨rfl, rfl, rfl, rfl, intEq (by rw [vsC_length]), rfl, trivial⟩⟩
 rintro m ρ H1 ⟨k, U, hk, hU, hr, rfl, d, rfl⟩
 (conv => whnf); refine recA (fun hlt => ?_) (fun hlt => ?_)
 ·simp at hlt
  have hx : vs[k]? = some vs[k] := List.getElem?_eq_getElem hlt
  have hv := okV_len hs (hok _ (List.getElem_mem hlt))
  generalize vs[k] = v at hx hv
  rw [drop_cons hx, usedV] at hr
  have ek : IntKind.i64.wrap ((k : Int) + 1) = ((k + 1 : Nat) : Int) := by rw [wrapI _ (by omega) (by omega)]; omega
  (conv => whnf); refine And.intro (by omega) ?_
  (conv => whnf); refine recO (vsC_at hx) ?_
  (conv => whnf); refine recA (fun h1 => ?_) (fun h1 => ?_)
  ·simp [ek, vsC_length] at h1
   have h1' : k + 1 < vs.length := by omega
   have hy : vs[k + 1]? = some vs[k + 1] := List.getElem?_eq_getElem h1'
   have hw := okV_len hs (hok _ (List.getElem_mem h1'))
   generalize vs[k + 1] = w at hy hw
   have hhd : (vs.drop (k + 1)).head? = some w := by rw [drop_cons hy]; rfl
   rw [hhd] at hr
   (conv => whnf); refine And.intro (by rw [ek]; omega) ?_
   (conv => whnf); refine recO ((show (vsC vs)[(IntKind.i64.wrap ((k : Int) + 1)).toNat]? = some (verC w) from by rw [ek, Int.toNat_natCast]; exact vsC_at hy)) ?_
   (conv => whnf); refine ⟨_, hkey_spec F.z0o s hs v hv.2 _, ?_⟩
   (conv => whnf); refine ⟨_, hkey_spec F.z0o s hs w hw.2 _, ?_⟩
   (conv => whnf); refine ⟨_, value_CompareRows_spec F.z1p false false (keyV s v.rc.row) (keyV s w.rc.row) (by rw [keyV_length]; have := hs.klen; omega) _, ?_⟩
   (conv => whnf); refine recA (fun hb => ?_) (fun hb => ?_)
   ·(conv => whnf); refine ⟨_, wTime_spec F.z3x s hs.ok v.rc (by omega) _, ?_⟩
    (conv => whnf); refine ⟨_, wTime_spec F.z3x s hs.ok w.rc (by omega) _, ?_⟩
    repeat ((conv => whnf); refine And.intro rfl ?_)
    (conv => whnf); refine recA (fun hc => ?_) (fun hc => ?_)
    ·have hT : (some w).any (sameKT s v) = true := by simp [sameKT]; simp at hb hc; exact ⟨hb, hc⟩
     rw [if_pos hT] at hr
     conv => whnf
     refine ⟨m - 1, by omega, Gp.first 2 [.arr 7 [souC s], vO U] rfl rfl (all2 (pureS s) (pureVO _)) rfl ?_ fun ρ1 h => ⟨k + 1, U, by omega, by omega, hr, rfl, h⟩⟩
     exact ⟨.closed _ rfl, .keepP 0 1 0 0 0 rfl, .keep 1 _ _ _ 1 rfl, .closed _ rfl, .closed _ rfl, pub_int ek, trivial⟩
    ·have hT : ¬ (some w).any (sameKT s v) = true := by simp [sameKT]; simp at hb hc; exact fun _ => hc
     rw [if_neg hT] at hr
     (conv => whnf); refine recT (by rw [vsC_length]; exact Nat.beq_refl _) ?_
     (conv => whnf); refine And.intro (⟨roomMul (by simp; omega) (by omega), roomB_le (by simp; omega), rfl, by rw [vsC_length]⟩) ?_
     conv => whnf
     have hcn : vsC U ++ [verC v] = vsC (U ++ [v]) := by rw [vsC_append]; rfl
     have hpp : ([.arr 7 [souC s], .arr 5 (vsC U ++ [verC v])] : List AObj).all pureO = true := by rw [hcn]; exact all2 (pureS s) (pureVO _)
     have hl2 : (vsC U ++ [verC v]).length = (U ++ [v]).length := by rw [hcn, vsC_length]
     refine ⟨m - 1, by omega, Gp.first 2 [.arr 7 [souC s], .arr 5 (vsC U ++ [verC v])] rfl rfl hpp rfl ?_ fun ρ1 h => ⟨k + 1, U ++ [v], by omega, by simp; omega, by rw [← hr]; simp, by rw [hcn], h⟩⟩
     exact ⟨.closed _ rfl, .keepP 0 1 0 0 0 rfl, pubSl (k := 1) rfl rfl hl2 hl2, .closed _ rfl, .closed _ rfl, pub_int ek, trivial⟩
   ·repeat ((conv => whnf); refine And.intro rfl ?_)
    have hT : ¬ (some w).any (sameKT s v) = true := by simp [sameKT]; simp at hb; exact fun h => absurd h hb
    rw [if_neg hT] at hr
    (conv => whnf); refine recT (by rw [vsC_length]; exact Nat.beq_refl _) ?_
    (conv => whnf); refine And.intro (⟨roomMul (by simp; omega) (by omega), roomB_le (by simp; omega), rfl, by rw [vsC_length]⟩) ?_
    conv => whnf
    have hcn : vsC U ++ [verC v] = vsC (U ++ [v]) := by rw [vsC_append]; rfl
    have hpp : ([.arr 7 [souC s], .arr 5 (vsC U ++ [verC v])] : List AObj).all pureO = true := by rw [hcn]; exact all2 (pureS s) (pureVO _)
    have hl2 : (vsC U ++ [verC v]).length = (U ++ [v]).length := by rw [hcn, vsC_length]
    refine ⟨m - 1, by omega, Gp.first 2 [.arr 7 [souC s], .arr 5 (vsC U ++ [verC v])] rfl rfl hpp rfl ?_ fun ρ1 h => ⟨k + 1, U ++ [v], by omega, by simp; omega, by rw [← hr]; simp, by rw [hcn], h⟩⟩
    exact ⟨.closed _ rfl, .keepP 0 1 0 0 0 rfl, pubSl (k := 1) rfl rfl hl2 hl2, .closed _ rfl, .closed _ rfl, pub_int ek, trivial⟩
  ·simp [ek, vsC_length] at h1
   have hT : ¬ (vs.drop (k + 1)).head?.any (sameKT s v) = true := by rw [List.drop_of_length_le (by omega)]; simp
   rw [if_neg hT] at hr
   (conv => whnf); refine recT (by rw [vsC_length]; exact Nat.beq_refl _) ?_
   (conv => whnf); refine And.intro (⟨roomMul (by simp; omega) (by omega), roomB_le (by simp; omega), rfl, by rw [vsC_length]⟩) ?_
   conv => whnf
   have hcn : vsC U ++ [verC v] = vsC (U ++ [v]) := by rw [vsC_append]; rfl
   have hpp : ([.arr 7 [souC s], .arr 5 (vsC U ++ [verC v])] : List AObj).all pureO = true := by rw [hcn]; exact all2 (pureS s) (pureVO _)
   have hl2 : (vsC U ++ [verC v]).length = (U ++ [v]).length := by rw [hcn, vsC_length]
   refine ⟨m - 1, by omega, Gp.first 2 [.arr 7 [souC s], .arr 5 (vsC U ++ [verC v])] rfl rfl hpp rfl ?_ fun ρ1 h => ⟨k + 1, U ++ [v], by omega, by simp; omega, by rw [← hr]; simp, by rw [hcn], h⟩⟩
   exact ⟨.closed _ rfl, .keepP 0 1 0 0 0 rfl, pubSl (k := 1) rfl rfl hl2 hl2, .closed _ rfl, .closed _ rfl, pub_int ek, trivial⟩
 ·simp at hlt
  rw [List.drop_of_length_le (by omega), usedV, List.append_nil] at hr
  conv => whnf
  refine pubFxH (es := vsC (usedV s vs)) (es' := vsC U) rfl (by rw [hr]) (by rw [← hr, vsC_length]) (by rw [← hr, vsC_length]) (pureEs_vsC _)

end Go.AW

namespace Go.AW
variable [Draws]
attribute [local irreducible] ACalls
def couR (s : Sou) (i : Nat) (jd : List Int) : Nat → List Rec → List Ver
 | _, [] => []
 | k, r :: rs => if k < jd.length ∧ jd.getD k 1 = 0 ∧ fitsV s r = 0 then ⟨r, i, k⟩ :: couR s i jd (k + 1) rs else couR s i jd (k + 1) rs

def couD (s : Sou) (i : Nat) (x : Del) : List Ver := if eqS x.f.src s.name then couR s i x.jd 0 x.f.recs else []

def couL (s : Sou) : Nat → List Del → List Ver
 | _, [] => []
 | i, x :: l => couD s i x ++ couL s (i + 1) l

theorem couR_len (s : Sou) (i : Nat) (jd : List Int) : ∀ (rs : List Rec) (k : Nat), (couR s i jd k rs).length ≤ rs.length
 | [], _ => Nat.le_refl _
 | r :: rs, k => by
  have := couR_len s i jd rs (k + 1)
  rw [couR]
  split
  ·simp; omega
  ·simp; omega

set_option maxHeartbeats 1000000 in
set_option maxRecDepth 20000 in
theorem counted_spec {P : Program} (F : F_z2w P) (s : Sou) (hs : s.ok) (l : List Del) (hl : l.length ≤ 1000) (hok : ∀ x ∈ l, x.ok) (H : List AObj) :
  ACalls P F.id [.agg (ledC l), .agg (souC s)] H (fun r H' => r = .list false 5 (vsC (couL s 0 l)) ∧ H' = H) := by
 have psl : pureO (.arr 1 [ledC l]) = true := rfl
 refine ACalls.pure (by simp [souC, ledC, AVal.closed, AVal.isPure]) (acalls_of_body F.has ?_)
 conv => whnf
 refine ⟨fun m ρ H1 => ∃ (k : Nat) (U : List Ver), k + m = l.length ∧ U.length ≤ 1000 * k ∧ U ++ couL s k (l.drop k) = couL s 0 l ∧ H1 = [.arr 1 [ledC l], .arr 7 [souC s], vO U] ∧ Sv 80 [(2, .ptr 0 1 0 0), (3, .ptr 1 1 0 0), (5, .sl 2 U.length 0 U.length), (6, .int .i64 k)] ρ, l.length, [(5, 5)], ?_, ?_⟩
 ·exact ⟨0, [], by omega, by simp, rfl, rfl, Sv.intro rfl ⟨rfl, rfl, rfl, rfl, trivial⟩⟩
 rintro m ρ H1 ⟨k, U0, hk, hU0, hr, rfl, d, rfl⟩
 (conv => whnf); refine recA (fun hlt => ?_) (fun hlt => ?_)
 ·simp [dsC_length] at hlt
  have hx : l[k]? = some l[k] := List.getElem?_eq_getElem hlt
  obtain ⟨x1, x2, x3⟩ := hok _ (List.getElem_mem hlt)
  generalize l[k] = x at hx x1 x2 x3
  rw [drop_cons hx, couL] at hr
  (conv => whnf); refine And.intro (by omega) ?_
  (conv => whnf); refine recO (dsC_at hx) ?_
  conv => whnf
  refine ⟨fun m2 ρ H1 => ∃ (j : Nat) (U : List Ver), j + m2 = x.f.recs.length ∧ U.length ≤ 1000 * k + j ∧ U ++ ((if eqS x.f.src s.name then couR s k x.jd j (x.f.recs.drop j) else []) ++ couL s (k + 1) (l.drop (k + 1))) = couL s 0 l ∧ H1 = [.arr 1 [ledC l], .arr 7 [souC s], vO U, .arr 4 [delC x]] ∧ Sv 80 [(2, .ptr 0 1 0 0), (3, .ptr 1 1 0 0), (5, .sl 2 U.length 0 U.length), (6, .int .i64 k), (7, .ptr 3 1 0 0), (8, .int .i64 j)] ρ, x.f.recs.length, [], ?_, ?_⟩
  ·exact ⟨0, U0, by omega, by omega, hr, rfl, Sv.intro rfl ⟨rfl, rfl, rfl, rfl, rfl, rfl, trivial⟩⟩
  clear hr hU0
  rintro m2 ρ H1 ⟨j, U, hj, hU, hr, rfl, d, rfl⟩
  have hp4 : ([.arr 1 [ledC l], .arr 7 [souC s], vO U, .arr 4 [delC x]] : List AObj).all pureO = true := by
   rw [List.all_cons, psl, List.all_cons, pureS, List.all_cons, pureVO]; rfl
  (conv => whnf); refine recA (fun hlt2 => ?_) (fun hlt2 => ?_)
  ·simp [rC_length] at hlt2
   have hrx : x.f.recs[j]? = some x.f.recs[j] := List.getElem?_eq_getElem hlt2
   have hrl := x2 _ (List.getElem_mem hlt2)
   generalize x.f.recs[j] = r at hrx hrl
   have ej : IntKind.i64.wrap ((j : Int) + 1) = ((j + 1 : Nat) : Int) := by rw [wrapI _ (by omega) (by omega)]; omega
   (conv => whnf); refine recA (fun heq => ?_) (fun heq => ?_)
   ·replace heq : eqS x.f.src s.name = true := heq
    rw [if_pos heq, drop_cons hrx, couR] at hr
    (conv => whnf); refine recA (fun h1 => ?_) (fun h1 => ?_)
    ·simp [iC_length] at h1
     have hjx : x.jd[j]? = some x.jd[j] := List.getElem?_eq_getElem (by omega)
     have hjd : x.jd.getD j 1 = x.jd[j] := by rw [List.getD_eq_getElem?_getD, hjx]; rfl
     generalize x.jd[j] = q at hjx hjd
     (conv => whnf); refine And.intro (by omega) ?_
     (conv => whnf); refine recO (iC_at hjx) ?_
     (conv => whnf); refine recA (fun h2 => ?_) (fun h2 => ?_)
     ·simp at h2
      (conv => whnf); refine And.intro (by omega) ?_
      (conv => whnf); refine recO (rC_at hrx) ?_
      (conv => whnf); refine ⟨_, fits25_spec F.z2h s hs r (by omega) _, ?_⟩
      repeat ((conv => whnf); refine And.intro rfl ?_)
      (conv => whnf); refine recA (fun h3 => ?_) (fun h3 => ?_)
      ·simp at h3
       rw [if_pos ⟨by omega, by rw [hjd]; exact h2, h3⟩] at hr
       (conv => whnf); refine And.intro (by omega) ?_
       (conv => whnf); refine recO (rC_at hrx) ?_
       (conv => whnf); refine And.intro (⟨roomMul (by simp [vC_length]; omega) (by omega), roomB_le (by simp [vC_length]; omega)⟩) ?_
       conv => whnf
       refine Ghost.some (n := 80) (live := [(2, .ptr 0 1 0 0), (3, .ptr 1 1 0 0), (5, .sl 2 U.length 0 U.length), (6, .int .i64 k), (7, .ptr 3 1 0 0), (8, .int .i64 j), (9, .ptr 4 1 0 0)]) (H1 := [.arr 1 [ledC l], .arr 7 [souC s], vO U, .arr 4 [delC x], .arr 3 [recC r]]) [0, 1, 2, 3, 4] (by simp)
        ⟨⟨_, rfl, .same _ _ psl⟩, ⟨_, rfl, .same _ _ (pureS s)⟩, ⟨_, rfl, .same _ _ (pureVO U)⟩, ⟨_, rfl, .same _ _ rfl⟩, ⟨_, rfl, obR (pubRow (id := 5) (by simp) rfl (vC_length _)) rfl⟩, trivial⟩ rfl
        ⟨.keepP 0 1 0 0 0 rfl, .keepP 1 1 0 0 1 rfl, .keep 2 _ _ _ 2 rfl, .closed _ rfl, .keepP 3 1 0 0 3 rfl, .closed _ rfl, .keepP 4 1 0 0 4 rfl, trivial⟩ ?_
       rintro ρ ⟨d, rfl⟩
       (conv => whnf); refine recT (by rw [vsC_length]; exact Nat.beq_refl _) ?_
       (conv => whnf); refine And.intro (⟨roomMul (by simp; omega) (by omega), roomB_le (by simp; omega), rfl, by rw [vsC_length]⟩) ?_
       conv => whnf
       have hcn : vsC U ++ [verC ⟨r, k, j⟩] = vsC (U ++ [⟨r, k, j⟩]) := by rw [vsC_append]; rfl
       have hl2 : (vsC U ++ [verC ⟨r, k, j⟩]).length = (U ++ [(⟨r, k, j⟩ : Ver)]).length := by rw [hcn, vsC_length]
       have hp5 : ([.arr 1 [ledC l], .arr 7 [souC s], .arr 5 (vsC U ++ [verC ⟨r, k, j⟩]), .arr 4 [delC x]] : List AObj).all pureO = true := by
        rw [hcn, List.all_cons, psl, List.all_cons, pureS, List.all_cons, pureVO]; rfl
       refine ⟨m2 - 1, by omega, Gp.first 4 [.arr 1 [ledC l], .arr 7 [souC s], .arr 5 (vsC U ++ [verC ⟨r, k, j⟩]), .arr 4 [delC x]] rfl rfl hp5 rfl ?_ fun ρ1 h => ⟨j + 1, U ++ [⟨r, k, j⟩], by omega, by simp; omega, by rw [← hr, if_pos heq]; simp, by rw [hcn], h⟩⟩
       exact ⟨.keepP 0 1 0 0 0 rfl, .keepP 1 1 0 0 1 rfl, pubSl (k := 2) rfl rfl hl2 hl2, .closed _ rfl, .keepP 3 1 0 0 3 rfl, pub_int ej, trivial⟩
      ·simp at h3
       rw [if_neg (fun h => h3 h.2.2)] at hr
       have hr2 : U ++ ((if eqS x.f.src s.name then couR s k x.jd (j + 1) (x.f.recs.drop (j + 1)) else []) ++ couL s (k + 1) (l.drop (k + 1))) = couL s 0 l := by rw [if_pos heq]; exact hr
       conv => whnf
       refine ⟨m2 - 1, by omega, Gp.first 4 [.arr 1 [ledC l], .arr 7 [souC s], vO U, .arr 4 [delC x]] rfl rfl hp4 rfl ?_ fun ρ1 h => ⟨j + 1, U, by omega, by omega, by rw [← hr2], rfl, h⟩⟩
       exact ⟨.keepP 0 1 0 0 0 rfl, .keepP 1 1 0 0 1 rfl, .keep 2 _ _ _ 2 rfl, .closed _ rfl, .keepP 3 1 0 0 3 rfl, pub_int ej, trivial⟩
     ·simp at h2
      repeat ((conv => whnf); refine And.intro rfl ?_)
      rw [if_neg (fun h => h2 (hjd ▸ h.2.1))] at hr
      have hr2 : U ++ ((if eqS x.f.src s.name then couR s k x.jd (j + 1) (x.f.recs.drop (j + 1)) else []) ++ couL s (k + 1) (l.drop (k + 1))) = couL s 0 l := by rw [if_pos heq]; exact hr
      conv => whnf
      refine ⟨m2 - 1, by omega, Gp.first 4 [.arr 1 [ledC l], .arr 7 [souC s], vO U, .arr 4 [delC x]] rfl rfl hp4 rfl ?_ fun ρ1 h => ⟨j + 1, U, by omega, by omega, by rw [← hr2], rfl, h⟩⟩
      exact ⟨.keepP 0 1 0 0 0 rfl, .keepP 1 1 0 0 1 rfl, .keep 2 _ _ _ 2 rfl, .closed _ rfl, .keepP 3 1 0 0 3 rfl, pub_int ej, trivial⟩
    ·simp [iC_length] at h1
     repeat ((conv => whnf); refine And.intro rfl ?_)
     rw [if_neg (fun h => by omega)] at hr
     have hr2 : U ++ ((if eqS x.f.src s.name then couR s k x.jd (j + 1) (x.f.recs.drop (j + 1)) else []) ++ couL s (k + 1) (l.drop (k + 1))) = couL s 0 l := by rw [if_pos heq]; exact hr
     conv => whnf
     refine ⟨m2 - 1, by omega, Gp.first 4 [.arr 1 [ledC l], .arr 7 [souC s], vO U, .arr 4 [delC x]] rfl rfl hp4 rfl ?_ fun ρ1 h => ⟨j + 1, U, by omega, by omega, by rw [← hr2], rfl, h⟩⟩
     exact ⟨.keepP 0 1 0 0 0 rfl, .keepP 1 1 0 0 1 rfl, .keep 2 _ _ _ 2 rfl, .closed _ rfl, .keepP 3 1 0 0 3 rfl, pub_int ej, trivial⟩
   ·replace heq : eqS x.f.src s.name = false := heq
    rw [if_neg (by simp [heq]), List.nil_append] at hr
    conv => whnf
    refine ⟨m - 1, by omega, Gp.first 3 [.arr 1 [ledC l], .arr 7 [souC s], vO U] rfl rfl (by rw [List.all_cons, psl, List.all_cons, pureS, List.all_cons, pureVO]; rfl) rfl ?_ fun ρ1 h => ⟨k + 1, U, by omega, by omega, hr, rfl, h⟩⟩
    exact ⟨.keepP 0 1 0 0 0 rfl, .keepP 1 1 0 0 1 rfl, .keep 2 _ _ _ 2 rfl, pub_int (wrapI _ (by omega) (by omega)), trivial⟩
  ·simp [rC_length] at hlt2
   rw [List.drop_of_length_le (by omega), couR, ite_self, List.nil_append] at hr
   conv => whnf
   refine ⟨m - 1, by omega, Gp.first 3 [.arr 1 [ledC l], .arr 7 [souC s], vO U] rfl rfl (by rw [List.all_cons, psl, List.all_cons, pureS, List.all_cons, pureVO]; rfl) rfl ?_ fun ρ1 h => ⟨k + 1, U, by omega, by omega, hr, rfl, h⟩⟩
   exact ⟨.keepP 0 1 0 0 0 rfl, .keepP 1 1 0 0 1 rfl, .keep 2 _ _ _ 2 rfl, pub_int (wrapI _ (by omega) (by omega)), trivial⟩
 ·simp [dsC_length] at hlt
  rw [List.drop_of_length_le (by omega), couL, List.append_nil] at hr
  conv => whnf
  refine pubFxH (es := vsC (couL s 0 l)) (es' := vsC U0) rfl (by rw [hr]) (by rw [← hr, vsC_length]) (by rw [← hr, vsC_length]) (pureEs_vsC _)

end Go.AW

namespace Go.AW
variable [Draws]
attribute [local irreducible] ACalls
def latV (s : Sou) : List Ver → Int → Int
 | [], a => a
 | v :: vs, a => latV s vs (max a (timeV s v.rc))

theorem couR_mem {s : Sou} {i : Nat} {jd : List Int} : ∀ {rs : List Rec} {k : Nat} {v : Ver}, v ∈ couR s i jd k rs → v.rc ∈ rs ∧ fitsV s v.rc = 0 ∧ v.file = i ∧ ∃ j, j < rs.length ∧ v.place = ((k + j : Nat) : Int) ∧ rs[j]? = some v.rc
 | [], k, v, h => by cases h
 | r :: rs, k, v, h => by
  rw [couR] at h
  split at h
  ·rename_i hc
   rcases List.mem_cons.1 h with rfl | h
   ·exact ⟨List.mem_cons_self .., hc.2.2, rfl, 0, by simp, rfl, rfl⟩
   ·obtain ⟨a, b, c, j, d, e, g⟩ := couR_mem h
    exact ⟨List.mem_cons_of_mem _ a, b, c, j + 1, by simp; omega, by rw [e]; omega, g⟩
  ·obtain ⟨a, b, c, j, d, e, g⟩ := couR_mem h
   exact ⟨List.mem_cons_of_mem _ a, b, c, j + 1, by simp; omega, by rw [e]; omega, g⟩

theorem couL_mem {s : Sou} : ∀ {l : List Del} {i : Nat} {v : Ver}, v ∈ couL s i l → ∃ k x, l[k]? = some x ∧ v ∈ couR s (i + k) x.jd 0 x.f.recs
 | [], i, v, h => by cases h
 | x :: l, i, v, h => by
  rw [couL] at h
  rcases List.mem_append.1 h with h | h
  ·refine ⟨0, x, rfl, ?_⟩
   unfold couD at h
   split at h
   ·exact h
   ·cases h
  ·obtain ⟨k, y, h1, h2⟩ := couL_mem h
   exact ⟨k + 1, y, h1, by rw [show i + (k + 1) = i + 1 + k by omega]; exact h2⟩

theorem couL_fits {s : Sou} {l : List Del} {i : Nat} {v : Ver} (h : v ∈ couL s i l) : okV s v := by
 obtain ⟨k, x, _, h2⟩ := couL_mem h
 exact (couR_mem h2).2.1

theorem couL_len (s : Sou) : ∀ (l : List Del) (i : Nat) (n : Nat), (∀ x ∈ l, x.f.recs.length ≤ n) → (couL s i l).length ≤ n * l.length
 | [], _, _, _ => by simp [couL]
 | x :: l, i, n, h => by
  have := couL_len s l (i + 1) n fun y hy => h y (List.mem_cons_of_mem _ hy)
  have h1 := h x (List.mem_cons_self ..)
  have h2 : (couD s i x).length ≤ x.f.recs.length := by
   unfold couD
   split
   ·exact couR_len ..
   ·simp
  rw [couL, List.length_append, List.length_cons, Nat.mul_succ]
  omega

set_option maxRecDepth 20000 in
theorem Latest_spec {P : Program} (F : F_z2r P) (s : Sou) (hs : s.ok) (l : List Del) (hl : l.length ≤ 100) (hok : ∀ x ∈ l, x.ok) (H : List AObj) :
  ACalls P F.id [.agg (ledC l), .agg (souC s)] H (fun r H' => r = .int .i64 (latV s (couL s 0 l) (-1)) ∧ H' = H) := by
 refine ACalls.pure (by simp [souC, ledC, AVal.closed, AVal.isPure]) (acalls_of_body F.has ?_)
 (conv => whnf); refine ACalls.use (counted_spec F.z2w s hs l (by omega) hok _) ?_
 have hlen := couL_len s l 0 1000 fun x hx => (hok x hx).1
 have hrow : ∀ v ∈ couL s 0 l, v.rc.row.length ≤ 1000000 := fun v hv => by
  have := fits_len (couL_fits hv)
  have := hs.1
  omega
 generalize couL s 0 l = vs at hlen hrow
 conv => whnf
 refine ⟨fun m ρ H1 => ∃ (k : Nat) (a : Int), k + m = vs.length ∧ latV s (vs.drop k) a = latV s vs (-1) ∧ H1 = [.arr 1 [ledC l], .arr 7 [souC s]] ∧ Sv 24 [(3, .ptr 1 1 0 0), (5, .int .i64 a), (10, .list false 5 (vsC vs)), (11, .int .i64 vs.length), (12, .int .i64 k)] ρ, vs.length, [], ?_, ?_⟩
 ·exact ⟨0, -1, by omega, rfl, rfl, Sv.intro rfl ⟨rfl, rfl, rfl, intEq (by rw [vsC_length]), rfl, trivial⟩⟩
 rintro m ρ H1 ⟨k, a, hk, hr, rfl, d, rfl⟩
 (conv => whnf); refine recA (fun hlt => ?_) (fun hlt => ?_)
 ·simp at hlt
  have hx : vs[k]? = some vs[k] := List.getElem?_eq_getElem hlt
  have hv := hrow _ (List.getElem_mem hlt)
  generalize vs[k] = v at hx hv
  rw [drop_cons hx, latV] at hr
  (conv => whnf); refine And.intro (by omega) ?_
  (conv => whnf); refine recO (vsC_at hx) ?_
  (conv => whnf); refine ACalls.use (time25_spec F.z2l s hs v.rc hv _) ?_
  conv => whnf
  refine ⟨m - 1, by omega, Gp.first 2 [.arr 1 [ledC l], .arr 7 [souC s]] rfl rfl (all2 rfl (pureS s)) rfl ?_ fun ρ1 h => ⟨k + 1, max a (timeV s v.rc), by omega, hr, rfl, h⟩⟩
  exact ⟨.keepP 1 1 0 0 1 rfl, pub_int (by omega), .closed _ rfl, .closed _ rfl, pub_int (wrapI _ (by omega) (by omega)), trivial⟩
 ·simp at hlt
  rw [List.drop_of_length_le (by omega), latV] at hr
  conv => whnf
  exact pubI hr

end Go.AW

namespace Go.AW
variable [Draws]
attribute [local irreducible] ACalls
noncomputable def dupGo (f : Fil) : List Del → Nat → Int → Option Int
 | [], _, q => some q
 | x :: l, k, q => if eqS x.f.id f.id then (if eqD x.f f then dupGo f l (k + 1) (if q < 0 then k else q) else none) else dupGo f l (k + 1) q

def newJ (s : Sou) (l : List Del) (f : Fil) : List Int := f.recs.map (judgeV s (markV s.late (latV s (couL s 0 l) (-1))))

def newD (s : Sou) (l : List Del) (f : Fil) : Del := ⟨f, newJ s l f⟩

def zDelC : List AVal := [.str (bs []), .str (bs []), .nil, .nil]

noncomputable def accX (s : Sou) (l : List Del) (f : Fil) (jv : AVal) : AVal :=
 if encFE f ≠ 0 then .tuple [.agg [.nil], .agg zDelC, .bool false, .int .i64 (encFE f)]
 else match dupGo f l 0 (-1) with
  | none => .tuple [.agg [.nil], .agg zDelC, .bool false, .int .i64 6]
  | some q => if 0 ≤ q then .tuple [.agg (ledC l), .agg (delC (l.getD q.toNat ⟨f, []⟩)), .bool false, .int .i64 0]
   else .tuple [.agg (ledC (l ++ [newD s l f])), .agg [.str f.id, .str f.src, .list false 3 (rC f.recs), jv], .bool true, .int .i64 0]

theorem pub4 {H1 : List AObj} {n : Nat} {ids : List Nat} {a b c d r s t u : AVal} (h1 : Pub H1 n ids a r) (h2 : Pub H1 n ids b s) (h3 : Pub H1 n ids c t) (h4 : Pub H1 n ids d u) : Pub H1 n ids (.tuple [a, b, c, d]) (.tuple [r, s, t, u]) := by
 refine .tuple _ _ rfl fun i v w e1 e2 => ?_
 rcases i with _ | _ | _ | _ | i
 ·cases e1; cases e2; exact h1
 ·cases e1; cases e2; exact h2
 ·cases e1; cases e2; exact h3
 ·cases e1; cases e2; exact h4
 ·simp at e1

theorem pubA1 {H1 : List AObj} {n : Nat} {ids : List Nat} {a r : AVal} (h1 : Pub H1 n ids a r) : Pub H1 n ids (.agg [a]) (.agg [r]) := by
 refine .agg _ _ rfl fun i v w e1 e2 => ?_
 rcases i with _ | i
 ·cases e1; cases e2; exact h1
 ·simp at e1

theorem ob4 {H : List AObj} {ids : List Nat} {a b : ByteArray} {r : AVal} (hr : r.isPure = true) {c c1 : AVal} (h : Pub H 0 ids c c1) (hc : c1.isCell = true) : ObP H ids (.arr 4 [[.str a, .str b, r, c]]) (.arr 4 [[.str a, .str b, r, c1]]) := by
 refine obSnoc 4 [] [[.str a, .str b, r, c1]] [.str a, .str b, r, c] _ rfl rfl rfl fun j d d1 h1 h2 => ?_
 rcases j with _ | _ | _ | _ | j
 ·cases h1; cases h2; exact ⟨.closed _ rfl, rfl⟩
 ·cases h1; cases h2; exact ⟨.closed _ rfl, rfl⟩
 ·cases h1; cases h2; exact ⟨.closed _ (AVal.closed_of_isPure hr), AVal.isCell_of_isPure hr⟩
 ·cases h1; cases h2; exact ⟨h, hc⟩
 ·simp at h1

theorem pubDel {H1 : List AObj} {n : Nat} {ids : List Nat} {id ep len : Nat} {es : List (List AVal)} {l : List Del} (hid : id ∉ ids) (ho : H1[id]? = some (.arr 4 es)) (he : es = dsC l) (h1 : ep = l.length) (h2 : len = l.length) : Pub H1 n ids (.agg [.sl id ep 0 len]) (.agg (ledC l)) := by
 subst he h1 h2
 exact pubA1 (pubFI hid ho (dsC_length _).symm (dsC_length _).symm (pureEs_dsC _))

set_option maxHeartbeats 2000000 in
set_option maxRecDepth 20000 in
theorem accept_raw {P : Program} (F : F_z2u P) (s : Sou) (hs : s.ok) (hz : s.zone = bs [122]) (hnm : s.name.size ≤ 50000) (l : List Del) (hl : l.length ≤ 50) (hok : ∀ x ∈ l, x.ok) (id : ByteArray) (hid : id.size ≤ 50000) (recs : List Rec) (hf : recs.length ≤ 1000) (hr : ∀ r ∈ recs, r.row.length ≤ 1000) (H : List AObj) :
  ACalls P F.id [.agg (ledC l), .agg (defC s), .agg (fV ⟨id, s.name, recs⟩)] H (fun r H' => (r = accX s l ⟨id, s.name, recs⟩ (.list false 1 (iC (newJ s l ⟨id, s.name, recs⟩))) ∨ (recs = [] ∧ r = accX s l ⟨id, s.name, recs⟩ .nil)) ∧ H' = H) := by
 refine ACalls.lift0 (by simp [ledC, defC, fV, AVal.closed, AVal.isPure]) (acalls_of_body F.has ?_)
 obtain ⟨f, hfd⟩ : ∃ f : Fil, f = ⟨id, s.name, recs⟩ := ⟨_, rfl⟩
 have hf1 : f.recs = recs := by rw [hfd]
 have hf2 : f.src = s.name := by rw [hfd]
 have hf3 : f.id = id := by rw [hfd]
 rw [← hfd]
 rw [← hf1] at hf hr ⊢
 rw [← hf3] at hid
 clear hfd hf1 hf3 recs id
 (conv => whnf); refine ACalls.use (hf2 ▸ zoneOf_spec F.z2x s hz _) ?_
 (conv => whnf); refine ACalls.use (ref24_Encode_spec F.z2c f hid (by rw [hf2]; exact hnm) _) ?_
 by_cases he : encFE f = 0
 ·rw [show encFR f = .tuple [.list false 1 (bC (filB f)), .int .i64 0] from if_pos he]
  conv => whnf
  refine ⟨fun m ρ H1 => ∃ (k : Nat) (q : Int), k + m = l.length ∧ dupGo f (l.drop k) k q = dupGo f l 0 (-1) ∧ q < l.length ∧ H1 = [.arr 1 [ledC l], .arr 6 [defC s], .arr 3 [fV f], .arr 1 [[.nil]], .arr 4 [zDelC], .arr 7 [souC s], .arr 3 [zonC]] ∧ Sv 129 [(3, .ptr 0 1 0 0), (5, .ptr 2 1 0 0), (6, .ptr 3 1 0 0), (7, .ptr 4 1 0 0), (10, .ptr 5 1 0 0), (11, .ptr 6 1 0 0), (15, .int .i64 q), (16, .int .i64 k)] ρ, l.length, [], ?_, ?_⟩
  ·exact ⟨0, -1, by omega, rfl, by omega, rfl, Sv.intro rfl ⟨rfl, rfl, rfl, rfl, rfl, rfl, rfl, rfl, trivial⟩⟩
  rintro m ρ H1 ⟨k, q, hk, hdup, hq, rfl, d, rfl⟩
  (conv => whnf); refine recA (fun hlt => ?_) (fun hlt => ?_)
  ·simp [dsC_length] at hlt
   have hx : l[k]? = some l[k] := List.getElem?_eq_getElem hlt
   have hxo := hok _ (List.getElem_mem hlt)
   generalize l[k] = x at hx hxo
   have ek : IntKind.i64.wrap ((k : Int) + 1) = ((k + 1 : Nat) : Int) := by rw [wrapI _ (by omega) (by omega)]; omega
   rw [drop_cons hx, dupGo] at hdup
   (conv => whnf); refine And.intro (by omega) ?_
   (conv => whnf); refine recO (dsC_at hx) ?_
   repeat ((conv => whnf); refine And.intro rfl ?_)
   (conv => whnf); refine recA (fun h1 => ?_) (fun h1 => ?_)
   ·replace h1 : (!(eqS x.f.id f.id)) = true := h1
    rw [if_neg (by simpa using h1)] at hdup
    conv => whnf
    refine ⟨m - 1, by omega, Gp.keep rfl ?_ fun ρ1 h => ⟨k + 1, q, by omega, hdup, hq, rfl, h⟩⟩
    exact ⟨rfl, rfl, rfl, rfl, rfl, rfl, rfl, intEq ek, trivial⟩
   replace h1 : (!(eqS x.f.id f.id)) = false := h1
   rw [if_pos (by simpa using h1)] at hdup
   (conv => whnf); refine And.intro (by omega) ?_
   (conv => whnf); refine recO (dsC_at hx) ?_
   (conv => whnf); refine ⟨_, SameFile_spec F.z2d x.f f (by have := hxo.1; omega) (fun r h => by have := hxo.2.1 r h; omega) _, ?_⟩
   repeat ((conv => whnf); refine And.intro rfl ?_)
   (conv => whnf); refine recA (fun h2 => ?_) (fun h2 => ?_)
   ·replace h2 : (!(eqD x.f f)) = true := h2
    rw [if_neg (by simpa using h2)] at hdup
    conv => whnf
    refine ⟨accX s l f (.list false 1 (iC (newJ s l f))), ?_, .inl rfl⟩
    rw [accX, if_neg (by simp [he]), ← hdup]
    exact pub4 (.closed _ rfl) (.closed _ rfl) (.closed _ rfl) (.closed _ rfl)
   replace h2 : (!(eqD x.f f)) = false := h2
   rw [if_pos (by simpa using h2)] at hdup
   (conv => whnf); refine recA (fun h3 => ?_) (fun h3 => ?_)
   ·simp at h3
    rw [if_pos h3] at hdup
    conv => whnf
    refine ⟨m - 1, by omega, Gp.keep rfl ?_ fun ρ1 h => ⟨k + 1, k, by omega, hdup, by omega, rfl, h⟩⟩
    exact ⟨rfl, rfl, rfl, rfl, rfl, rfl, rfl, intEq ek, trivial⟩
   ·simp at h3
    rw [if_neg (by omega)] at hdup
    conv => whnf
    refine ⟨m - 1, by omega, Gp.keep rfl ?_ fun ρ1 h => ⟨k + 1, q, by omega, hdup, hq, rfl, h⟩⟩
    exact ⟨rfl, rfl, rfl, rfl, rfl, rfl, rfl, intEq ek, trivial⟩
  ·simp [dsC_length] at hlt
   rw [List.drop_of_length_le (by omega), dupGo] at hdup
   (conv => whnf); refine ACalls.mono (CopyLedger_own F.z2p l (by omega) hok _) ?_
   rintro r H' (⟨h0, rfl, rfl⟩ | ⟨hne, rfl, rfl⟩)
   ·rw [h0, List.length_nil] at hq
    (conv => whnf); refine recF (by simp; omega) ?_
    (conv => whnf); refine recF (by rw [dsC_length]; simp; omega) ?_
    (conv => whnf); refine ACalls.use (CopyFile_spec F.z2b f hf hr _) ?_
    (conv => whnf); refine ⟨_, Latest_spec F.z2r s hs l (by omega) hok _, ?_⟩
    (conv => whnf); refine ⟨_, mark_spec F.z2j s _ _, ?_⟩
    repeat ((conv => whnf); refine And.intro rfl ?_)
    have hJ : newJ s l f = f.recs.map (judgeV s (markV s.late (latV s (couL s 0 l) (-1)))) := rfl
    have hJl : (newJ s l f).length = f.recs.length := by rw [hJ, List.length_map]
    generalize markV s.late (latV s (couL s 0 l) (-1)) = mk at hJ
    have hD : newD s l f = ⟨f, newJ s l f⟩ := rfl
    generalize newJ s l f = J at hJ hJl hD
    conv => whnf
    refine ⟨fun m ρ H1 => ∃ j : Nat, j + m = f.recs.length ∧ ((j = 0 ∧ H1 = [.arr 1 [ledC l], .arr 6 [defC s], .arr 3 [fV f], .arr 1 [[.nil]], .arr 4 [zDelC], .arr 7 [souC s], .arr 3 [zonC], .arr 1 [[.nil]], .arr 4 [[.str f.id, .str f.src, .list false 3 (rC f.recs), .nil]]]) ∨ (j ≠ 0 ∧ H1 = [.arr 1 [ledC l], .arr 6 [defC s], .arr 3 [fV f], .arr 1 [[.nil]], .arr 4 [zDelC], .arr 7 [souC s], .arr 3 [zonC], .arr 1 [[.nil]], .arr 4 [[.str f.id, .str f.src, .list false 3 (rC f.recs), .sl 9 j 0 j]], .arr 1 (iC (J.take j))])) ∧ Sv 129 [(5, .ptr 2 1 0 0), (6, .ptr 3 1 0 0), (7, .ptr 4 1 0 0), (10, .ptr 5 1 0 0), (11, .ptr 6 1 0 0), (17, .ptr 7 1 0 0), (18, .ptr 8 1 0 0), (19, .int .i64 mk), (20, .int .i64 j)] ρ, f.recs.length, [], ?_, ?_⟩
    ·exact ⟨0, by omega, .inl ⟨rfl, rfl⟩, Sv.intro rfl ⟨rfl, rfl, rfl, rfl, rfl, rfl, rfl, rfl, rfl, trivial⟩⟩
    rintro m ρ H1 ⟨j, hj, ⟨rfl, rfl⟩ | ⟨hj0, rfl⟩, d, rfl⟩
    ·(conv => whnf); refine recA (fun hlt => ?_) (fun hlt => ?_)
     ·simp [rC_length] at hlt
      have hx : f.recs[0]? = some f.recs[0] := List.getElem?_eq_getElem hlt
      have hrl := hr _ (List.getElem_mem hlt)
      generalize f.recs[0] = r at hx hrl
      have hT : J.take (0 + 1) = J.take 0 ++ [judgeV s mk r] := take_snoc (by rw [hJ, List.getElem?_map, hx]; rfl)
      (conv => whnf); refine And.intro (by omega) ?_
      (conv => whnf); refine recO (rC_at hx) ?_
      (conv => whnf); refine ⟨_, judge_spec F.z2i s hs mk r (by omega) _, ?_⟩
      (conv => whnf); refine And.intro (⟨roomMul (by simp) (by omega), roomB_le (by simp)⟩) ?_
      repeat ((conv => whnf); refine And.intro rfl ?_)
      conv => whnf
      refine ⟨m - 1, by omega, Gp.keep rfl ?_ fun ρ1 h => ⟨1, by omega, .inr ⟨by omega, ?_⟩, h⟩⟩
      ·exact ⟨rfl, rfl, rfl, rfl, rfl, rfl, rfl, rfl, intEq (wrapI _ (by omega) (by omega)), trivial⟩
      ·rw [hT]; rfl
     ·simp [rC_length] at hlt
      have hrn : f.recs = [] := hlt
      have hJn : J = [] := List.length_eq_zero_iff.1 (by rw [hJl, hrn]; rfl)
      conv => whnf
      refine Ghost.some (n := 129) (live := [(6, .ptr 0 1 0 0), (7, .ptr 1 1 0 0), (17, .ptr 2 1 0 0), (18, .ptr 3 1 0 0)]) (H1 := [.arr 1 [[.nil]], .arr 4 [zDelC], .arr 1 [[.nil]], .arr 4 [[.str f.id, .str f.src, .list false 3 (rC f.recs), .nil]]]) [3, 4, 7, 8] (by simp) ⟨⟨_, rfl, .same _ _ rfl⟩, ⟨_, rfl, .same _ _ rfl⟩, ⟨_, rfl, .same _ _ rfl⟩, ⟨_, rfl, .same _ _ rfl⟩, trivial⟩ rfl ⟨.keepP 3 1 0 0 0 rfl, .keepP 4 1 0 0 1 rfl, .keepP 7 1 0 0 2 rfl, .keepP 8 1 0 0 3 rfl, trivial⟩ ?_
      rintro ρ ⟨d, rfl⟩
      (conv => whnf); refine ⟨_, copyDelivery_nil F.z2v f hf hr _, ?_⟩
      (conv => whnf); refine And.intro (⟨roomMul (by simp) (by omega), roomB_le (by simp)⟩) ?_
      repeat ((conv => whnf); refine And.intro rfl ?_)
      conv => whnf
      have hcn : dsC ([] : List Del) ++ [delC ⟨f, []⟩] = dsC (([] : List Del) ++ [(⟨f, []⟩ : Del)]) := by rw [dsC_append]; rfl
      have hcl : (dsC ([] : List Del) ++ [delC ⟨f, []⟩]).length = (([] : List Del) ++ [(⟨f, []⟩ : Del)]).length := by rw [hcn, dsC_length]
      have hX : accX s l f (.nil) = .tuple [.agg (ledC (([] : List Del) ++ [⟨f, []⟩])), .agg [.str f.id, .str f.src, .list false 3 (rC f.recs), (.nil)], .bool true, .int .i64 0] := by rw [accX, if_neg (by simp [he]), ← hdup]; simp only []; rw [if_neg (by omega), hD, h0, hJn]
      refine ⟨accX s l f (.nil), ?_, .inr ⟨hrn, rfl⟩⟩
      rw [hX]
      exact pub4 (pubDel (es := dsC ([] : List Del) ++ [delC ⟨f, []⟩]) (by simp) rfl hcn hcl hcl) (.closed _ rfl) (.closed _ rfl) (.closed _ rfl)
    ·(conv => whnf); refine recA (fun hlt => ?_) (fun hlt => ?_)
     ·simp [rC_length] at hlt
      have hx : f.recs[j]? = some f.recs[j] := List.getElem?_eq_getElem hlt
      have hrl := hr _ (List.getElem_mem hlt)
      generalize f.recs[j] = r at hx hrl
      have hT : J.take (j + 1) = J.take j ++ [judgeV s mk r] := take_snoc (by rw [hJ, List.getElem?_map, hx]; rfl)
      (conv => whnf); refine And.intro (by omega) ?_
      (conv => whnf); refine recO (rC_at hx) ?_
      (conv => whnf); refine ⟨_, judge_spec F.z2i s hs mk r (by omega) _, ?_⟩
      have hjl : (J.take j).length = j := by rw [List.length_take]; omega
      (conv => whnf); refine recT (by rw [iC_length, hjl]; exact Nat.beq_refl _) ?_
      (conv => whnf); refine And.intro (⟨roomMul (by simp; omega) (by omega), roomB_le (by simp; omega), rfl, by rw [iC_length, hjl]⟩) ?_
      repeat ((conv => whnf); refine And.intro rfl ?_)
      conv => whnf
      have hcn : iC (J.take j) ++ [[AVal.int .i64 (judgeV s mk r)]] = iC (J.take (j + 1)) := by rw [hT, iC_append]; rfl
      have hcl : (iC (J.take j) ++ [[AVal.int .i64 (judgeV s mk r)]]).length = j + 1 := by rw [List.length_append, iC_length, hjl]; rfl
      refine ⟨m - 1, by omega, Gp.keep rfl ?_ fun ρ1 h => ⟨j + 1, by omega, .inr ⟨by omega, ?_⟩, h⟩⟩
      ·exact ⟨rfl, rfl, rfl, rfl, rfl, rfl, rfl, rfl, intEq (wrapI _ (by omega) (by omega)), trivial⟩
      ·have gen : ∀ Y : List (List AVal), Y = iC (J.take (j + 1)) → Y.length = j + 1 → ([.arr 1 [ledC l], .arr 6 [defC s], .arr 3 [fV f], .arr 1 [[.nil]], .arr 4 [zDelC], .arr 7 [souC s], .arr 3 [zonC], .arr 1 [[.nil]], .arr 4 [[.str f.id, .str f.src, .list false 3 (rC f.recs), .sl 9 Y.length 0 Y.length]], .arr 1 Y] : List AObj) = [.arr 1 [ledC l], .arr 6 [defC s], .arr 3 [fV f], .arr 1 [[.nil]], .arr 4 [zDelC], .arr 7 [souC s], .arr 3 [zonC], .arr 1 [[.nil]], .arr 4 [[.str f.id, .str f.src, .list false 3 (rC f.recs), .sl 9 (j + 1) 0 (j + 1)]], .arr 1 (iC (J.take (j + 1)))] := by
        rintro Y rfl h
        rw [h]
       exact gen _ hcn hcl
     ·simp [rC_length] at hlt
      have hTj : J.take j = J := List.take_of_length_le (by omega)
      rw [hTj]
      conv => whnf
      refine Ghost.some (n := 129) (live := [(6, .ptr 0 1 0 0), (7, .ptr 1 1 0 0), (17, .ptr 2 1 0 0), (18, .ptr 3 1 0 0)]) (H1 := [.arr 1 [[.nil]], .arr 4 [zDelC], .arr 1 [[.nil]], .arr 4 [[.str f.id, .str f.src, .list false 3 (rC f.recs), .list false 1 (iC J)]]]) [3, 4, 7, 8] (by simp) ⟨⟨_, rfl, .same _ _ rfl⟩, ⟨_, rfl, .same _ _ rfl⟩, ⟨_, rfl, .same _ _ rfl⟩, ⟨_, rfl, ob4 rfl (pubFI (by simp) rfl (by rw [iC_length]; omega) (by rw [iC_length]; omega) (pureEs_iC J)) rfl⟩, trivial⟩ rfl ⟨.keepP 3 1 0 0 0 rfl, .keepP 4 1 0 0 1 rfl, .keepP 7 1 0 0 2 rfl, .keepP 8 1 0 0 3 rfl, trivial⟩ ?_
      rintro ρ ⟨d, rfl⟩
      (conv => whnf); refine ⟨_, copyDelivery_spec F.z2v ⟨f, J⟩ ⟨hf, hr, by show J.length ≤ 1000; omega⟩ _, ?_⟩
      (conv => whnf); refine And.intro (⟨roomMul (by simp) (by omega), roomB_le (by simp)⟩) ?_
      repeat ((conv => whnf); refine And.intro rfl ?_)
      conv => whnf
      have hcn : dsC ([] : List Del) ++ [delC ⟨f, J⟩] = dsC (([] : List Del) ++ [(⟨f, J⟩ : Del)]) := by rw [dsC_append]; rfl
      have hcl : (dsC ([] : List Del) ++ [delC ⟨f, J⟩]).length = (([] : List Del) ++ [(⟨f, J⟩ : Del)]).length := by rw [hcn, dsC_length]
      have hX : accX s l f (.list false 1 (iC J)) = .tuple [.agg (ledC (([] : List Del) ++ [⟨f, J⟩])), .agg [.str f.id, .str f.src, .list false 3 (rC f.recs), (.list false 1 (iC J))], .bool true, .int .i64 0] := by rw [accX, if_neg (by simp [he]), ← hdup]; simp only []; rw [if_neg (by omega), hD, h0]
      refine ⟨accX s l f (.list false 1 (iC J)), ?_, .inl rfl⟩
      rw [hX]
      exact pub4 (pubDel (es := dsC ([] : List Del) ++ [delC ⟨f, J⟩]) (by simp) rfl hcn hcl hcl) (.closed _ rfl) (.closed _ rfl) (.closed _ rfl)
   ·(conv => whnf); refine recA (fun h4 => ?_) (fun h4 => ?_)
    ·simp at h4
     have hx : l[q.toNat]? = some (l.getD q.toNat ⟨f, []⟩) := by rw [List.getD_eq_getElem?_getD, List.getElem?_eq_getElem (by omega)]; rfl
     have hxo := hok _ (List.mem_of_getElem? hx)
     (conv => whnf); refine And.intro (by omega) ?_
     (conv => whnf); refine recO (dsC_at hx) ?_
     (conv => whnf); refine ⟨_, copyDelivery_spec F.z2v _ hxo _, ?_⟩
     repeat ((conv => whnf); refine And.intro rfl ?_)
     conv => whnf
     refine ⟨accX s l f (.list false 1 (iC (newJ s l f))), ?_, .inl rfl⟩
     rw [accX, if_neg (by simp [he]), ← hdup]
     simp only []
     rw [if_pos h4]
     exact pub4 (pubDel (es := dsC l) (by simp) rfl rfl rfl rfl) (.closed _ rfl) (.closed _ rfl) (.closed _ rfl)
    simp at h4
    (conv => whnf); refine recF (by rw [dsC_length]; simp; omega) ?_
    (conv => whnf); refine ACalls.use (CopyFile_spec F.z2b f hf hr _) ?_
    (conv => whnf); refine ⟨_, Latest_spec F.z2r s hs l (by omega) hok _, ?_⟩
    (conv => whnf); refine ⟨_, mark_spec F.z2j s _ _, ?_⟩
    repeat ((conv => whnf); refine And.intro rfl ?_)
    have hJ : newJ s l f = f.recs.map (judgeV s (markV s.late (latV s (couL s 0 l) (-1)))) := rfl
    have hJl : (newJ s l f).length = f.recs.length := by rw [hJ, List.length_map]
    generalize markV s.late (latV s (couL s 0 l) (-1)) = mk at hJ
    have hD : newD s l f = ⟨f, newJ s l f⟩ := rfl
    generalize newJ s l f = J at hJ hJl hD
    conv => whnf
    refine ⟨fun m ρ H1 => ∃ j : Nat, j + m = f.recs.length ∧ ((j = 0 ∧ H1 = [.arr 1 [ledC l], .arr 6 [defC s], .arr 3 [fV f], .arr 1 [[.nil]], .arr 4 [zDelC], .arr 7 [souC s], .arr 3 [zonC], .arr 4 (dsC l), .arr 1 [[.sl 7 l.length 0 l.length]], .arr 4 [[.str f.id, .str f.src, .list false 3 (rC f.recs), .nil]]]) ∨ (j ≠ 0 ∧ H1 = [.arr 1 [ledC l], .arr 6 [defC s], .arr 3 [fV f], .arr 1 [[.nil]], .arr 4 [zDelC], .arr 7 [souC s], .arr 3 [zonC], .arr 4 (dsC l), .arr 1 [[.sl 7 l.length 0 l.length]], .arr 4 [[.str f.id, .str f.src, .list false 3 (rC f.recs), .sl 10 j 0 j]], .arr 1 (iC (J.take j))])) ∧ Sv 129 [(5, .ptr 2 1 0 0), (6, .ptr 3 1 0 0), (7, .ptr 4 1 0 0), (10, .ptr 5 1 0 0), (11, .ptr 6 1 0 0), (17, .ptr 8 1 0 0), (18, .ptr 9 1 0 0), (19, .int .i64 mk), (20, .int .i64 j)] ρ, f.recs.length, [], ?_, ?_⟩
    ·exact ⟨0, by omega, .inl ⟨rfl, rfl⟩, Sv.intro rfl ⟨rfl, rfl, rfl, rfl, rfl, rfl, rfl, rfl, rfl, trivial⟩⟩
    rintro m ρ H1 ⟨j, hj, ⟨rfl, rfl⟩ | ⟨hj0, rfl⟩, d, rfl⟩
    ·(conv => whnf); refine recA (fun hlt => ?_) (fun hlt => ?_)
     ·simp [rC_length] at hlt
      have hx : f.recs[0]? = some f.recs[0] := List.getElem?_eq_getElem hlt
      have hrl := hr _ (List.getElem_mem hlt)
      generalize f.recs[0] = r at hx hrl
      have hT : J.take (0 + 1) = J.take 0 ++ [judgeV s mk r] := take_snoc (by rw [hJ, List.getElem?_map, hx]; rfl)
      (conv => whnf); refine And.intro (by omega) ?_
      (conv => whnf); refine recO (rC_at hx) ?_
      (conv => whnf); refine ⟨_, judge_spec F.z2i s hs mk r (by omega) _, ?_⟩
      (conv => whnf); refine And.intro (⟨roomMul (by simp) (by omega), roomB_le (by simp)⟩) ?_
      repeat ((conv => whnf); refine And.intro rfl ?_)
      conv => whnf
      refine ⟨m - 1, by omega, Gp.keep rfl ?_ fun ρ1 h => ⟨1, by omega, .inr ⟨by omega, ?_⟩, h⟩⟩
      ·exact ⟨rfl, rfl, rfl, rfl, rfl, rfl, rfl, rfl, intEq (wrapI _ (by omega) (by omega)), trivial⟩
      ·rw [hT]; rfl
     ·simp [rC_length] at hlt
      have hrn : f.recs = [] := hlt
      have hJn : J = [] := List.length_eq_zero_iff.1 (by rw [hJl, hrn]; rfl)
      conv => whnf
      refine Ghost.some (n := 129) (live := [(6, .ptr 0 1 0 0), (7, .ptr 1 1 0 0), (17, .ptr 3 1 0 0), (18, .ptr 4 1 0 0)]) (H1 := [.arr 1 [[.nil]], .arr 4 [zDelC], .arr 4 (dsC l), .arr 1 [[.sl 2 l.length 0 l.length]], .arr 4 [[.str f.id, .str f.src, .list false 3 (rC f.recs), .nil]]]) [3, 4, 7, 8, 9] (by simp) ⟨⟨_, rfl, .same _ _ rfl⟩, ⟨_, rfl, .same _ _ rfl⟩, ⟨_, rfl, .same _ _ (pureEs_dsC l)⟩, ⟨_, rfl, ob11 (pubSl (k := 2) rfl rfl rfl rfl) rfl⟩, ⟨_, rfl, .same _ _ rfl⟩, trivial⟩ rfl ⟨.keepP 3 1 0 0 0 rfl, .keepP 4 1 0 0 1 rfl, .keepP 8 1 0 0 3 rfl, .keepP 9 1 0 0 4 rfl, trivial⟩ ?_
      rintro ρ ⟨d, rfl⟩
      (conv => whnf); refine ⟨_, copyDelivery_nil F.z2v f hf hr _, ?_⟩
      (conv => whnf); refine recT (by rw [dsC_length]; exact Nat.beq_refl _) ?_
      (conv => whnf); refine And.intro (⟨roomMul (by simp; omega) (by omega), roomB_le (by simp; omega), rfl, by rw [dsC_length]⟩) ?_
      repeat ((conv => whnf); refine And.intro rfl ?_)
      conv => whnf
      have hcn : dsC l ++ [delC ⟨f, []⟩] = dsC (l ++ [(⟨f, []⟩ : Del)]) := by rw [dsC_append]; rfl
      have hcl : (dsC l ++ [delC ⟨f, []⟩]).length = (l ++ [(⟨f, []⟩ : Del)]).length := by rw [hcn, dsC_length]
      have hX : accX s l f (.nil) = .tuple [.agg (ledC (l ++ [⟨f, []⟩])), .agg [.str f.id, .str f.src, .list false 3 (rC f.recs), (.nil)], .bool true, .int .i64 0] := by rw [accX, if_neg (by simp [he]), ← hdup]; simp only []; rw [if_neg (by omega), hD, hJn]
      refine ⟨accX s l f (.nil), ?_, .inr ⟨hrn, rfl⟩⟩
      rw [hX]
      exact pub4 (pubDel (es := dsC l ++ [delC ⟨f, []⟩]) (by simp) rfl hcn hcl hcl) (.closed _ rfl) (.closed _ rfl) (.closed _ rfl)
    ·(conv => whnf); refine recA (fun hlt => ?_) (fun hlt => ?_)
     ·simp [rC_length] at hlt
      have hx : f.recs[j]? = some f.recs[j] := List.getElem?_eq_getElem hlt
      have hrl := hr _ (List.getElem_mem hlt)
      generalize f.recs[j] = r at hx hrl
      have hT : J.take (j + 1) = J.take j ++ [judgeV s mk r] := take_snoc (by rw [hJ, List.getElem?_map, hx]; rfl)
      (conv => whnf); refine And.intro (by omega) ?_
      (conv => whnf); refine recO (rC_at hx) ?_
      (conv => whnf); refine ⟨_, judge_spec F.z2i s hs mk r (by omega) _, ?_⟩
      have hjl : (J.take j).length = j := by rw [List.length_take]; omega
      (conv => whnf); refine recT (by rw [iC_length, hjl]; exact Nat.beq_refl _) ?_
      (conv => whnf); refine And.intro (⟨roomMul (by simp; omega) (by omega), roomB_le (by simp; omega), rfl, by rw [iC_length, hjl]⟩) ?_
      repeat ((conv => whnf); refine And.intro rfl ?_)
      conv => whnf
      have hcn : iC (J.take j) ++ [[AVal.int .i64 (judgeV s mk r)]] = iC (J.take (j + 1)) := by rw [hT, iC_append]; rfl
      have hcl : (iC (J.take j) ++ [[AVal.int .i64 (judgeV s mk r)]]).length = j + 1 := by rw [List.length_append, iC_length, hjl]; rfl
      refine ⟨m - 1, by omega, Gp.keep rfl ?_ fun ρ1 h => ⟨j + 1, by omega, .inr ⟨by omega, ?_⟩, h⟩⟩
      ·exact ⟨rfl, rfl, rfl, rfl, rfl, rfl, rfl, rfl, intEq (wrapI _ (by omega) (by omega)), trivial⟩
      ·have gen : ∀ Y : List (List AVal), Y = iC (J.take (j + 1)) → Y.length = j + 1 → ([.arr 1 [ledC l], .arr 6 [defC s], .arr 3 [fV f], .arr 1 [[.nil]], .arr 4 [zDelC], .arr 7 [souC s], .arr 3 [zonC], .arr 4 (dsC l), .arr 1 [[.sl 7 l.length 0 l.length]], .arr 4 [[.str f.id, .str f.src, .list false 3 (rC f.recs), .sl 10 Y.length 0 Y.length]], .arr 1 Y] : List AObj) = [.arr 1 [ledC l], .arr 6 [defC s], .arr 3 [fV f], .arr 1 [[.nil]], .arr 4 [zDelC], .arr 7 [souC s], .arr 3 [zonC], .arr 4 (dsC l), .arr 1 [[.sl 7 l.length 0 l.length]], .arr 4 [[.str f.id, .str f.src, .list false 3 (rC f.recs), .sl 10 (j + 1) 0 (j + 1)]], .arr 1 (iC (J.take (j + 1)))] := by
        rintro Y rfl h
        rw [h]
       exact gen _ hcn hcl
     ·simp [rC_length] at hlt
      have hTj : J.take j = J := List.take_of_length_le (by omega)
      rw [hTj]
      conv => whnf
      refine Ghost.some (n := 129) (live := [(6, .ptr 0 1 0 0), (7, .ptr 1 1 0 0), (17, .ptr 3 1 0 0), (18, .ptr 4 1 0 0)]) (H1 := [.arr 1 [[.nil]], .arr 4 [zDelC], .arr 4 (dsC l), .arr 1 [[.sl 2 l.length 0 l.length]], .arr 4 [[.str f.id, .str f.src, .list false 3 (rC f.recs), .list false 1 (iC J)]]]) [3, 4, 7, 8, 9] (by simp) ⟨⟨_, rfl, .same _ _ rfl⟩, ⟨_, rfl, .same _ _ rfl⟩, ⟨_, rfl, .same _ _ (pureEs_dsC l)⟩, ⟨_, rfl, ob11 (pubSl (k := 2) rfl rfl rfl rfl) rfl⟩, ⟨_, rfl, ob4 rfl (pubFI (by simp) rfl (by rw [iC_length]; omega) (by rw [iC_length]; omega) (pureEs_iC J)) rfl⟩, trivial⟩ rfl ⟨.keepP 3 1 0 0 0 rfl, .keepP 4 1 0 0 1 rfl, .keepP 8 1 0 0 3 rfl, .keepP 9 1 0 0 4 rfl, trivial⟩ ?_
      rintro ρ ⟨d, rfl⟩
      (conv => whnf); refine ⟨_, copyDelivery_spec F.z2v ⟨f, J⟩ ⟨hf, hr, by show J.length ≤ 1000; omega⟩ _, ?_⟩
      (conv => whnf); refine recT (by rw [dsC_length]; exact Nat.beq_refl _) ?_
      (conv => whnf); refine And.intro (⟨roomMul (by simp; omega) (by omega), roomB_le (by simp; omega), rfl, by rw [dsC_length]⟩) ?_
      repeat ((conv => whnf); refine And.intro rfl ?_)
      conv => whnf
      have hcn : dsC l ++ [delC ⟨f, J⟩] = dsC (l ++ [(⟨f, J⟩ : Del)]) := by rw [dsC_append]; rfl
      have hcl : (dsC l ++ [delC ⟨f, J⟩]).length = (l ++ [(⟨f, J⟩ : Del)]).length := by rw [hcn, dsC_length]
      have hX : accX s l f (.list false 1 (iC J)) = .tuple [.agg (ledC (l ++ [⟨f, J⟩])), .agg [.str f.id, .str f.src, .list false 3 (rC f.recs), (.list false 1 (iC J))], .bool true, .int .i64 0] := by rw [accX, if_neg (by simp [he]), ← hdup]; simp only []; rw [if_neg (by omega), hD]
      refine ⟨accX s l f (.list false 1 (iC J)), ?_, .inl rfl⟩
      rw [hX]
      exact pub4 (pubDel (es := dsC l ++ [delC ⟨f, J⟩]) (by simp) rfl hcn hcl hcl) (.closed _ rfl) (.closed _ rfl) (.closed _ rfl)
 ·rw [show encFR f = .tuple [.nil, .int .i64 (encFE f)] from if_neg he]
  (conv => whnf); refine recT (by simpa using he) ?_
  conv => whnf
  refine ⟨accX s l f (.list false 1 (iC (newJ s l f))), ?_, .inl rfl⟩
  rw [accX, if_pos he]
  exact pub4 (.closed _ rfl) (.closed _ rfl) (.closed _ rfl) (.closed _ rfl)

end Go.AW

namespace Go.AW
variable [Draws]
attribute [local irreducible] ACalls
def wfNI (l : List Int) (i : Nat) : Nat := (nx l i 7).1.toNat

def wfRI (s : Src) (l : List Int) (i : Nat) : List Rec × Nat := wf s l (wfNI l i) (nx l i 7).2 []

set_option maxRecDepth 20000 in
theorem File_rawI {P : Program} (F : F_z3m P) (id : ByteArray) (s : Src) (hc : s.cols ≠ []) (hcl : s.cols.length ≤ 1000) (hk : s.key.length ≤ 1000) (l : List Int) (i : Nat) (hi : i ≤ l.length) (hl : l.length ≤ 1000000) :
  ACalls P F.id [.str id, .agg (srcC s), .ptr 0 1 0 0, .int .i64 6] [gO l i] (fun r H' => ∃ c x y z, r = .agg [.str id, .str sName, c] ∧
   (((wfRI s l i).1 = [] ∧ c = .nil ∧ H' = [gO l (wfRI s l i).2, x, y, z]) ∨ ((wfRI s l i).1 ≠ [] ∧ c = .sl 4 (wfRI s l i).1.length 0 (wfRI s l i).1.length ∧ H' = [gO l (wfRI s l i).2, x, y, z, .arr 3 (rC (wfRI s l i).1)]))) := by
 have ps : pureEs [srcC s] = true := by simp [pureEs, srcC, srcX, AVal.isPure]
 refine acalls_of_body F.has ?_
 (conv => whnf); refine ACalls.mono (Next_spec F.z3q l i 7 hi hl (by decide) _ 0 rfl) ?_
 rintro r H' ⟨rfl, rfl⟩
 have hb := nx_bnd l i 7 (by decide)
 have hj := nx_le l i 7 hi
 conv => whnf
 refine ⟨fun m ρ H1 => ∃ (k j : Nat) (L : List Rec), k = m ∧ j ≤ l.length ∧ L.length + k = wfNI l i ∧ wf s l k j L = wfRI s l i ∧ fileH s id l L j H1 ∧
  Sv 32 [(2, .ptr 0 1 0 0), (5, .ptr 1 1 0 0), (8, .ptr 2 1 0 0), (9, .ptr 3 1 0 0), (10, .int .i64 k)] ρ, wfNI l i, [], ?_, ?_⟩
 ·exact ⟨wfNI l i, _, [], rfl, hj, by simp, rfl, .inl ⟨rfl, rfl⟩, Sv.intro rfl ⟨rfl, rfl, rfl, rfl, intEq (by rw [wfNI]; omega), trivial⟩⟩
 have h7 : wfNI l i ≤ 6 := by rw [wfNI]; omega
 rintro m ρ H1 ⟨k, j, L, rfl, hj, hlen, hr, ⟨rfl, rfl⟩ | ⟨hL, rfl⟩, d, rfl⟩
 ·(conv => whnf); refine recA (fun hgt => ?_) (fun hgt => ?_)
  ·simp at hgt
   obtain ⟨k, rfl⟩ : ∃ k', k = k' + 1 := ⟨k - 1, by omega⟩
   rw [wf] at hr
   (conv => whnf); refine ⟨_, _, Record_spec F.z3s s hc hcl hk l j hj hl _ 0 rfl, ?_⟩
   (conv => whnf); refine And.intro (⟨roomMul (by simp) (by omega), roomB_le (by simp)⟩) ?_
   (conv => whnf); refine And.intro (rfl) ?_
   conv => whnf
   refine ⟨k, by omega, Gp.keep (n := 32) (live := [(2, .ptr 0 1 0 0), (5, .ptr 1 1 0 0), (8, .ptr 2 1 0 0), (9, .ptr 3 1 0 0), (10, .int .i64 k)]) rfl ⟨rfl, rfl, rfl, rfl, intEq (by have := wrapI (((k + 1 : Nat) : Int) - 1) (by omega) (by omega); show IntKind.i64.wrap (((k + 1 : Nat) : Int) - 1) = _; omega), trivial⟩ fun ρ1 h => ⟨k, _, _, rfl, wrec_le s l j hj, by simp; simp at hlen; omega, hr, .inr ⟨by simp, rfl⟩, h⟩⟩
  ·simp at hgt
   have hk0 : k = 0 := by omega
   subst hk0
   rw [wf] at hr
   conv => whnf
   rw [← hr]
   exact ⟨_, _, _, _, rfl, .inl ⟨rfl, rfl, rfl⟩⟩
 ·have hrl := rC_length L
  (conv => whnf); refine recA (fun hgt => ?_) (fun hgt => ?_)
  ·simp at hgt
   obtain ⟨k, rfl⟩ : ∃ k', k = k' + 1 := ⟨k - 1, by omega⟩
   rw [wf] at hr
   (conv => whnf); refine ⟨_, _, Record_spec F.z3s s hc hcl hk l j hj hl _ 0 rfl, ?_⟩
   (conv => whnf); refine recT (by rw [hrl]; exact Nat.beq_refl _) ?_
   (conv => whnf); refine And.intro (⟨roomMul (by simp; omega) (by omega), roomB_le (by simp; omega), rfl, by rw [hrl]⟩) ?_
   (conv => whnf); refine And.intro (rfl) ?_
   conv => whnf
   have hcn : rC L ++ [recC (wrec s l j).1] = rC (L ++ [(wrec s l j).1]) := by rw [rC_append]; rfl
   have hcl2 := (congrArg List.length hcn).trans (rC_length _)
   refine ⟨k, by omega, Gp.keep (n := 32) (live := [(2, .ptr 0 1 0 0), (5, .ptr 1 1 0 0), (8, .ptr 2 1 0 0), (9, .ptr 3 1 0 0), (10, .int .i64 k)]) rfl ⟨rfl, rfl, rfl, rfl, intEq (by have := wrapI (((k + 1 : Nat) : Int) - 1) (by omega) (by omega); show IntKind.i64.wrap (((k + 1 : Nat) : Int) - 1) = _; omega), trivial⟩ fun ρ1 h => ⟨k, _, L ++ [(wrec s l j).1], rfl, wrec_le s l j hj, by simp; omega, hr, .inr ⟨by simp, ?_⟩, h⟩⟩
   rw [← hcl2, ← hcn]
   rfl
  ·simp at hgt
   have hk0 : k = 0 := by omega
   subst hk0
   rw [wf] at hr
   conv => whnf
   rw [← hr]
   exact ⟨_, _, _, _, rfl, .inr ⟨hL, rfl, rfl⟩⟩

theorem File_nilI {P : Program} (F : F_z3m P) (id : ByteArray) (s : Src) (hc : s.cols ≠ []) (hcl : s.cols.length ≤ 1000) (hk : s.key.length ≤ 1000) (l : List Int) (i : Nat) (hi : i ≤ l.length) (hl : l.length ≤ 1000000) (hn : (wfRI s l i).1 = []) (H : List AObj) (g : Nat) (ho : H[g]? = some (gO l i)) :
  ACalls P F.id [.str id, .agg (srcC s), .ptr g 1 0 0, .int .i64 6] H (fun r H' => r = .agg [.str id, .str sName, .nil] ∧ H' = H.set g (gO l (wfRI s l i).2)) := by
 refine ACalls.fr (args0 := [.str id, .agg (srcC s), .ptr 0 1 0 0, .int .i64 6]) (o1 := gO l (wfRI s l i).2) ?_ ho rfl rfl (.cl rfl (.cl (by simp [AVal.closed, srcC, srcX, AVal.isPure]) (.pt (.cl rfl trivial)))) (.closed _ rfl)
 refine (File_rawI F id s hc hcl hk l i hi hl).gp ?_
 rintro r H' ⟨c, x, y, z, rfl, ⟨_, rfl, rfl⟩ | ⟨h, _⟩⟩
 ·exact Gp.res [0] (by simp) (keepB_hd rfl) (H1 := [gO l (wfRI s l i).2]) ⟨⟨_, rfl, .same _ _ rfl⟩, trivial⟩ (.closed _ rfl) ⟨_, rfl, rfl, rfl⟩
 ·exact absurd hn h

theorem File_someI {P : Program} (F : F_z3m P) (id : ByteArray) (s : Src) (hc : s.cols ≠ []) (hcl : s.cols.length ≤ 1000) (hk : s.key.length ≤ 1000) (l : List Int) (i : Nat) (hi : i ≤ l.length) (hl : l.length ≤ 1000000) (hn : (wfRI s l i).1 ≠ []) (H : List AObj) (g : Nat) (ho : H[g]? = some (gO l i)) :
  ACalls P F.id [.str id, .agg (srcC s), .ptr g 1 0 0, .int .i64 6] H (fun r H' => r = .agg [.str id, .str sName, .sl H.length (wfRI s l i).1.length 0 (wfRI s l i).1.length] ∧ H' = H.set g (gO l (wfRI s l i).2) ++ [.arr 3 (rC (wfRI s l i).1)]) := by
 refine ACalls.frG (args0 := [.str id, .agg (srcC s), .ptr 0 1 0 0, .int .i64 6]) (o1 := gO l (wfRI s l i).2) (G := [.arr 3 (rC (wfRI s l i).1)]) (R := .agg [.str id, .str sName, .sl 1 (wfRI s l i).1.length 0 (wfRI s l i).1.length]) ?_ ho rfl rfl ?_ (.cl rfl (.cl (by simp [AVal.closed, srcC, srcX, AVal.isPure]) (.pt (.cl rfl trivial)))) ?_
 ·refine (File_rawI F id s hc hcl hk l i hi hl).gp ?_
  rintro r H' ⟨c, x, y, z, rfl, ⟨h, _⟩ | ⟨_, rfl, rfl⟩⟩
  ·exact absurd h hn
  ·refine Gp.res [0, 4] (by simp) (keepB_one rfl rfl rfl) (H1 := [gO l (wfRI s l i).2, .arr 3 (rC (wfRI s l i).1)]) (r' := .agg [.str id, .str sName, .sl 1 (wfRI s l i).1.length 0 (wfRI s l i).1.length]) ⟨⟨_, rfl, .same _ _ rfl⟩, ⟨_, rfl, .same _ _ (pureEs_rC _)⟩, trivial⟩ ?_ ⟨_, rfl, rfl, rfl⟩
   refine .agg _ _ rfl fun i v r h1 h2 => ?_
   rcases i with _ | _ | _ | i
   ·cases h1; cases h2; exact .closed _ rfl
   ·cases h1; cases h2; exact .closed _ rfl
   ·cases h1; cases h2; exact .keep 4 _ _ _ 1 rfl
   ·simp at h1
 ·intro x hx
  rw [List.mem_singleton.1 hx]
  exact pureEs_rC _
 ·refine .agg _ _ rfl fun i v r h1 h2 => ?_
  rcases i with _ | _ | _ | i
  ·cases h1; cases h2; exact .closed _ rfl
  ·cases h1; cases h2; exact .closed _ rfl
  ·cases h1; cases h2; exact .sl 1 _ _ _
  ·simp at h1

theorem nx_le4 (l : List Int) (i : Nat) : (nx l i 4).1 ≤ 3 := by have := nx_bnd l i 4 (by decide); omega

theorem wrec_okI (s : Src) (l : List Int) (i : Nat) : (wrec s l i).1.row.length ≤ s.cols.length ∧ (wrec s l i).1.seq ≤ 3 := by
 have h := wrow_len s l i
 have h4 := nx_le4 l i
 unfold wrec
 repeat' split
 all_goals refine ⟨?_, ?_⟩
 all_goals first
  | exact h4
  | decide
  | (simp only []; rw [delR_len _ _ _ h]; omega)
  | (simp only []; rw [List.length_take]; omega)
  | (simp only []; rw [List.length_set]; omega)
  | (simp only []; omega)

theorem wf_okI (s : Src) (l : List Int) : ∀ (k i : Nat) (L : List Rec), (∀ r ∈ L, r.row.length ≤ s.cols.length ∧ r.seq ≤ 3) → ∀ r ∈ (wf s l k i L).1, r.row.length ≤ s.cols.length ∧ r.seq ≤ 3
 | 0, _, _, h => h
 | k + 1, i, L, h => by
  rw [wf]
  refine wf_okI s l k _ _ fun r hr => ?_
  rcases List.mem_append.1 hr with hr | hr
  ·exact h r hr
  ·rw [List.mem_singleton.1 hr]; exact wrec_okI s l i

theorem wfRI_ok (s : Src) (l : List Int) (i : Nat) : (wfRI s l i).1.length ≤ 6 ∧ ∀ r ∈ (wfRI s l i).1, r.row.length ≤ s.cols.length ∧ r.seq ≤ 3 := by
 refine ⟨?_, wf_okI s l _ _ [] fun r h => by cases h⟩
 have := nx_bnd l i 7 (by decide)
 rw [wfRI, wf_len, wfNI]
 simp; omega

theorem wfRI_le (s : Src) (l : List Int) (i : Nat) (h : i ≤ l.length) : (wfRI s l i).2 ≤ l.length := wf_le s l _ _ _ (nx_le l i 7 h)

end Go.AW

namespace Go.AW
variable [Draws]
attribute [local irreducible] ACalls
noncomputable def accOk (s : Sou) (l : List Del) (f : Fil) : Option (List Del) :=
 if encFE f ≠ 0 then none else match dupGo f l 0 (-1) with
  | none => none
  | some q => if 0 ≤ q then some l else some (l ++ [newD s l f])

theorem accX_cases (s : Sou) (l : List Del) (f : Fil) : (accOk s l f = none ∧ ∃ e : Int, e ≠ 0 ∧ ∀ jv, accX s l f jv = .tuple [.agg [.nil], .agg zDelC, .bool false, .int .i64 e]) ∨
  (∃ x, accOk s l f = some l ∧ ∀ jv, accX s l f jv = .tuple [.agg (ledC l), .agg (delC x), .bool false, .int .i64 0]) ∨
  (accOk s l f = some (l ++ [newD s l f]) ∧ ∀ jv, accX s l f jv = .tuple [.agg (ledC (l ++ [newD s l f])), .agg [.str f.id, .str f.src, .list false 3 (rC f.recs), jv], .bool true, .int .i64 0]) := by
 unfold accOk accX
 by_cases he : encFE f ≠ 0
 ·exact .inl ⟨if_pos he, _, he, fun jv => if_pos he⟩
 rw [if_neg he]
 simp only [if_neg he]
 cases hd : dupGo f l 0 (-1) with
 | none => exact .inl ⟨rfl, 6, by decide, fun jv => rfl⟩
 | some q =>
  simp only []
  by_cases hq : 0 ≤ q
  ·rw [if_pos hq]; exact .inr (.inl ⟨_, rfl, fun jv => if_pos hq⟩)
  ·rw [if_neg hq]; exact .inr (.inr ⟨rfl, fun jv => if_neg hq⟩)

def AccR (s : Sou) (l : List Del) (f : Fil) (r : AVal) : Prop :=
 (accOk s l f = none ∧ ∃ e : Int, e ≠ 0 ∧ r = .tuple [.agg [.nil], .agg zDelC, .int .i64 e]) ∨ (∃ l' a b c d, accOk s l f = some l' ∧ (d = .nil ∨ ∃ J : List Int, d = .list false 1 (iC J)) ∧ r = .tuple [.agg (ledC l'), .agg [.str a, .str b, .list false 3 (rC c), d], .int .i64 0])

set_option maxRecDepth 20000 in
theorem Accept_spec {P : Program} (F : F_z2n P) (s : Sou) (hs : s.ok) (hz : s.zone = bs [122]) (hnm : s.name.size ≤ 50000) (l : List Del) (hl : l.length ≤ 50) (hok : ∀ x ∈ l, x.ok) (id : ByteArray) (hid : id.size ≤ 50000) (recs : List Rec) (hf : recs.length ≤ 1000) (hr : ∀ r ∈ recs, r.row.length ≤ 1000) (H : List AObj) :
  ACalls P F.id [.agg (ledC l), .agg (defC s), .agg (fV ⟨id, s.name, recs⟩)] H (fun r H' => AccR s l ⟨id, s.name, recs⟩ r ∧ H' = H) := by
 refine ACalls.lift0 (by simp [ledC, defC, fV, AVal.closed, AVal.isPure]) (acalls_of_body F.has ?_)
 (conv => whnf); refine ACalls.mono (accept_raw F.z2u s hs hz hnm l hl hok id hid recs hf hr _) ?_
 rintro r H' ⟨hR, rfl⟩
 have key : ∃ jv : AVal, (jv = .nil ∨ ∃ J : List Int, jv = .list false 1 (iC J)) ∧ r = accX s l ⟨id, s.name, recs⟩ jv := hR.elim (fun h => ⟨_, .inr ⟨_, rfl⟩, h⟩) (fun h => ⟨_, .inl rfl, h.2⟩)
 obtain ⟨jv, hjv, rfl⟩ := key
 rcases accX_cases s l ⟨id, s.name, recs⟩ with ⟨h1, e, he, h2⟩ | ⟨x, h1, h2⟩ | ⟨h1, h2⟩
 ·rw [h2]
  conv => whnf
  repeat ((conv => whnf); refine And.intro rfl ?_)
  conv => whnf
  exact ⟨_, pub3 (.closed (.agg [.nil]) rfl) (.closed (.agg zDelC) rfl) (.closed (.int .i64 e) rfl), .inl ⟨h1, e, he, rfl⟩⟩
 ·rw [h2]
  conv => whnf
  repeat ((conv => whnf); refine And.intro rfl ?_)
  conv => whnf
  exact ⟨_, pub3 (.closed (.agg (ledC l)) rfl) (.closed (.agg (delC x)) rfl) (.closed (.int .i64 0) rfl), .inr ⟨l, _, _, _, _, h1, .inr ⟨_, rfl⟩, rfl⟩⟩
 ·rw [h2]
  rcases hjv with rfl | ⟨J, rfl⟩
  ·conv => whnf
   repeat ((conv => whnf); refine And.intro rfl ?_)
   conv => whnf
   exact ⟨_, pub3 (.closed (.agg (ledC (l ++ [newD s l ⟨id, s.name, recs⟩]))) rfl) (.closed (.agg [.str id, .str s.name, .list false 3 (rC recs), .nil]) rfl) (.closed (.int .i64 0) rfl), .inr ⟨_, _, _, _, _, h1, .inl rfl, rfl⟩⟩
  ·conv => whnf
   repeat ((conv => whnf); refine And.intro rfl ?_)
   conv => whnf
   exact ⟨_, pub3 (.closed (.agg (ledC (l ++ [newD s l ⟨id, s.name, recs⟩]))) rfl) (.closed (.agg [.str id, .str s.name, .list false 3 (rC recs), .list false 1 (iC J)]) rfl) (.closed (.int .i64 0) rfl), .inr ⟨_, _, _, _, _, h1, .inr ⟨_, rfl⟩, rfl⟩⟩

end Go.AW

namespace Go.AW
variable [Draws]
attribute [local irreducible] ACalls
def souS (s : Src) : Sou := ⟨sName, s.cols, s.key, bs [97, 116], bs [122], s.late, s.reopen⟩

noncomputable def delivV (s : Src) (ls : List Int) (i : Nat) (id : ByteArray) (l : List Del) : List Del × Nat :=
 (match accOk (souS s) l ⟨id, sName, (wfRI s ls (nx ls i 1).2).1⟩ with | some l' => l' | none => l, (wfRI s ls (nx ls i 1).2).2)

theorem wkFile {a b : ByteArray} : ∀ (i : Nat) (x y : AVal), ([.str a, .str b, .nil] : List AVal)[i]? = some x → ([.str a, .str b, .list false 3 (rC [])] : List AVal)[i]? = some y → Wk x y := fun i x y h1 h2 => by
 rcases i with _ | _ | _ | i
 ·cases h1; cases h2; exact .refl _
 ·cases h1; cases h2; exact .refl _
 ·cases h1; cases h2; exact .nil _ _
 ·simp at h1

set_option maxHeartbeats 1000000 in
set_option maxRecDepth 20000 in
theorem Deliver_raw {P : Program} (F : F_z3l P) (s : Src) (hc : s.cols ≠ []) (hcl : s.cols.length ≤ 900) (hk : s.key.length ≤ 900) (ls : List Int) (i : Nat) (hi : i ≤ ls.length) (hl : ls.length ≤ 1000000) (id : ByteArray) (hid : id.size ≤ 50000) (l : List Del) (hll : l.length ≤ 50) (hok : ∀ x ∈ l, x.ok) :
  ACalls P F.id [.agg (ledC l), .agg (defC (souS s)), .str id, .ptr 0 1 0 0, .int .i64 6] [gO ls i] (fun r H' => r = .agg (ledC (delivV s ls i id l).1) ∧ ∃ t, H' = gO ls (delivV s ls i id l).2 :: t) := by
 refine acalls_of_body F.has ?_
 have hb := nx_bnd ls i 1 (by decide)
 have h0 : (nx ls i 1).1 = 0 := by omega
 have hsn := Next_spec F.z3q ls i 1 hi hl (by decide)
 rw [h0] at hsn
 (conv => whnf); refine ⟨_, _, hsn _ 0 rfl, ?_⟩
 (conv => whnf); refine And.intro (by decide) ?_
 have hi1 : (nx ls i 1).2 ≤ ls.length := nx_le _ _ _ hi
 obtain ⟨hw6, hwr⟩ := wfRI_ok s ls (nx ls i 1).2
 have hacc := Accept_spec F.z2n (souS s) ⟨by show s.cols.length ≤ 1000; omega, by show s.key.length ≤ 1000; omega⟩ rfl (show sName.size ≤ 50000 by decide) l hll hok id hid (wfRI s ls (nx ls i 1).2).1 (by omega) (fun r h => by have := (hwr r h).1; omega)
 have hD : delivV s ls i id l = (match accOk (souS s) l ⟨id, sName, (wfRI s ls (nx ls i 1).2).1⟩ with | some l' => l' | none => l, (wfRI s ls (nx ls i 1).2).2) := rfl
 by_cases hn : (wfRI s ls (nx ls i 1).2).1 = []
 ·(conv => whnf); refine ⟨_, _, File_nilI F.z3m id s hc (by omega) (by omega) ls (nx ls i 1).2 hi1 hl hn _ 0 rfl, ?_⟩
  repeat ((conv => whnf); refine And.intro rfl ?_)
  conv => whnf
  refine ⟨Gp.keepL (n := 45) (live := [(5, .ptr 1 1 0 0), (6, .ptr 2 1 0 0), (10, .ptr 3 1 0 0), (11, .ptr 4 1 0 0)]) (H1 := [gO ls (wfRI s ls (nx ls i 1).2).2, .arr 1 [ledC l], .arr 6 [defC (souS s)], .arr 1 [[.nil]], .arr 3 [[.str id, .str sName, .nil]]]) [0, 1, 2, 3, 4] (by simp) (keepB_one rfl rfl rfl)
   ⟨⟨_, rfl, .same _ _ rfl⟩, ⟨_, rfl, .same _ _ rfl⟩, ⟨_, rfl, .same _ _ rfl⟩, ⟨_, rfl, .same _ _ rfl⟩, ⟨_, rfl, .same _ _ rfl⟩, trivial⟩ rfl ⟨.keepP 1 1 0 0 1 rfl, .keepP 2 1 0 0 2 rfl, .keepP 3 1 0 0 3 rfl, .keepP 4 1 0 0 4 rfl, trivial⟩ ?_⟩
  rintro ρ ⟨d, rfl⟩
  rw [hn] at hacc
  (conv => whnf); refine ACalls.mono (ACalls.weak (hacc _) (.cons (.refl _) (.cons (.refl _) (.cons (.agg _ _ rfl wkFile) .nil)))) ?_
  rintro r H' ⟨hR, rfl⟩
  rw [hD, hn]
  rcases hR with ⟨h1, e, he, rfl⟩ | ⟨l', a, b, c, d, h1, rfl | ⟨J, rfl⟩, rfl⟩
  ·rw [show accOk (souS s) l ⟨id, sName, []⟩ = none from h1]
   (conv => whnf); refine recF (by simpa using he) ?_
   conv => whnf
   exact ⟨rfl, _, rfl⟩
  ·rw [show accOk (souS s) l ⟨id, sName, []⟩ = some l' from h1]
   conv => whnf
   exact ⟨rfl, _, rfl⟩
  ·rw [show accOk (souS s) l ⟨id, sName, []⟩ = some l' from h1]
   conv => whnf
   exact ⟨rfl, _, rfl⟩
 ·(conv => whnf); refine ⟨_, _, File_someI F.z3m id s hc (by omega) (by omega) ls (nx ls i 1).2 hi1 hl hn _ 0 rfl, ?_⟩
  repeat ((conv => whnf); refine And.intro rfl ?_)
  conv => whnf
  refine ⟨Gp.keepL (n := 45) (live := [(5, .ptr 1 1 0 0), (6, .ptr 2 1 0 0), (10, .ptr 3 1 0 0), (11, .ptr 4 1 0 0)]) (H1 := [gO ls (wfRI s ls (nx ls i 1).2).2, .arr 1 [ledC l], .arr 6 [defC (souS s)], .arr 1 [[.nil]], .arr 3 [[.str id, .str sName, .list false 3 (rC (wfRI s ls (nx ls i 1).2).1)]]]) [0, 1, 2, 3, 5] (by simp) (keepB_one rfl rfl rfl)
   ⟨⟨_, rfl, .same _ _ rfl⟩, ⟨_, rfl, .same _ _ rfl⟩, ⟨_, rfl, .same _ _ rfl⟩, ⟨_, rfl, .same _ _ rfl⟩, ⟨_, rfl, ob3 (pubFI (id := 4) (by simp) rfl (rC_length _).symm (rC_length _).symm (pureEs_rC _)) rfl⟩, trivial⟩ rfl ⟨.keepP 1 1 0 0 1 rfl, .keepP 2 1 0 0 2 rfl, .keepP 3 1 0 0 3 rfl, .keepP 5 1 0 0 4 rfl, trivial⟩ ?_⟩
  rintro ρ ⟨d, rfl⟩
  (conv => whnf); refine ACalls.mono (hacc _) ?_
  rintro r H' ⟨hR, rfl⟩
  rw [hD]
  rcases hR with ⟨h1, e, he, rfl⟩ | ⟨l', a, b, c, d, h1, rfl | ⟨J, rfl⟩, rfl⟩
  ·rw [show accOk (souS s) l ⟨id, sName, (wfRI s ls (nx ls i 1).2).1⟩ = none from h1]
   (conv => whnf); refine recF (by simpa using he) ?_
   conv => whnf
   exact ⟨rfl, _, rfl⟩
  ·rw [show accOk (souS s) l ⟨id, sName, (wfRI s ls (nx ls i 1).2).1⟩ = some l' from h1]
   conv => whnf
   exact ⟨rfl, _, rfl⟩
  ·rw [show accOk (souS s) l ⟨id, sName, (wfRI s ls (nx ls i 1).2).1⟩ = some l' from h1]
   conv => whnf
   exact ⟨rfl, _, rfl⟩

end Go.AW

namespace Go.AW
variable [Draws]
attribute [local irreducible] ACalls
def LOk (s : Src) (x : Del) : Prop := x.f.src = sName ∧ x.f.recs.length ≤ 6 ∧ (∀ r ∈ x.f.recs, r.row.length ≤ s.cols.length ∧ r.seq ≤ 3) ∧ x.jd.length ≤ 6

theorem LOk.ok {s : Src} (hc : s.cols.length ≤ 900) {x : Del} (h : LOk s x) : x.ok := ⟨by have := h.2.1; omega, fun r hr => by have := (h.2.2.1 r hr).1; omega, by have := h.2.2.2; omega⟩

theorem delivV_ok (s : Src) (ls : List Int) (i : Nat) (id : ByteArray) (l : List Del) (h : ∀ x ∈ l, LOk s x) : (∀ x ∈ (delivV s ls i id l).1, LOk s x) ∧ (delivV s ls i id l).1.length ≤ l.length + 1 := by
 obtain ⟨h6, hr⟩ := wfRI_ok s ls (nx ls i 1).2
 show (∀ x ∈ (match accOk (souS s) l ⟨id, sName, (wfRI s ls (nx ls i 1).2).1⟩ with | some l' => l' | none => l : List Del), LOk s x) ∧ (match accOk (souS s) l ⟨id, sName, (wfRI s ls (nx ls i 1).2).1⟩ with | some l' => l' | none => l : List Del).length ≤ l.length + 1
 generalize (wfRI s ls (nx ls i 1).2).1 = R at h6 hr
 rcases accX_cases (souS s) l ⟨id, sName, R⟩ with ⟨h1, _⟩ | ⟨x, h1, _⟩ | ⟨h1, _⟩
 ·rw [h1]; exact ⟨h, Nat.le_succ _⟩
 ·rw [h1]; exact ⟨h, Nat.le_succ _⟩
 ·rw [h1]
  refine ⟨fun x hx => ?_, by simp⟩
  rcases List.mem_append.1 hx with hx | hx
  ·exact h x hx
  ·rw [List.mem_singleton.1 hx]
   exact ⟨rfl, h6, hr, by show (R.map _).length ≤ 6; rw [List.length_map]; exact h6⟩

theorem delivV_le (s : Src) (ls : List Int) (i : Nat) (id : ByteArray) (l : List Del) (h : i ≤ ls.length) : (delivV s ls i id l).2 ≤ ls.length := wfRI_le s ls _ (nx_le _ _ _ h)

theorem Deliver_spec {P : Program} (F : F_z3l P) (s : Src) (hc : s.cols ≠ []) (hcl : s.cols.length ≤ 900) (hk : s.key.length ≤ 900) (ls : List Int) (i : Nat) (hi : i ≤ ls.length) (hl : ls.length ≤ 1000000) (id : ByteArray) (hid : id.size ≤ 50000) (l : List Del) (hll : l.length ≤ 50) (hok : ∀ x ∈ l, x.ok) (H : List AObj) (g : Nat) (ho : H[g]? = some (gO ls i)) :
  ACalls P F.id [.agg (ledC l), .agg (defC (souS s)), .str id, .ptr g 1 0 0, .int .i64 6] H (fun r H' => r = .agg (ledC (delivV s ls i id l).1) ∧ H' = H.set g (gO ls (delivV s ls i id l).2)) := by
 refine ACalls.fr (args0 := [.agg (ledC l), .agg (defC (souS s)), .str id, .ptr 0 1 0 0, .int .i64 6]) (o1 := gO ls (delivV s ls i id l).2) ?_ ho rfl rfl (.cl rfl (.cl rfl (.cl rfl (.pt (.cl rfl trivial))))) (.closed _ rfl)
 refine (Deliver_raw F s hc hcl hk ls i hi hl id hid l hll hok).gp ?_
 rintro r H' ⟨rfl, t, rfl⟩
 exact Gp.res [0] (by simp) (keepB_hd rfl) (H1 := [gO ls (delivV s ls i id l).2]) ⟨⟨_, rfl, .same _ _ rfl⟩, trivial⟩ (.closed _ rfl) ⟨_, rfl, rfl, rfl⟩

noncomputable def ledGo (s : Src) (ls : List Int) : Nat → Nat → Nat → List Del → List Del × Nat
 | 0, _, i, l => (l, i)
 | m + 1, k, i, l => ledGo s ls m (k + 1) (delivV s ls (nx ls i 8).2 (wname (IntKind.i64.wrap ((k : Int) - IntKind.i64.wrap ((nx ls i 8).1.tdiv 7)))) l).2
   (delivV s ls (nx ls i 8).2 (wname (IntKind.i64.wrap ((k : Int) - IntKind.i64.wrap ((nx ls i 8).1.tdiv 7)))) l).1

noncomputable def ledV (s : Src) (ls : List Int) : List Del × Nat := ledGo s ls 4 0 0 []

theorem ledGo_ok (s : Src) (ls : List Int) : ∀ (m k i : Nat) (l : List Del), (∀ x ∈ l, LOk s x) → (∀ x ∈ (ledGo s ls m k i l).1, LOk s x) ∧ (ledGo s ls m k i l).1.length ≤ l.length + m
 | 0, _, _, l, h => ⟨h, by simp [ledGo]⟩
 | m + 1, k, i, l, h => by
  have h1 := delivV_ok s ls (nx ls i 8).2 (wname (IntKind.i64.wrap ((k : Int) - IntKind.i64.wrap ((nx ls i 8).1.tdiv 7)))) l h
  have h2 := ledGo_ok s ls m (k + 1) (delivV s ls (nx ls i 8).2 (wname (IntKind.i64.wrap ((k : Int) - IntKind.i64.wrap ((nx ls i 8).1.tdiv 7)))) l).2 _ h1.1
  rw [ledGo]
  exact ⟨h2.1, by have := h1.2; have := h2.2; omega⟩

theorem ledV_ok (s : Src) (ls : List Int) : (∀ x ∈ (ledV s ls).1, LOk s x) ∧ (ledV s ls).1.length ≤ 4 := by
 have := ledGo_ok s ls 4 0 0 [] fun x h => by cases h
 exact ⟨this.1, this.2⟩

def ledW (l : List Del) (c : AVal) : Prop := (l = [] ∧ c = .nil) ∨ c = .list false 4 (dsC l)

theorem wkLed {l : List Del} {c : AVal} (h : ledW l c) : Wk (.agg [c]) (.agg (ledC l)) := by
 refine .agg _ _ rfl fun i x y h1 h2 => ?_
 rcases i with _ | i
 ·cases h1; cases h2
  rcases h with ⟨rfl, rfl⟩ | rfl
  ·exact .nil _ _
  ·exact .refl _
 ·simp at h1

set_option maxHeartbeats 1000000 in
set_option maxRecDepth 20000 in
theorem Ledger_raw {P : Program} (F : F_z3o P) (s : Src) (hc : s.cols ≠ []) (hcl : s.cols.length ≤ 900) (hk : s.key.length ≤ 900) (ls : List Int) (hl : ls.length ≤ 1000000) :
  ACalls P F.id [.agg (defC (souS s)), .ptr 0 1 0 0, .int .i64 4, .int .i64 6] [gO ls 0] (fun r H' => (∃ c, r = .agg [c] ∧ ledW (ledV s ls).1 c) ∧ ∃ t, H' = gO ls (ledV s ls).2 :: t) := by
 refine acalls_of_body F.has ?_
 conv => whnf
 refine ⟨fun m ρ H1 => ∃ (k i : Nat) (l : List Del) (c : AVal), k + m = 4 ∧ i ≤ ls.length ∧ l.length ≤ k ∧ (∀ x ∈ l, LOk s x) ∧ ledGo s ls m k i l = ledV s ls ∧ ledW l c ∧ H1 = [gO ls i, .arr 6 [defC (souS s)], .arr 1 [[.nil]], .arr 1 [[c]]] ∧ Sv 34 [(1, .ptr 0 1 0 0), (2, .int .i64 4), (3, .int .i64 6), (4, .ptr 1 1 0 0), (8, .ptr 2 1 0 0), (9, .ptr 3 1 0 0), (10, .int .i64 k)] ρ, 4, [], ?_, ?_⟩
 ·exact ⟨0, 0, [], .nil, by omega, by omega, by simp, fun x h => (by cases h), rfl, .inl ⟨rfl, rfl⟩, rfl, Sv.intro rfl ⟨rfl, rfl, rfl, rfl, rfl, rfl, rfl, trivial⟩⟩
 rintro m ρ H1 ⟨k, i, l, c, hkm, hi, hlk, hlo, hr, hw, rfl, d, rfl⟩
 (conv => whnf); refine recA (fun hlt => ?_) (fun hlt => ?_)
 ·simp at hlt
  obtain ⟨m, rfl⟩ : ∃ m', m = m' + 1 := ⟨m - 1, by omega⟩
  rw [ledGo] at hr
  have hn8 := nx_le ls i 8 hi
  have hsz := wname_size (IntKind.i64.wrap ((k : Int) - IntKind.i64.wrap ((nx ls i 8).1.tdiv 7)))
  have hd1 := delivV_ok s ls (nx ls i 8).2 (wname (IntKind.i64.wrap ((k : Int) - IntKind.i64.wrap ((nx ls i 8).1.tdiv 7)))) l hlo
  have hd2 := delivV_le s ls (nx ls i 8).2 (wname (IntKind.i64.wrap ((k : Int) - IntKind.i64.wrap ((nx ls i 8).1.tdiv 7)))) l hn8
  have hD := fun H g ho => Deliver_spec F.z3l s hc hcl hk ls (nx ls i 8).2 hn8 hl (wname (IntKind.i64.wrap ((k : Int) - IntKind.i64.wrap ((nx ls i 8).1.tdiv 7)))) (by omega) l (by omega) (fun x hx => (hlo x hx).ok hcl) H g ho
  rcases hw with ⟨rfl, rfl⟩ | rfl
  ·(conv => whnf); refine ⟨_, _, Next_spec F.z3q ls i 8 hi hl (by decide) _ 0 rfl, ?_⟩
   (conv => whnf); refine And.intro (by decide) ?_
   (conv => whnf); refine ⟨_, wName_spec F.z3p _ _, ?_⟩
   (conv => whnf); refine ⟨_, _, ACalls.weak (hD _ 0 rfl) (.cons (wkLed (.inl ⟨rfl, rfl⟩)) (.cons (.refl _) (.cons (.refl _) (.cons (.refl _) (.cons (.refl _) .nil))))), ?_⟩
   repeat ((conv => whnf); refine And.intro rfl ?_)
   conv => whnf
   refine ⟨m, by omega, Gp.keep rfl ?_ fun ρ1 h => ⟨k + 1, _, _, _, by omega, hd2, by have := hd1.2; simp at this ⊢; omega, hd1.1, hr, .inr rfl, rfl, h⟩⟩
   exact ⟨rfl, rfl, rfl, rfl, rfl, rfl, intEq (wrapI _ (by omega) (by omega)), trivial⟩
  ·(conv => whnf); refine ⟨_, _, Next_spec F.z3q ls i 8 hi hl (by decide) _ 0 rfl, ?_⟩
   (conv => whnf); refine And.intro (by decide) ?_
   (conv => whnf); refine ⟨_, wName_spec F.z3p _ _, ?_⟩
   (conv => whnf); refine ⟨_, _, hD _ 0 rfl, ?_⟩
   repeat ((conv => whnf); refine And.intro rfl ?_)
   conv => whnf
   refine ⟨m, by omega, Gp.keep rfl ?_ fun ρ1 h => ⟨k + 1, _, _, _, by omega, hd2, by have := hd1.2; omega, hd1.1, hr, .inr rfl, rfl, h⟩⟩
   exact ⟨rfl, rfl, rfl, rfl, rfl, rfl, intEq (wrapI _ (by omega) (by omega)), trivial⟩
 ·simp at hlt
  have hm : m = 0 := by omega
  subst hm
  rw [ledGo] at hr
  conv => whnf
  rw [← hr]
  rcases hw with ⟨rfl, rfl⟩ | rfl
  ·exact ⟨⟨_, rfl, .inl ⟨rfl, rfl⟩⟩, _, rfl⟩
  ·exact ⟨⟨_, rfl, .inr rfl⟩, _, rfl⟩

end Go.AW

namespace Go.AW
variable [Draws]
attribute [local irreducible] ACalls
def cmpE (a b : Ent) : Int := rowsCmp a.row b.row

def srtE (l : List Ent) : List Ent := isort cmpE l

theorem orders_E : Orders cmpE where
 anti x y h := by have := rowsCmp_anti x.row y.row; unfold cmpE at *; omega
 trans x y z h1 h2 := rows_tr x.row y.row z.row h1 h2

theorem asc_E {l : List Ent} (h : Asc l) : AscO cmpE l := h.imp fun {a b} h => by
 have := rowsCmp_anti a.row b.row
 unfold cmpE; omega

theorem srtE_eq {l t : List Ent} (hp : t.Perm l) (ha : Asc t) (h1 : ∀ x ∈ l, ∀ y ∈ l, x.row = y.row → x = y) : t = srtE l :=
 isort_eq orders_E hp (asc_E ha) fun x hx y hy a b => h1 x hx y hy ((rowsCmp_zero _ _).1 (by have := rowsCmp_anti x.row y.row; unfold cmpE at a b; omega))

def tmV (n : Int) : V := ⟨4, n, bs []⟩

def endV (s : Sou) (v : Ver) (vs : List Ver) : V :=
 match vs.head? with
 | some w => if rowsCmp (keyV s v.rc.row) (keyV s w.rc.row) = 0 then tmV (timeV s w.rc) else zV
 | none => zV

def ivR (s : Sou) (v : Ver) (vs : List Ver) : List V := v.rc.row ++ [tmV (timeV s v.rc), endV s v vs]

def ivsG (s : Sou) : List Ver → List Ent
 | [] => []
 | v :: vs => if v.rc.del then ivsG s vs else ⟨ivR s v vs, 1⟩ :: ivsG s vs

def ivsV (s : Sou) (vs : List Ver) : List Ent := srtE (ivsG s (usedV s (srtV s vs)))

theorem ivsG_len (s : Sou) : ∀ vs, (ivsG s vs).length ≤ vs.length
 | [] => Nat.le_refl _
 | v :: vs => by
  have := ivsG_len s vs
  rw [ivsG]
  split
  ·simp; omega
  ·simp; omega

theorem ivsG_one (s : Sou) : ∀ vs, ∀ e ∈ ivsG s vs, e.cnt = 1
 | [], e, h => by cases h
 | v :: vs, e, h => by
  rw [ivsG] at h
  split at h
  ·exact ivsG_one s vs e h
  ·rcases List.mem_cons.1 h with rfl | h
   ·rfl
   ·exact ivsG_one s vs e h

theorem ivsG_row (s : Sou) (hs : s.good) : ∀ vs : List Ver, (∀ v ∈ vs, okV s v) → ∀ e ∈ ivsG s vs, e.row.length ≤ 12
 | [], _, e, h => by cases h
 | v :: vs, hv, e, h => by
  rw [ivsG] at h
  have hvs := fun w hw => hv w (List.mem_cons_of_mem _ hw)
  split at h
  ·exact ivsG_row s hs vs hvs e h
  ·rcases List.mem_cons.1 h with rfl | h
   ·have := (okV_len hs (hv v (List.mem_cons_self ..))).1
    simp [ivR]; omega
   ·exact ivsG_row s hs vs hvs e h

theorem cloneV_ex {P : Program} (F : F_z13 P) (ex : Bool) (cs : List V) (hn : cs ≠ []) (hl : cs.length ≤ 1000000) (H : List AObj) :
  ACalls P F.id [.list ex 3 (vC cs)] H (fun r H' => r = .sl H.length cs.length 0 cs.length ∧ H' = H ++ [.arr 3 (vC cs)]) :=
 (CloneV_own F ex cs hl H).mono fun r H' h => h.resolve_left fun h => hn h.2.1

set_option maxHeartbeats 1000000 in
set_option maxRecDepth 20000 in
theorem Intervals_spec {P : Program} (F : F_z0l P) (hS : SortE P F.z1b.id F.z0m.id) (s : Sou) (hs : s.good) (ex : Bool) (vs : List Ver) (h40 : vs.length < 40) (hok : ∀ v ∈ vs, okV s v) (hU : Uq s vs) (H : List AObj) :
  ACalls P F.id [.agg (souC s), .list ex 5 (vsC vs)] H (fun r H' => r = .tuple [.list false 2 (eC (ivsV s vs)), .int .i64 0] ∧ H' = H) := by
 refine ACalls.pure (by simp [souC, AVal.closed, AVal.isPure]) (acalls_of_body F.has ?_)
 (conv => whnf); refine ACalls.use (hColumns_spec F.z0h s hs _) ?_
 conv => whnf
 refine ⟨fun m ρ H1 => ∃ q : Nat, q + m = vs.length ∧ H1 = [.arr 7 [souC s]] ∧ Sv 106 [(1, .list ex 5 (vsC vs)), (2, .ptr 0 1 0 0), (25, .list ex 5 (vsC vs)), (26, .int .i64 vs.length), (27, .int .i64 q)] ρ, vs.length, [], ?_, ?_⟩
 ·exact ⟨0, by omega, rfl, Sv.intro rfl ⟨rfl, rfl, rfl, intEq (by rw [vsC_length]), rfl, trivial⟩⟩
 rintro m ρ H1 ⟨q, hk, rfl, d, rfl⟩
 (conv => whnf); refine recA (fun hlt => ?_) (fun hlt => ?_)
 ·simp at hlt
  have hx : vs[q]? = some vs[q] := List.getElem?_eq_getElem hlt
  have ho := hok _ (List.getElem_mem hlt)
  have hv := okV_len hs ho
  generalize vs[q] = v at hx hv ho
  (conv => whnf); refine And.intro (by omega) ?_
  (conv => whnf); refine recO (vsC_at hx) ?_
  (conv => whnf); refine ACalls.use (wFits_spec F.z3w s hs.ok v.rc (by omega) _) ?_
  (conv => whnf); refine recF (by rw [show fitsV s v.rc = 0 from ho]; rfl) ?_
  refine ⟨m - 1, by omega, Gp.first 1 [.arr 7 [souC s]] rfl rfl (by rw [List.all_cons, pureS]; rfl) rfl ?_ fun ρ1 h => ⟨q + 1, by omega, rfl, h⟩⟩
  exact ⟨.closed _ rfl, .keepP 0 1 0 0 0 rfl, .closed _ rfl, .closed _ rfl, pub_int (wrapI _ (by omega) (by omega)), trivial⟩
 simp at hlt
 clear hlt hk
 have hokS : ∀ v ∈ srtV s vs, okV s v := fun v hv => hok v ((isort_perm _).mem_iff.1 hv)
 have hokU : ∀ v ∈ usedV s (srtV s vs), okV s v := fun v hv => hokS v ((usedV_sub s _).subset hv)
 have hls : (srtV s vs).length = vs.length := isort_length _
 have hlu : (usedV s (srtV s vs)).length ≤ vs.length := hls ▸ (usedV_sub s _).length_le
 (conv => whnf); refine ⟨_, sorted_spec F.z0q s hs ex vs h40 hok hU _, ?_⟩
 (conv => whnf); refine ⟨_, hused_spec F.z0s s hs false (srtV s vs) (by omega) hokS _, ?_⟩
 repeat ((conv => whnf); refine And.intro rfl ?_)
 have hI : ivsV s vs = srtE (ivsG s (usedV s (srtV s vs))) := rfl
 rw [hI]
 clear hI
 generalize usedV s (srtV s vs) = l at hokU hlu
 conv => whnf
 refine ⟨fun m ρ H1 => ∃ (k : Nat) (E : List Ent), k + m = l.length ∧ E.length ≤ k ∧ E ++ ivsG s (l.drop k) = ivsG s l ∧ H1 = [.arr 7 [souC s], .arr 2 (eC E)] ∧ Sv 106 [(2, .ptr 0 1 0 0), (11, .list false 5 (vsC l)), (12, .sl 1 E.length 0 E.length), (44, .list false 5 (vsC l)), (45, .int .i64 l.length), (46, .int .i64 k)] ρ, l.length, [(12, 2)], ?_, ?_⟩
 ·exact ⟨0, [], by omega, by simp, rfl, rfl, Sv.intro rfl ⟨rfl, rfl, rfl, rfl, intEq (by rw [vsC_length]), rfl, trivial⟩⟩
 rintro m ρ H1 ⟨k, E, hk, hE, hr, rfl, d, rfl⟩
 (conv => whnf); refine recA (fun hlt => ?_) (fun hlt => ?_)
 ·simp at hlt
  have hx : l[k]? = some l[k] := List.getElem?_eq_getElem hlt
  have hv := okV_len hs (hokU _ (List.getElem_mem hlt))
  generalize l[k] = v at hx hv
  rw [drop_cons hx, ivsG] at hr
  have ek : IntKind.i64.wrap ((k : Int) + 1) = ((k + 1 : Nat) : Int) := by rw [wrapI _ (by omega) (by omega)]; omega
  (conv => whnf); refine And.intro (by omega) ?_
  (conv => whnf); refine recO (vsC_at hx) ?_
  (conv => whnf); refine recA (fun hd => ?_) (fun hd => ?_)
  ·rw [if_pos (show v.rc.del = true from hd)] at hr
   conv => whnf
   refine ⟨m - 1, by omega, Gp.first 2 [.arr 7 [souC s], .arr 2 (eC E)] rfl rfl (all2 (pureS s) (pureEs_eC _)) rfl ?_ fun ρ1 h => ⟨k + 1, E, by omega, by omega, hr, rfl, h⟩⟩
   exact ⟨.keepP 0 1 0 0 0 rfl, .closed _ rfl, .keep 1 _ _ _ 1 rfl, .closed _ rfl, .closed _ rfl, pub_int ek, trivial⟩
  rw [if_neg (by rw [show v.rc.del = false from hd]; simp)] at hr
  (conv => whnf); refine recA (fun h1 => ?_) (fun h1 => ?_)
  ·simp [ek, vsC_length] at h1
   have h1' : k + 1 < l.length := by omega
   have hy : l[k + 1]? = some l[k + 1] := List.getElem?_eq_getElem h1'
   have hw := okV_len hs (hokU _ (List.getElem_mem h1'))
   generalize l[k + 1] = w at hy hw
   have hhd : (l.drop (k + 1)).head? = some w := by rw [drop_cons hy]; rfl
   have hidx : (vsC l)[(IntKind.i64.wrap ((k : Int) + 1)).toNat]? = some (verC w) := by rw [ek, Int.toNat_natCast]; exact vsC_at hy
   (conv => whnf); refine ⟨_, hkey_spec F.z0o s hs v hv.2 _, ?_⟩
   (conv => whnf); refine And.intro (by rw [ek]; omega) ?_
   (conv => whnf); refine recO (hidx) ?_
   (conv => whnf); refine ⟨_, hkey_spec F.z0o s hs w hw.2 _, ?_⟩
   (conv => whnf); refine ⟨_, value_CompareRows_spec F.z1p false false (keyV s v.rc.row) (keyV s w.rc.row) (by rw [keyV_length]; have := hs.klen; omega) _, ?_⟩
   repeat ((conv => whnf); refine And.intro rfl ?_)
   (conv => whnf); refine recA (fun hb => ?_) (fun hb => ?_)
   ·simp at hb
    (conv => whnf); refine And.intro (by rw [ek]; omega) ?_
    (conv => whnf); refine recO (hidx) ?_
    (conv => whnf); refine ⟨_, wTime_spec F.z3x s hs.ok w.rc (by omega) _, ?_⟩
    repeat ((conv => whnf); refine And.intro rfl ?_)
    have hen : endV s v (l.drop (k + 1)) = tmV (timeV s w.rc) := by simp only [endV, hhd]; exact if_pos hb
    (conv => whnf); refine ⟨_, _, cloneV_ex F.z13 false v.rc.row (fun h => by rw [h] at hv; simp at hv; exact hs.ne hv) (by omega) _, ?_⟩
    (conv => whnf); refine ⟨_, wTime_spec F.z3x s hs.ok v.rc (by omega) _, ?_⟩
    (conv => whnf); refine recT (by rw [vC_length]; exact Nat.beq_refl _) ?_
    (conv => whnf); refine And.intro (⟨roomMul (by simp; omega) (by omega), roomB_le (by simp; omega), rfl, by rw [vC_length]⟩) ?_
    repeat ((conv => whnf); refine And.intro rfl ?_)
    conv => whnf
    (conv => whnf); refine recT (by rw [eC_length]; exact Nat.beq_refl _) ?_
    (conv => whnf); refine And.intro (⟨roomMul (by simp; omega) (by omega), roomB_le (by simp; omega), rfl, by rw [eC_length]⟩) ?_
    conv => whnf
    have hrw : vC v.rc.row ++ [valC (tmV (timeV s v.rc)), valC (tmV (timeV s w.rc))] = vC (ivR s v (l.drop (k + 1))) := by rw [ivR, hen, vC_append]; rfl
    have hrl : (vC v.rc.row ++ [valC (tmV (timeV s v.rc)), valC (tmV (timeV s w.rc))]).length = (ivR s v (l.drop (k + 1))).length := by rw [hrw, vC_length]
    have hOl : (eC E ++ [[AVal.sl 4 (vC v.rc.row ++ [valC (tmV (timeV s v.rc)), valC (tmV (timeV s w.rc))]).length 0 (vC v.rc.row ++ [valC (tmV (timeV s v.rc)), valC (tmV (timeV s w.rc))]).length, .int .i64 1]]).length = (E ++ [(⟨ivR s v (l.drop (k + 1)), 1⟩ : Ent)]).length := by simp [eC_length]
    refine ⟨m - 1, by omega, Gp.some (H1 := [.arr 7 [souC s], .arr 2 (eC (E ++ [⟨ivR s v (l.drop (k + 1)), 1⟩]))]) [0, 1] (by simp) ⟨⟨_, rfl, .same _ _ (pureS s)⟩, ⟨⟨_, rfl, ?_⟩, trivial⟩⟩ rfl ?_ fun ρ1 h => ⟨k + 1, E ++ [⟨ivR s v (l.drop (k + 1)), 1⟩], by omega, by simp; omega, by rw [← hr]; simp, rfl, h⟩⟩
    ·exact obPushI E (ivR s v (l.drop (k + 1))) 1 _ 4 [0, 1] _ (by simp) (by rw [← hrw]; rfl) hrl
    exact ⟨.keepP 0 1 0 0 0 rfl, .closed _ rfl, pubSl (k := 1) rfl rfl hOl hOl, .closed _ rfl, .closed _ rfl, pub_int ek, trivial⟩
   ·simp at hb
    have hen : endV s v (l.drop (k + 1)) = zV := by simp only [endV, hhd]; exact if_neg hb
    (conv => whnf); refine ⟨_, _, cloneV_ex F.z13 false v.rc.row (fun h => by rw [h] at hv; simp at hv; exact hs.ne hv) (by omega) _, ?_⟩
    (conv => whnf); refine ⟨_, wTime_spec F.z3x s hs.ok v.rc (by omega) _, ?_⟩
    (conv => whnf); refine recT (by rw [vC_length]; exact Nat.beq_refl _) ?_
    (conv => whnf); refine And.intro (⟨roomMul (by simp; omega) (by omega), roomB_le (by simp; omega), rfl, by rw [vC_length]⟩) ?_
    repeat ((conv => whnf); refine And.intro rfl ?_)
    conv => whnf
    (conv => whnf); refine recT (by rw [eC_length]; exact Nat.beq_refl _) ?_
    (conv => whnf); refine And.intro (⟨roomMul (by simp; omega) (by omega), roomB_le (by simp; omega), rfl, by rw [eC_length]⟩) ?_
    conv => whnf
    have hrw : vC v.rc.row ++ [valC (tmV (timeV s v.rc)), valC (zV)] = vC (ivR s v (l.drop (k + 1))) := by rw [ivR, hen, vC_append]; rfl
    have hrl : (vC v.rc.row ++ [valC (tmV (timeV s v.rc)), valC (zV)]).length = (ivR s v (l.drop (k + 1))).length := by rw [hrw, vC_length]
    have hOl : (eC E ++ [[AVal.sl 4 (vC v.rc.row ++ [valC (tmV (timeV s v.rc)), valC (zV)]).length 0 (vC v.rc.row ++ [valC (tmV (timeV s v.rc)), valC (zV)]).length, .int .i64 1]]).length = (E ++ [(⟨ivR s v (l.drop (k + 1)), 1⟩ : Ent)]).length := by simp [eC_length]
    refine ⟨m - 1, by omega, Gp.some (H1 := [.arr 7 [souC s], .arr 2 (eC (E ++ [⟨ivR s v (l.drop (k + 1)), 1⟩]))]) [0, 1] (by simp) ⟨⟨_, rfl, .same _ _ (pureS s)⟩, ⟨⟨_, rfl, ?_⟩, trivial⟩⟩ rfl ?_ fun ρ1 h => ⟨k + 1, E ++ [⟨ivR s v (l.drop (k + 1)), 1⟩], by omega, by simp; omega, by rw [← hr]; simp, rfl, h⟩⟩
    ·exact obPushI E (ivR s v (l.drop (k + 1))) 1 _ 4 [0, 1] _ (by simp) (by rw [← hrw]; rfl) hrl
    exact ⟨.keepP 0 1 0 0 0 rfl, .closed _ rfl, pubSl (k := 1) rfl rfl hOl hOl, .closed _ rfl, .closed _ rfl, pub_int ek, trivial⟩
  ·simp [ek, vsC_length] at h1
   repeat ((conv => whnf); refine And.intro rfl ?_)
   have hhd : (l.drop (k + 1)).head? = none := by rw [List.drop_of_length_le (by omega)]; rfl
   have hen : endV s v (l.drop (k + 1)) = zV := by simp only [endV, hhd]
   (conv => whnf); refine ⟨_, _, cloneV_ex F.z13 false v.rc.row (fun h => by rw [h] at hv; simp at hv; exact hs.ne hv) (by omega) _, ?_⟩
   (conv => whnf); refine ⟨_, wTime_spec F.z3x s hs.ok v.rc (by omega) _, ?_⟩
   (conv => whnf); refine recT (by rw [vC_length]; exact Nat.beq_refl _) ?_
   (conv => whnf); refine And.intro (⟨roomMul (by simp; omega) (by omega), roomB_le (by simp; omega), rfl, by rw [vC_length]⟩) ?_
   repeat ((conv => whnf); refine And.intro rfl ?_)
   conv => whnf
   (conv => whnf); refine recT (by rw [eC_length]; exact Nat.beq_refl _) ?_
   (conv => whnf); refine And.intro (⟨roomMul (by simp; omega) (by omega), roomB_le (by simp; omega), rfl, by rw [eC_length]⟩) ?_
   conv => whnf
   have hrw : vC v.rc.row ++ [valC (tmV (timeV s v.rc)), valC (zV)] = vC (ivR s v (l.drop (k + 1))) := by rw [ivR, hen, vC_append]; rfl
   have hrl : (vC v.rc.row ++ [valC (tmV (timeV s v.rc)), valC (zV)]).length = (ivR s v (l.drop (k + 1))).length := by rw [hrw, vC_length]
   have hOl : (eC E ++ [[AVal.sl 4 (vC v.rc.row ++ [valC (tmV (timeV s v.rc)), valC (zV)]).length 0 (vC v.rc.row ++ [valC (tmV (timeV s v.rc)), valC (zV)]).length, .int .i64 1]]).length = (E ++ [(⟨ivR s v (l.drop (k + 1)), 1⟩ : Ent)]).length := by simp [eC_length]
   refine ⟨m - 1, by omega, Gp.some (H1 := [.arr 7 [souC s], .arr 2 (eC (E ++ [⟨ivR s v (l.drop (k + 1)), 1⟩]))]) [0, 1] (by simp) ⟨⟨_, rfl, .same _ _ (pureS s)⟩, ⟨⟨_, rfl, ?_⟩, trivial⟩⟩ rfl ?_ fun ρ1 h => ⟨k + 1, E ++ [⟨ivR s v (l.drop (k + 1)), 1⟩], by omega, by simp; omega, by rw [← hr]; simp, rfl, h⟩⟩
   ·exact obPushI E (ivR s v (l.drop (k + 1))) 1 _ 4 [0, 1] _ (by simp) (by rw [← hrw]; rfl) hrl
   exact ⟨.keepP 0 1 0 0 0 rfl, .closed _ rfl, pubSl (k := 1) rfl rfl hOl hOl, .closed _ rfl, .closed _ rfl, pub_int ek, trivial⟩
 ·simp at hlt
  rw [List.drop_of_length_le (by omega), ivsG, List.append_nil] at hr
  subst hr
  have hll := ivsG_len s l
  have hrr := ivsG_row s hs l hokU
  (conv => whnf); refine recT (by rw [eC_length]; exact Nat.beq_refl _) ?_
  (conv => whnf); refine recF (by simp; omega) ?_
  (conv => whnf); refine ACalls.mono (hS.all (ivsG s l) (by omega) (fun e h => by have := hrr e h; omega) _ 1 rfl) ?_
  rintro r H' ⟨rfl, t, hp, ha, rfl⟩
  have ht : t = srtE (ivsG s l) := srtE_eq hp ha fun x hx y hy h => by
   have a := ivsG_one s l x hx
   have b := ivsG_one s l y hy
   cases x; cases y; simp_all
  have hl := hp.length_eq
  conv => whnf
  refine pub2 (pubFxH (es := eC (srtE (ivsG s l))) (es' := eC t) rfl (by rw [ht]) ?_ ?_ (pureEs_eC _)) (.closed _ rfl)
  ·rw [eC_length, ← ht, hl]
  ·rw [eC_length, ← ht, hl]

end Go.AW

namespace Go.AW
variable [Draws]
attribute [local irreducible] ACalls
theorem Ledger_spec {P : Program} (F : F_z3o P) (s : Src) (hc : s.cols ≠ []) (hcl : s.cols.length ≤ 900) (hk : s.key.length ≤ 900) (ls : List Int) (hl : ls.length ≤ 1000000) (H : List AObj) (g : Nat) (ho : H[g]? = some (gO ls 0)) :
  ACalls P F.id [.agg (defC (souS s)), .ptr g 1 0 0, .int .i64 4, .int .i64 6] H (fun r H' => r = .agg (ledC (ledV s ls).1) ∧ H' = H.set g (gO ls (ledV s ls).2)) := by
 have h1 := (Ledger_raw F s hc hcl hk ls hl).gp (Q := fun r H' => (∃ c, r = .agg [c] ∧ ledW (ledV s ls).1 c) ∧ H' = [gO ls (ledV s ls).2]) (by
  rintro r H' ⟨⟨c, rfl, hw⟩, t, rfl⟩
  refine Gp.res [0] (by simp) (keepB_hd rfl) (H1 := [gO ls (ledV s ls).2]) ⟨⟨_, rfl, .same _ _ rfl⟩, trivial⟩ (.closed (.agg [c]) ?_) ⟨_, rfl, ⟨c, rfl, hw⟩, rfl⟩
  rcases hw with ⟨_, rfl⟩ | rfl <;> rfl)
 refine ACalls.fr (args0 := [.agg (defC (souS s)), .ptr 0 1 0 0, .int .i64 4, .int .i64 6]) (o1 := gO ls (ledV s ls).2) ?_ ho rfl rfl (.cl rfl (.pt (.cl rfl (.cl rfl trivial)))) (.closed _ rfl)
 refine h1.weakR ?_
 rintro r H' ⟨⟨c, rfl, hw⟩, rfl⟩
 exact ⟨_, wkLed hw, rfl, rfl⟩

theorem shop_raw {P : Program} (F : F_z1y P) (n : Int) (H : List AObj) :
  ACalls P F.id [.int .i64 n] H (fun r H' => r = .agg [.list true 3 [zonC], .list true 7 [srcC (wsrc n)], .nil, .nil, .nil, .nil] ∧ H' = H) := by
 refine ACalls.pure rfl (acalls_of_body F.has ?_)
 (conv => whnf); refine ACalls.use (Source_spec F.z3u n _) ?_
 conv => whnf
 exact .closed _ rfl

theorem shop_spec {P : Program} (F : F_z1y P) (n : Int) (H : List AObj) :
  ACalls P F.id [.int .i64 n] H (fun r H' => r = .agg (defC (souS (wsrc n))) ∧ H' = H) :=
 (shop_raw F n H).weakR (by
  rintro r H' ⟨rfl, rfl⟩
  refine ⟨.agg (defC (souS (wsrc n))), .agg _ _ rfl fun i a b h1 h2 => ?_, rfl, rfl⟩
  rcases i with _ | _ | _ | _ | _ | _ | i
  ·cases h1; cases h2; exact .list _ _ _ _ (by simp)
  ·cases h1; cases h2; exact .list _ _ _ _ (by simp)
  ·cases h1; cases h2; exact .refl _
  ·cases h1; cases h2; exact .refl _
  ·cases h1; cases h2; exact .refl _
  ·cases h1; cases h2; exact .refl _
  ·simp at h1)

theorem wsrcC (n : Int) : (wsrc n).cols = (if wpart n then wcols ++ [⟨bs [112, 97, 114, 116], 3, false⟩] else wcols) := rfl

theorem wsrcK (n : Int) : (wsrc n).key = (if wpart n then [bs [112, 97, 114, 116], bs [105, 100]] else [bs [105, 100]]) := rfl

theorem wsrc_bnd (n : Int) : (wsrc n).cols ≠ [] ∧ (wsrc n).cols.length ≤ 4 ∧ (wsrc n).key.length ≤ 2 ∧ 3 ≤ (wsrc n).cols.length := by
 rw [wsrcC, wsrcK]
 split <;> simp [wcols]

set_option maxRecDepth 20000 in
theorem made_spec {P : Program} (F : F_z1v P) (n : Int) (ls : List Int) (hl : ls.length ≤ 1000000) (H : List AObj) :
  ACalls P F.id [.int .i64 n, .list false 1 (iC ls)] H (fun r H' => r = .tuple [.agg (srcC (wsrc n)), .agg (ledC (ledV (wsrc n) ls).1), .ptr H.length 1 0 0] ∧ H' = H ++ [gO ls (ledV (wsrc n) ls).2]) := by
 obtain ⟨h1, h2, h3, _⟩ := wsrc_bnd n
 have h0 : ACalls P F.id [.int .i64 n, .list false 1 (iC ls)] [] (fun r H1 => r = .tuple [.agg (srcC (wsrc n)), .agg (ledC (ledV (wsrc n) ls).1), .ptr 3 1 0 0] ∧ ∃ a b c, H1 = [a, b, c, gO ls (ledV (wsrc n) ls).2]) := by
  refine acalls_of_body F.has ?_
  (conv => whnf); refine ACalls.use (shop_spec F.z1y n _) ?_
  (conv => whnf); refine And.intro (by decide) ?_
  (conv => whnf); refine ⟨_, _, Ledger_spec F.z3o (wsrc n) h1 (by omega) (by omega) ls hl _ 3 rfl, ?_⟩
  repeat ((conv => whnf); refine And.intro rfl ?_)
  (conv => whnf); refine And.intro (by (conv => whnf); exact ⟨by decide, rfl⟩) ?_
  repeat ((conv => whnf); refine And.intro rfl ?_)
  exact ⟨_, _, _, rfl⟩
 refine ACalls.lift rfl h0 ?_
 rintro r H1 ⟨rfl, a, b, c, rfl⟩
 refine ⟨[3], .tuple [.agg (srcC (wsrc n)), .agg (ledC (ledV (wsrc n) ls).1), .ptr H.length 1 0 0], [gO ls (ledV (wsrc n) ls).2], pub3 (.closed _ rfl) (.closed _ rfl) (.keepP 3 1 0 0 0 rfl), by simp, rfl, fun k id hk => ?_, rfl, rfl⟩
 cases k with
 | zero => simp at hk; subst hk; exact ⟨rfl, _, _, rfl, rfl⟩
 | succ k => simp at hk

end Go.AW

namespace Go.AW
variable [Draws]
attribute [local irreducible] ACalls
set_option maxRecDepth 20000 in
theorem key26_spec {P : Program} (F : F_z2q P) (s : Sou) (hs : s.good) (ex : Bool) (row : List V) (hv : s.cols.length ≤ row.length) (hv2 : row.length ≤ 1000) (H : List AObj) :
  ACalls P F.id [.agg (souC s), .list ex 3 (vC row)] H (fun r H' => r = .list false 3 (vC (keyV s row)) ∧ H' = H) := by
 have hkl := hs.klen
 refine ACalls.pure (by simp [souC_closed, souC, AVal.closed, AVal.isPure]) (acalls_of_body F.has ?_)
 conv => whnf
 refine ⟨fun m ρ H1 => ∃ k : Nat, k + m = s.key.length ∧ H1 = [.arr 7 [souC s], .arr 3 (vC ((keyV s row).take k))] ∧ Sv 39 [(1, .list ex 3 (vC row)), (2, .ptr 0 1 0 0), (5, .sl 1 k 0 k), (6, .int .i64 k)] ρ, s.key.length, [(5, 3)], ?_, ?_⟩
 ·exact ⟨0, by omega, rfl, Sv.intro rfl ⟨rfl, rfl, rfl, rfl, trivial⟩⟩
 rintro m ρ H1 ⟨k, hk, rfl, d, rfl⟩
 have hkv : ((keyV s row).take k).length = k := by rw [List.length_take, keyV_length]; omega
 (conv => whnf); refine recA (fun hlt => ?_) (fun hlt => ?_)
 ·simp [sC_length] at hlt
  have hn : s.key[k]? = some s.key[k] := List.getElem?_eq_getElem hlt
  generalize s.key[k] = n at hn
  have hka := key_at hs hn
  (conv => whnf); refine And.intro (by omega) ?_
  (conv => whnf); refine recO (sC_at hn) ?_
  (conv => whnf); refine ⟨_, ref5_Index_spec F.z39 false s.cols (by have := hs.ten; omega) n _, ?_⟩
  repeat ((conv => whnf); refine And.intro rfl ?_)
  (conv => whnf); refine recT (by simp; omega) ?_
  (conv => whnf); refine recT (by rw [vC_length]; simp; omega) ?_
  (conv => whnf); refine And.intro (hka.1) ?_
  (conv => whnf); refine recO (vC_at (row_at hs hv hn)) ?_
  (conv => whnf); refine recT (by rw [vC_length, hkv]; exact Nat.beq_refl _) ?_
  (conv => whnf); refine And.intro (⟨roomMul (by simp; omega) (by omega), roomB_le (by simp; omega), rfl, by rw [vC_length, hkv]⟩) ?_
  conv => whnf
  have hcn : vC ((keyV s row).take k) ++ [valC (row.getD (colIdx s.cols n).toNat zV)] = vC ((keyV s row).take (k + 1)) := by rw [take_snoc (keyV_at hn), vC_append]; rfl
  have hl2 : (vC ((keyV s row).take k) ++ [valC (row.getD (colIdx s.cols n).toNat zV)]).length = k + 1 := by rw [List.length_append, vC_length, hkv]; rfl
  refine ⟨m - 1, by omega, Gp.keep rfl ?_ fun ρ1 h => ⟨k + 1, by omega, ?_, h⟩⟩
  ·exact ⟨rfl, rfl, slEq hl2 hl2, intEq (wrapI _ (by omega) (by omega)), trivial⟩
  ·rw [← hcn]; rfl
 ·simp [sC_length] at hlt
  have hkn : k = (keyV s row).length := by rw [keyV_length]; omega
  conv => whnf
  refine pubFxH (es := vC (keyV s row)) (es' := vC ((keyV s row).take k)) rfl (by rw [hkn, List.take_length]) (by rw [vC_length]; exact hkn) (by rw [vC_length]; exact hkn) (pureEs_vC _)

theorem cmpI_lt (a b : Int) : cmpI a b < 0 ↔ a < b := by unfold cmpI; split <;> (try split) <;> omega

def tupO (s : Sou) (v : Ver) : AObj := .arr 4 [[.int .i64 (timeV s v.rc), .int .i64 v.rc.seq, .int .i64 v.file, .int .i64 v.place]]

set_option maxHeartbeats 1000000 in
set_option maxRecDepth 20000 in
theorem before_spec {P : Program} (F : F_z2o P) (s : Sou) (hs : s.good) (x y : Ver) (hx : okV s x) (hy : okV s y) (H : List AObj) :
  ACalls P F.id [.agg (souC s), .agg (verC x), .agg (verC y)] H (fun r H' => r = .bool (decide (cmpVr s x y < 0)) ∧ H' = H) := by
 have lx := okV_len hs hx
 have ly := okV_len hs hy
 refine ACalls.pure rfl (acalls_of_body F.has ?_)
 (conv => whnf); refine ⟨_, key26_spec F.z2q s hs false x.rc.row lx.2 (by omega) _, ?_⟩
 (conv => whnf); refine ⟨_, key26_spec F.z2q s hs false y.rc.row ly.2 (by omega) _, ?_⟩
 (conv => whnf); refine ⟨_, ref1_CompareRows_spec F.z21 false false (keyV s x.rc.row) (keyV s y.rc.row) (by rw [keyV_length]; have := hs.klen; omega) _, ?_⟩
 repeat ((conv => whnf); refine And.intro rfl ?_)
 (conv => whnf); refine recA (fun h0 => ?_) (fun h0 => ?_)
 ·replace h0 : (!(rowsCmp (keyV s x.rc.row) (keyV s y.rc.row) == 0)) = true := h0
  have h0' : rowsCmp (keyV s x.rc.row) (keyV s y.rc.row) ≠ 0 := by simpa using h0
  conv => whnf
  refine pubB ?_
  rw [cmpVr, orI_two, if_neg h0']
 replace h0 : (!(rowsCmp (keyV s x.rc.row) (keyV s y.rc.row) == 0)) = false := h0
 have h0' : rowsCmp (keyV s x.rc.row) (keyV s y.rc.row) = 0 := by simpa using h0
 have hr0 : cmpVr s x y = orI [cmpI (timeV s x.rc) (timeV s y.rc), cmpI x.rc.seq y.rc.seq, cmpI x.file y.file, cmpI x.place y.place] := by rw [cmpVr, orI_two, if_pos h0']
 obtain ⟨R, hR⟩ : ∃ R, orI [cmpI (timeV s x.rc) (timeV s y.rc), cmpI x.rc.seq y.rc.seq, cmpI x.file y.file, cmpI x.place y.place] = R := ⟨_, rfl⟩
 rw [hr0, hR]
 clear hr0
 (conv => whnf); refine ⟨_, time25_spec F.z2l s hs.ok x.rc (by omega) _, ?_⟩
 repeat ((conv => whnf); refine And.intro rfl ?_)
 (conv => whnf); refine And.intro (⟨_, time25_spec F.z2l s hs.ok x.rc (by omega) _, rfl⟩) ?_
 repeat ((conv => whnf); refine And.intro rfl ?_)
 (conv => whnf); refine ⟨_, time25_spec F.z2l s hs.ok y.rc (by omega) _, ?_⟩
 repeat ((conv => whnf); refine And.intro rfl ?_)
 (conv => whnf); refine And.intro (⟨_, time25_spec F.z2l s hs.ok y.rc (by omega) _, rfl⟩) ?_
 repeat ((conv => whnf); refine And.intro rfl ?_)
 conv => whnf
 refine ⟨fun m ρ H1 => ∃ k : Nat, k + m = 4 ∧ orI ([cmpI (timeV s x.rc) (timeV s y.rc), cmpI x.rc.seq y.rc.seq, cmpI x.file y.file, cmpI x.place y.place].drop k) = R ∧ H1 = [.arr 7 [souC s], .arr 5 [verC x], .arr 5 [verC y], tupO s x, tupO s y] ∧ Sv 68 [(8, .ptr 3 1 0 0), (9, .ptr 4 1 0 0), (10, .int .i64 k)] ρ, 4, [], ?_, ?_⟩
 ·exact ⟨0, by omega, hR, rfl, Sv.intro rfl ⟨rfl, rfl, rfl, trivial⟩⟩
 rintro m ρ H1 ⟨k, hk, hr, rfl, d, rfl⟩
 have hkc : k = 0 ∨ k = 1 ∨ k = 2 ∨ k = 3 ∨ k = 4 := by omega
 rcases hkc with rfl | rfl | rfl | rfl | rfl
 ·change orI (cmpI (timeV s x.rc) (timeV s y.rc) :: _) = _ at hr
  (conv => whnf); refine And.intro (by decide) ?_
  (conv => whnf); refine And.intro (by decide) ?_
  repeat ((conv => whnf); refine And.intro rfl ?_)
  (conv => whnf); refine recA (fun hne => ?_) (fun hne => ?_)
  ·replace hne : (!((timeV s x.rc : Int) == timeV s y.rc)) = true := hne
   have hne' : ¬ (timeV s x.rc : Int) = timeV s y.rc := by simpa using hne
   have hz : cmpI (timeV s x.rc) (timeV s y.rc) ≠ 0 := fun h => hne' ((cmpI_zero _ _).1 h)
   rw [orI_two, if_neg hz] at hr
   (conv => whnf); refine And.intro (by decide) ?_
   (conv => whnf); refine And.intro (by decide) ?_
   repeat ((conv => whnf); refine And.intro rfl ?_)
   conv => whnf
   refine pubB ?_
   rw [← hr]
   exact decide_eq_decide.2 (cmpI_lt _ _).symm
  ·replace hne : (!((timeV s x.rc : Int) == timeV s y.rc)) = false := hne
   have hne' : (timeV s x.rc : Int) = timeV s y.rc := by simpa using hne
   rw [orI_two, if_pos ((cmpI_zero _ _).2 hne')] at hr
   conv => whnf
   refine ⟨m - 1, by omega, Gp.keep rfl ?_ fun ρ1 h => ⟨0 + 1, by omega, hr, rfl, h⟩⟩
   exact ⟨rfl, rfl, rfl, trivial⟩
 ·change orI (cmpI (x.rc.seq) (y.rc.seq) :: _) = _ at hr
  (conv => whnf); refine And.intro (by decide) ?_
  (conv => whnf); refine And.intro (by decide) ?_
  repeat ((conv => whnf); refine And.intro rfl ?_)
  (conv => whnf); refine recA (fun hne => ?_) (fun hne => ?_)
  ·replace hne : (!((x.rc.seq : Int) == y.rc.seq)) = true := hne
   have hne' : ¬ (x.rc.seq : Int) = y.rc.seq := by simpa using hne
   have hz : cmpI (x.rc.seq) (y.rc.seq) ≠ 0 := fun h => hne' ((cmpI_zero _ _).1 h)
   rw [orI_two, if_neg hz] at hr
   (conv => whnf); refine And.intro (by decide) ?_
   (conv => whnf); refine And.intro (by decide) ?_
   repeat ((conv => whnf); refine And.intro rfl ?_)
   conv => whnf
   refine pubB ?_
   rw [← hr]
   exact decide_eq_decide.2 (cmpI_lt _ _).symm
  ·replace hne : (!((x.rc.seq : Int) == y.rc.seq)) = false := hne
   have hne' : (x.rc.seq : Int) = y.rc.seq := by simpa using hne
   rw [orI_two, if_pos ((cmpI_zero _ _).2 hne')] at hr
   conv => whnf
   refine ⟨m - 1, by omega, Gp.keep rfl ?_ fun ρ1 h => ⟨1 + 1, by omega, hr, rfl, h⟩⟩
   exact ⟨rfl, rfl, rfl, trivial⟩
 ·change orI (cmpI (x.file) (y.file) :: _) = _ at hr
  (conv => whnf); refine And.intro (by decide) ?_
  (conv => whnf); refine And.intro (by decide) ?_
  repeat ((conv => whnf); refine And.intro rfl ?_)
  (conv => whnf); refine recA (fun hne => ?_) (fun hne => ?_)
  ·replace hne : (!((x.file : Int) == y.file)) = true := hne
   have hne' : ¬ (x.file : Int) = y.file := by simpa using hne
   have hz : cmpI (x.file) (y.file) ≠ 0 := fun h => hne' ((cmpI_zero _ _).1 h)
   rw [orI_two, if_neg hz] at hr
   (conv => whnf); refine And.intro (by decide) ?_
   (conv => whnf); refine And.intro (by decide) ?_
   repeat ((conv => whnf); refine And.intro rfl ?_)
   conv => whnf
   refine pubB ?_
   rw [← hr]
   exact decide_eq_decide.2 (cmpI_lt _ _).symm
  ·replace hne : (!((x.file : Int) == y.file)) = false := hne
   have hne' : (x.file : Int) = y.file := by simpa using hne
   rw [orI_two, if_pos ((cmpI_zero _ _).2 hne')] at hr
   conv => whnf
   refine ⟨m - 1, by omega, Gp.keep rfl ?_ fun ρ1 h => ⟨2 + 1, by omega, hr, rfl, h⟩⟩
   exact ⟨rfl, rfl, rfl, trivial⟩
 ·change orI (cmpI (x.place) (y.place) :: _) = _ at hr
  (conv => whnf); refine And.intro (by decide) ?_
  (conv => whnf); refine And.intro (by decide) ?_
  repeat ((conv => whnf); refine And.intro rfl ?_)
  (conv => whnf); refine recA (fun hne => ?_) (fun hne => ?_)
  ·replace hne : (!((x.place : Int) == y.place)) = true := hne
   have hne' : ¬ (x.place : Int) = y.place := by simpa using hne
   have hz : cmpI (x.place) (y.place) ≠ 0 := fun h => hne' ((cmpI_zero _ _).1 h)
   rw [orI_two, if_neg hz] at hr
   (conv => whnf); refine And.intro (by decide) ?_
   (conv => whnf); refine And.intro (by decide) ?_
   repeat ((conv => whnf); refine And.intro rfl ?_)
   conv => whnf
   refine pubB ?_
   rw [← hr]
   exact decide_eq_decide.2 (cmpI_lt _ _).symm
  ·replace hne : (!((x.place : Int) == y.place)) = false := hne
   have hne' : (x.place : Int) = y.place := by simpa using hne
   rw [orI_two, if_pos ((cmpI_zero _ _).2 hne')] at hr
   conv => whnf
   refine ⟨m - 1, by omega, Gp.keep rfl ?_ fun ρ1 h => ⟨3 + 1, by omega, hr, rfl, h⟩⟩
   exact ⟨rfl, rfl, rfl, trivial⟩
 ·conv => whnf
  refine pubB ?_
  rw [← hr]; rfl

end Go.AW

