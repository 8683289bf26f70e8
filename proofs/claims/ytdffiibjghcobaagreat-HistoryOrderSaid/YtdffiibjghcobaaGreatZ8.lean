/-
  An abstract machine over the model, the code of functions on it, and their contracts: what the claim needs.
  No condition: definitions, plain laws, contracts over any program that has this code.
-/
import Derived.Test.YtdffiibjghcobaaGreatZ7
set_option linter.all false
namespace Go.AW
variable [Draws]
attribute [local irreducible] ACalls
theorem pubFxI {H1 : List AObj} {n : Nat} {ids : List Nat} {id ep len sz : Nat} {es es' : List (List AVal)} (hid : id ∉ ids) (ho : H1[id]? = some (.arr sz es')) (hx : es' = es) (he : ep = es.length) (hl : len = es.length) (hp : pureEs es = true) : Pub H1 n ids (.sl id ep 0 len) (.list false sz es) := by
 subst hx; exact pubFI hid ho he hl hp

theorem put_asc {s : Sou} {x : Ver} {A B : List Ver} (h : AscO (cmpVr s) (A ++ B)) (hA : ∀ a, A.getLast? = some a → ¬ cmpVr s x a < 0) (hB : ∀ b ∈ B, cmpVr s x b < 0) : AscO (cmpVr s) (A ++ x :: B) := by
 have O := orders_V s
 obtain ⟨h1, h2, h3⟩ := List.pairwise_append.1 h
 have hAx : ∀ a ∈ A, 0 ≤ cmpVr s x a := by
  intro a ha
  rcases List.eq_nil_or_concat A with rfl | ⟨A', z, rfl⟩
  ·cases ha
  ·rw [List.concat_eq_append] at ha h1 hA
   have hz := hA z (by simp)
   rcases List.mem_append.1 ha with ha | ha
   ·have h4 := (List.pairwise_append.1 h1).2.2 a ha z (by simp)
    exact O.trans _ _ _ h4 (by omega)
   ·rw [List.mem_singleton.1 ha]; omega
 refine List.pairwise_append.2 ⟨h1, List.pairwise_cons.2 ⟨fun b hb => O.anti _ _ (hB b hb), h2⟩, fun a ha b hb => ?_⟩
 rcases List.mem_cons.1 hb with rfl | hb
 ·exact hAx a ha
 ·exact h3 a ha b hb

theorem put_perm {α : Type} {A B L : List α} {x : α} (h : (A ++ B).Perm L) : (A ++ x :: B).Perm (L ++ [x]) :=
 List.perm_middle.trans ((h.cons x).trans (List.perm_append_singleton x L).symm)

theorem getLast_at {α : Type} {A B : List α} {k : Nat} (hk : A.length = k) {a : α} (h : A.getLast? = some a) : (A ++ B)[k - 1]? = some a := by
 rw [List.getLast?_eq_getElem?, hk] at h
 rw [List.getElem?_append_left (by have := (List.getElem?_eq_some_iff.1 h).1; omega)]
 exact h

abbrev nilV : List Ver := []

def sOutC (out : List Ver) (i : Nat) (c : AVal) : Prop := (out = [] ∧ i = 0 ∧ c = .nil) ∨ c = .list false 5 (vsC out)

set_option maxHeartbeats 2000000 in
set_option maxRecDepth 20000 in
theorem sorted26_raw {P : Program} (F : F_z2q P) (s : Sou) (hs : s.good) (ex : Bool) (l : List Ver) (hl : l.length ≤ 1000) (hok : ∀ v ∈ l, okV s v) (hU : Uq s l) (H : List AObj) :
  ACalls P F.id [.agg (souC s), .list ex 5 (vsC l)] H (fun r H' => ((l = [] ∧ r = .nil) ∨ r = .list false 5 (vsC (srtV s l))) ∧ H' = H) := by
 refine ACalls.lift0 (by simp [souC, AVal.closed, AVal.isPure]) (acalls_of_body F.has ?_)
 conv => whnf
 refine ⟨fun m ρ H1 => ∃ (i : Nat) (out : List Ver) (c : AVal), i + m = l.length ∧ out.Perm (l.take i) ∧ AscO (cmpVr s) out ∧ sOutC out i c ∧ H1 = [.arr 7 [souC s]] ∧ Sv 48 [(1, .list ex 5 (vsC l)), (2, .ptr 0 1 0 0), (5, c), (6, .int .i64 i)] ρ, l.length, [], ?_, ?_⟩
 ·exact ⟨0, [], .nil, by omega, .refl _, .nil, .inl ⟨rfl, rfl, rfl⟩, rfl, Sv.intro rfl ⟨rfl, rfl, rfl, rfl, trivial⟩⟩
 rintro m ρ H1 ⟨i, out, c, hi, hp, ha, hc, rfl, d, rfl⟩
 rcases hc with ⟨rfl, rfl, rfl⟩ | rfl
 ·(conv => whnf); refine recA (fun hlt => ?_) (fun hlt => ?_)
  ·simp [vsC_length] at hlt
   have hx : l[0]? = some l[0] := List.getElem?_eq_getElem hlt
   generalize l[0] = x at hx
   have hTx : l.take (0 + 1) = l.take 0 ++ [x] := take_snoc hx
   conv => whnf
   refine ⟨fun m2 ρ H1 => H1 = [.arr 7 [souC s]] ∧ Sv 48 [(1, .list ex 5 (vsC l)), (2, .ptr 0 1 0 0), (5, .nil), (6, .int .i64 (0 : Nat)), (7, .int .i64 0)] ρ, 0, [], ?_, ?_⟩
   ·exact ⟨rfl, Sv.intro rfl ⟨rfl, rfl, rfl, rfl, rfl, trivial⟩⟩
   rintro m2 ρ H1 ⟨rfl, d, rfl⟩
   (conv => whnf); refine And.intro (⟨rfl, rfl⟩) ?_
   (conv => whnf); refine And.intro (by omega) ?_
   (conv => whnf); refine recO (vsC_at hx) ?_
   (conv => whnf); refine And.intro (by decide) ?_
   (conv => whnf); refine And.intro (⟨roomMul (by simp) (by omega), roomB_le (by simp)⟩) ?_
   repeat ((conv => whnf); refine And.intro rfl ?_)
   conv => whnf
   have hA : ∀ a, ([] : List Ver).getLast? = some a → ¬ cmpVr s x a < 0 := fun a h => by simp at h
   have hB : ∀ b ∈ ([] : List Ver), cmpVr s x b < 0 := fun b h => by cases h
   refine ⟨m - 1, by omega, Gp.first 1 [.arr 7 [souC s]] rfl rfl (by rw [List.all_cons, pureS]; rfl) rfl ?_ fun ρ1 h => ⟨0 + 1, [x], .list false 5 (vsC [x]), by omega, by rw [hTx]; exact .refl _, List.pairwise_singleton _ _, .inr rfl, rfl, h⟩⟩
   exact ⟨.closed (.list ex 5 (vsC l)) rfl, .keepP 0 1 0 0 0 rfl, pubFxI (es := vsC [x]) (id := 1) (by simp) rfl rfl rfl rfl (pureEs_vsC _), pub_int (wrapI _ (by omega) (by omega)), trivial⟩
  ·simp [vsC_length] at hlt
   conv => whnf
   exact ⟨_, .closed _ rfl, .inl ⟨hlt, rfl⟩⟩
 ·(conv => whnf); refine recA (fun hlt => ?_) (fun hlt => ?_)
  ·simp [vsC_length] at hlt
   have hx : l[i]? = some l[i] := List.getElem?_eq_getElem hlt
   have hxo := hok _ (List.getElem_mem hlt)
   generalize l[i] = x at hx hxo
   have hTx : l.take (i + 1) = l.take i ++ [x] := take_snoc hx
   have hol : out.length = i := by rw [hp.length_eq, List.length_take]; omega
   have hoo : ∀ v ∈ out, okV s v := fun v hv => hok v (List.mem_of_mem_take (hp.mem_iff.1 hv))
   conv => whnf
   refine ⟨fun m2 ρ H1 => ∃ k : Nat, k = m2 ∧ k ≤ out.length ∧ (∀ b ∈ out.drop k, cmpVr s x b < 0) ∧ H1 = [.arr 7 [souC s]] ∧ Sv 48 [(1, .list ex 5 (vsC l)), (2, .ptr 0 1 0 0), (5, .list false 5 (vsC out)), (6, .int .i64 i), (7, .int .i64 k)] ρ, out.length, [], ?_, ?_⟩
   ·exact ⟨out.length, rfl, Nat.le_refl _, (fun b hb => by rw [List.drop_length] at hb; cases hb), rfl, Sv.intro rfl ⟨rfl, rfl, rfl, rfl, intEq (by rw [vsC_length]), trivial⟩⟩
   rintro m2 ρ H1 ⟨k, rfl, hk, hB, rfl, d, rfl⟩
   obtain ⟨A, B, rfl, rfl⟩ : ∃ A B, out = A ++ B ∧ k = A.length := ⟨out.take k, out.drop k, (List.take_append_drop ..).symm, by rw [List.length_take]; omega⟩
   rw [List.drop_left] at hB
   have e1 : List.take ((A.length : Nat) : Int).toNat (vsC (A ++ B)) = vsC A := by rw [Int.toNat_natCast, vsC_append, ← vsC_length A, List.take_left]
   have e2 : List.drop ((A.length : Nat) : Int).toNat (List.take (vsC (A ++ B)).length (vsC (A ++ B))) = vsC B := by rw [Int.toNat_natCast, List.take_length, vsC_append, ← vsC_length A, List.drop_left]
   rcases A with _ | ⟨a, A⟩
   ·have hA : ∀ a, ([] : List Ver).getLast? = some a → ¬ cmpVr s x a < 0 := fun a h => by simp at h
    (conv => whnf); refine And.intro (⟨rfl, by decide, by simp⟩) ?_
    conv => whnf
    rw [e1]
    (conv => whnf); refine And.intro (by omega) ?_
    (conv => whnf); refine recO (vsC_at hx) ?_
    (conv => whnf); refine And.intro (⟨by omega, by rw [vsC_length]; simp <;> omega⟩) ?_
    conv => whnf
    rw [e2]
    rcases B with _ | ⟨b, B⟩
    ·(conv => whnf); refine And.intro (⟨roomMul (by simp [vsC] at hol ⊢ <;> omega) (by omega), roomB_le (by simp [vsC] at hol ⊢ <;> omega), .inl (by simp)⟩) ?_
     repeat ((conv => whnf); refine And.intro rfl ?_)
     conv => whnf
     refine ⟨m - 1, by omega, Gp.first 1 [.arr 7 [souC s]] rfl rfl (by rw [List.all_cons, pureS]; rfl) rfl ?_ fun ρ1 h => ⟨i + 1, nilV ++ x :: nilV, .list false 5 (vsC (nilV ++ x :: nilV)), by omega, by rw [hTx]; exact put_perm hp, put_asc ha hA hB, .inr rfl, rfl, h⟩⟩
     exact ⟨.closed (.list ex 5 (vsC l)) rfl, .keepP 0 1 0 0 0 rfl, pubFxI (es := vsC (nilV ++ x :: nilV)) (id := 1) (by simp) rfl (by simp [vsC, verC, List.take_of_length_le]) (by simp [vsC]) (by simp [vsC]) (pureEs_vsC _), pub_int (wrapI _ (by omega) (by omega)), trivial⟩
    ·(conv => whnf); refine And.intro (⟨roomMul (by simp [vsC] at hol ⊢ <;> omega) (by omega), roomB_le (by simp [vsC] at hol ⊢ <;> omega), .inl (by simp [vsC])⟩) ?_
     (conv => whnf); refine recT (Nat.beq_refl _) ?_
     (conv => whnf); refine And.intro (⟨roomMul (by simp [vsC] at hol ⊢ <;> omega) (by omega), roomB_le (by simp [vsC] at hol ⊢ <;> omega), .inl (by simp)⟩) ?_
     repeat ((conv => whnf); refine And.intro rfl ?_)
     conv => whnf
     refine ⟨m - 1, by omega, Gp.first 1 [.arr 7 [souC s]] rfl rfl (by rw [List.all_cons, pureS]; rfl) rfl ?_ fun ρ1 h => ⟨i + 1, nilV ++ x :: (b::B), .list false 5 (vsC (nilV ++ x :: (b::B))), by omega, by rw [hTx]; exact put_perm hp, put_asc ha hA hB, .inr rfl, rfl, h⟩⟩
     exact ⟨.closed (.list ex 5 (vsC l)) rfl, .keepP 0 1 0 0 0 rfl, pubFxI (es := vsC (nilV ++ x :: (b::B))) (id := 2) (by simp) rfl (by simp [vsC, verC, List.take_of_length_le]) (by simp [vsC]) (by simp [vsC]) (pureEs_vsC _), pub_int (wrapI _ (by omega) (by omega)), trivial⟩
   ·obtain ⟨z, hz⟩ : ∃ z, (a :: A).getLast? = some z := ⟨_, List.getLast?_eq_some_getLast (by simp)⟩
    have hzm : z ∈ (a :: A) ++ B := List.mem_append_left _ (List.mem_of_getLast? hz)
    have hzo := hoo z hzm
    have hsp : (a :: A) ++ B = (a :: A).dropLast ++ (z :: B) := by
     have hzl : (a :: A).getLast (by simp) = z := by rw [List.getLast?_eq_some_getLast (by simp)] at hz; exact Option.some.inj hz
     have e := List.dropLast_concat_getLast (l := a :: A) (by simp)
     rw [hzl] at e
     refine (congrArg (fun y => y ++ B) e).symm.trans ?_
     show ((a :: A).dropLast ++ [z]) ++ B = _
     rw [List.append_assoc]; rfl
    have hdl : (a :: A).dropLast.length = A.length := by simp
    have hlA : (a :: A).length = A.length + 1 := rfl
    have hlt2 : (a :: A).length ≤ 1000 := by simp at hol ⊢; omega
    have ew : IntKind.i64.wrap (((a :: A).length : Int) - 1) = (((a :: A).length - 1 : Nat) : Int) := by rw [wrapI _ (by omega) (by omega)]; omega
    have hidx : (vsC ((a :: A) ++ B))[(IntKind.i64.wrap (((a :: A).length : Int) - 1)).toNat]? = some (verC z) := by rw [ew, Int.toNat_natCast]; exact vsC_at (getLast_at rfl hz)
    (conv => whnf); refine recT (by simp <;> omega) ?_
    (conv => whnf); refine And.intro (by omega) ?_
    (conv => whnf); refine recO (vsC_at hx) ?_
    (conv => whnf); refine And.intro (by rw [ew]; omega) ?_
    (conv => whnf); refine recO (hidx) ?_
    (conv => whnf); refine ⟨_, before_spec F.z2m s hs x z hxo hzo _, ?_⟩
    repeat ((conv => whnf); refine And.intro rfl ?_)
    (conv => whnf); refine recA (fun hb => ?_) (fun hb => ?_)
    ·replace hb : decide (cmpVr s x z < 0) = true := hb
     conv => whnf
     refine ⟨A.length, by omega, Gp.keep rfl ?_ fun ρ1 h => ⟨A.length, rfl, by simp; omega, fun b hb2 => ?_, rfl, h⟩⟩
     ·exact ⟨rfl, rfl, rfl, rfl, intEq ew, trivial⟩
     ·rw [hsp, ← hdl, List.drop_left] at hb2
      rcases List.mem_cons.1 hb2 with rfl | hb2
      ·exact of_decide_eq_true hb
      ·exact hB b hb2
    ·replace hb : decide (cmpVr s x z < 0) = false := hb
     have hA : ∀ y, (a :: A).getLast? = some y → ¬ cmpVr s x y < 0 := fun y hy => by
      rw [hz] at hy; cases hy
      exact of_decide_eq_false hb
     (conv => whnf); refine And.intro (⟨rfl, by omega, by rw [vsC_length]; simp <;> omega⟩) ?_
     conv => whnf
     rw [e1]
     (conv => whnf); refine And.intro (by omega) ?_
     (conv => whnf); refine recO (vsC_at hx) ?_
     (conv => whnf); refine And.intro (⟨by omega, by rw [vsC_length]; simp <;> omega⟩) ?_
     conv => whnf
     rw [e2]
     rcases B with _ | ⟨b, B⟩
     ·(conv => whnf); refine And.intro (⟨roomMul (by simp [vsC] at hol ⊢ <;> omega) (by omega), roomB_le (by simp [vsC] at hol ⊢ <;> omega), .inl (by simp)⟩) ?_
      repeat ((conv => whnf); refine And.intro rfl ?_)
      conv => whnf
      refine ⟨m - 1, by omega, Gp.first 1 [.arr 7 [souC s]] rfl rfl (by rw [List.all_cons, pureS]; rfl) rfl ?_ fun ρ1 h => ⟨i + 1, (a::A) ++ x :: nilV, .list false 5 (vsC ((a::A) ++ x :: nilV)), by omega, by rw [hTx]; exact put_perm hp, put_asc ha hA hB, .inr rfl, rfl, h⟩⟩
      exact ⟨.closed (.list ex 5 (vsC l)) rfl, .keepP 0 1 0 0 0 rfl, pubFxI (es := vsC ((a::A) ++ x :: nilV)) (id := 1) (by simp) rfl (by simp [vsC, verC, List.take_of_length_le]) (by simp [vsC]) (by simp [vsC]) (pureEs_vsC _), pub_int (wrapI _ (by omega) (by omega)), trivial⟩
     ·(conv => whnf); refine And.intro (⟨roomMul (by simp [vsC] at hol ⊢ <;> omega) (by omega), roomB_le (by simp [vsC] at hol ⊢ <;> omega), .inl (by simp [vsC])⟩) ?_
      (conv => whnf); refine recT (Nat.beq_refl _) ?_
      (conv => whnf); refine And.intro (⟨roomMul (by simp [vsC] at hol ⊢ <;> omega) (by omega), roomB_le (by simp [vsC] at hol ⊢ <;> omega), .inl (by simp)⟩) ?_
      repeat ((conv => whnf); refine And.intro rfl ?_)
      conv => whnf
      refine ⟨m - 1, by omega, Gp.first 1 [.arr 7 [souC s]] rfl rfl (by rw [List.all_cons, pureS]; rfl) rfl ?_ fun ρ1 h => ⟨i + 1, (a::A) ++ x :: (b::B), .list false 5 (vsC ((a::A) ++ x :: (b::B))), by omega, by rw [hTx]; exact put_perm hp, put_asc ha hA hB, .inr rfl, rfl, h⟩⟩
      exact ⟨.closed (.list ex 5 (vsC l)) rfl, .keepP 0 1 0 0 0 rfl, pubFxI (es := vsC ((a::A) ++ x :: (b::B))) (id := 2) (by simp) rfl (by simp [vsC, verC, List.take_of_length_le]) (by simp [vsC]) (by simp [vsC]) (pureEs_vsC _), pub_int (wrapI _ (by omega) (by omega)), trivial⟩
  ·simp [vsC_length] at hlt
   rw [List.take_of_length_le (by omega)] at hp
   have hZ : out = srtV s l := isort_eq (orders_V s) hp ha hU.zz
   conv => whnf
   rw [hZ]
   exact ⟨_, .closed _ rfl, .inr rfl⟩

end Go.AW

namespace Go.AW
variable [Draws]
attribute [local irreducible] ACalls
theorem sorted26_spec {P : Program} (F : F_z2q P) (s : Sou) (hs : s.good) (ex : Bool) (l : List Ver) (hl : l.length ≤ 1000) (hok : ∀ v ∈ l, okV s v) (hU : Uq s l) (H : List AObj) :
  ACalls P F.id [.agg (souC s), .list ex 5 (vsC l)] H (fun r H' => r = .list false 5 (vsC (srtV s l)) ∧ H' = H) :=
 (sorted26_raw F s hs ex l hl hok hU H).weakR (by
  rintro r H' ⟨⟨rfl, rfl⟩ | rfl, rfl⟩
  ·exact ⟨_, .nil false 5, rfl, rfl⟩
  ·exact ⟨_, .refl _, rfl, rfl⟩)

theorem couL_uq (s : Sou) (l : List Del) : Uq s (couL s 0 l) := by
 intro x hx y hy h
 obtain ⟨_, _, _, h1, h2⟩ := cmpVr_zero.1 h
 obtain ⟨k1, d1, e1, m1⟩ := couL_mem hx
 obtain ⟨k2, d2, e2, m2⟩ := couL_mem hy
 obtain ⟨_, _, f1, j1, _, p1, g1⟩ := couR_mem m1
 obtain ⟨_, _, f2, j2, _, p2, g2⟩ := couR_mem m2
 have hk : k1 = k2 := by omega
 subst hk
 rw [e1] at e2; cases e2
 have hj : j1 = j2 := by omega
 subst hj
 rw [g1] at g2
 obtain ⟨rx, fx, px⟩ := x
 obtain ⟨ry, fy, py⟩ := y
 simp only [Option.some.injEq] at g2
 simp only [] at h1 h2
 subst h1 h2 g2
 rfl

set_option maxRecDepth 20000 in
theorem versions26_spec {P : Program} (F : F_z2r P) (s : Sou) (hs : s.good) (l : List Del) (hl : l.length ≤ 1000) (h24 : (couL s 0 l).length ≤ 1000) (hok : ∀ x ∈ l, x.ok) (H : List AObj) :
  ACalls P F.id [.agg (ledC l), .agg (souC s)] H (fun r H' => r = .list false 5 (vsC (srtV s (couL s 0 l))) ∧ H' = H) := by
 refine ACalls.pure (by simp [souC, ledC, AVal.closed, AVal.isPure]) (acalls_of_body F.has ?_)
 (conv => whnf); refine ⟨_, counted_spec F.z2u s hs.ok l hl hok _, ?_⟩
 (conv => whnf); refine ⟨_, sorted26_spec F.z2q s hs false (couL s 0 l) h24 (fun v hv => couL_fits hv) (couL_uq s l) _, ?_⟩
 repeat ((conv => whnf); refine And.intro rfl ?_)
 conv => whnf
 exact .closed _ rfl

set_option maxRecDepth 20000 in
theorem sameEnt_spec {P : Program} (F : F_z24 P) (e1 e2 : Bool) (a b : List Ent) (ha : a.length ≤ 100000) (hr : ∀ e ∈ a, e.row.length ≤ 1000) (H : List AObj) :
  ACalls P F.id [.list e1 2 (eC a), .list e2 2 (eC b)] H (fun r H' => r = .bool (eqD a b) ∧ H' = H) := by
 refine ACalls.pure (by simp [AVal.closed, AVal.isPure]) (acalls_of_body F.has ?_)
 (conv => whnf); refine recA (fun hn => ?_) (fun hn => ?_)
 ·simp [eC_length] at hn
  conv => whnf
  exact pubB (eqD_false fun h => hn (by rw [h])).symm
 simp [eC_length] at hn
 conv => whnf
 refine ⟨fun m ρ H1 => ∃ k : Nat, k + m = a.length ∧ (a = b ↔ a.drop k = b.drop k) ∧ H1 = [] ∧ Sv 42 [(0, .list e1 2 (eC a)), (1, .list e2 2 (eC b)), (5, .int .i64 k)] ρ, a.length, [], ?_, ?_⟩
 ·exact ⟨0, by omega, .rfl, rfl, Sv.intro rfl ⟨rfl, rfl, rfl, trivial⟩⟩
 rintro m ρ H1 ⟨k, hk, hR, rfl, d, rfl⟩
 (conv => whnf); refine recA (fun hlt => ?_) (fun hlt => ?_)
 ·simp [eC_length] at hlt
  have hx : a[k]? = some a[k] := List.getElem?_eq_getElem hlt
  have hy : b[k]? = some b[k] := List.getElem?_eq_getElem (by omega)
  have hrl := hr _ (List.getElem_mem hlt)
  generalize a[k] = x at hx hrl
  generalize b[k]'_ = y at hy
  rw [drop_cons hx, drop_cons hy] at hR
  (conv => whnf); refine And.intro (by omega) ?_
  (conv => whnf); refine recO (eC_at hx) ?_
  (conv => whnf); refine And.intro (by omega) ?_
  (conv => whnf); refine recO (eC_at hy) ?_
  (conv => whnf); refine recA (fun h1 => ?_) (fun h1 => ?_)
  ·replace h1 : (!(x.cnt == y.cnt)) = true := h1
   repeat ((conv => whnf); refine And.intro rfl ?_)
   conv => whnf
   refine pubB (eqD_false fun h => ?_).symm
   have := List.cons.inj (hR.1 h)
   rw [this.1] at h1
   simp at h1
  ·replace h1 : (!(x.cnt == y.cnt)) = false := h1
   have h1' : x.cnt = y.cnt := by simpa using h1
   (conv => whnf); refine And.intro (by omega) ?_
   (conv => whnf); refine recO (eC_at hx) ?_
   (conv => whnf); refine And.intro (by omega) ?_
   (conv => whnf); refine recO (eC_at hy) ?_
   (conv => whnf); refine ⟨_, ref22_SameRow_spec F.z25 false false x.row y.row (by omega) _, ?_⟩
   repeat ((conv => whnf); refine And.intro rfl ?_)
   (conv => whnf); refine recA (fun h2 => ?_) (fun h2 => ?_)
   ·replace h2 : (!(eqD x.row y.row)) = true := h2
    conv => whnf
    refine pubB (eqD_false fun h => ?_).symm
    have := List.cons.inj (hR.1 h)
    rw [this.1, eqD_true rfl] at h2
    simp at h2
   ·replace h2 : (!(eqD x.row y.row)) = false := h2
    have h2' : x.row = y.row := by
     refine Classical.byContradiction fun h => ?_
     rw [eqD_false h] at h2
     simp at h2
    conv => whnf
    refine ⟨m - 1, by omega, Gp.none rfl ?_ fun ρ1 h => ⟨k + 1, by omega, ?_, rfl, h⟩⟩
    ·exact ⟨.closed (.list e1 2 (eC a)) rfl, .closed (.list e2 2 (eC b)) rfl, pub_int (wrapI _ (by omega) (by omega)), trivial⟩
    ·rw [hR]
     cases x; cases y
     simp only [] at h1' h2'
     subst h1' h2'
     exact ⟨fun h => (List.cons.inj h).2, fun h => by rw [h]⟩
 ·simp [eC_length] at hlt
  rw [List.drop_of_length_le (by omega), List.drop_of_length_le (by omega)] at hR
  conv => whnf
  exact pubB (eqD_true (hR.2 rfl)).symm

end Go.AW

namespace Go.AW
variable [Draws]
section
variable {P : Program} {C C' : Nat → Nat} {τ τ' : Nat → Option Loc} {H H' : List AObj} {w w' : World}
def Indep (a : AVal) : Prop := a.closed = true ∨ ∃ f vs, a = .fn f vs ∧ vs.all AVal.isPure = true

theorem Rel.indep {d : AVal} {v : Value} (h : Rel C w τ H d v) (hd : Indep d) (hle : ∀ b, C b ≤ C' b) (hc : ∀ b i, i < C b → w'.cell? ⟨b, i, none⟩ = w.cell? ⟨b, i, none⟩) : Rel C' w' τ' H' d v := by
 rcases hd with hd | ⟨f, vs, rfl, hp⟩
 ·exact h.closed hd hle hc
 ·cases h with
  | rd h => exact .rd (h.mono hle hc)
  | fn _ _ ws hl hr => exact .fn _ _ _ hl fun i c v h1 h2 => .rd (((hr i c v h1 h2).pure (List.all_eq_true.1 hp c (List.mem_of_getElem? h1))).mono hle hc)

theorem ACalls.liftF {f : FuncId} {args : List AVal} {Q0 Q : AVal → List AObj → Prop} (ha : ∀ a ∈ args, Indep a) (h : ACalls P f args [] Q0)
  (hq : ∀ r H1, Q0 r H1 → ∃ ids r' Hn, Pub H1 H.length ids r r' ∧ ids.Nodup ∧ ids.length = Hn.length ∧ (∀ (k id : Nat), ids[k]? = some id → Hn[k]? = H1[id]? ∧ ∃ esz es, H1[id]? = some (.arr esz es) ∧ pureEs es = true) ∧ Q r' (H ++ Hn)) :
  ACalls P f args H Q := by
 intro C τ w vs hw hl hr
 have hw0 : WF C τ [] w := ⟨fun id o h => by simp at h, fun id o h => by simp at h, fun id o l h => by simp at h, fun id l h => by simp at h, fun i j li lj h => by simp at h, hw.lt⟩
 have hr0 : ∀ (i : Nat) (a : AVal) (v : Value), args[i]? = some a → vs[i]? = some v → Rel C w τ [] a v := fun i a v h1 h2 =>
  (hr i a v h1 h2).indep (ha a (List.mem_of_getElem? h1)) (fun _ => Nat.le_refl _) (fun _ _ _ => rfl)
 have hc := h C τ w vs hw0 hl hr0
 have fin : ∀ (e : Ending) (w' : World), (∃ v r C' τ' H', e = .returned v ∧ Q0 r H' ∧ Rel C' w' τ' H' r v ∧ St w (PrCall τ [] w) C' τ' H' w' ∧ Step C τ [] w C' τ' H' w') →
   ∃ v r C' τ' H', e = .returned v ∧ Q r H' ∧ Rel C' w' τ' H' r v ∧ St w (PrCall τ H w) C' τ' H' w' ∧ Step C τ H w C' τ' H' w' := by
  rintro e w' ⟨v, r, C1, τ1, H1, he, hq0, hrel, hst, hstep⟩
  obtain ⟨ids, r', Hn, hpub, hnd, hlen, hkeep, hQ⟩ := hq r H1 hq0
  have prall : ∀ b, b < w.heap.size → PrCall τ [] w b := fun b hb => ⟨hb, by rintro ⟨id, l, h, _⟩; simp at h⟩
  have hheap : ∀ b, b < w.heap.size → w'.heap[b]? = w.heap[b]? := fun b hb => hst.fr.prot b (prall b hb)
  have hnew : ∀ id l, id < H1.length → τ1 id = some l → w.heap.size ≤ l.b := fun id l h1 h2 => by
   rcases Nat.lt_or_ge l.b w.heap.size with h3 | h3
   ·exact absurd (prall _ h3) (hst.own _ ⟨id, l, h1, h2, rfl⟩)
   ·exact h3
  let τ2 : Nat → Option Loc := fun i => if i < H.length then τ i else match ids[i - H.length]? with
   | some id => τ1 id
   | none => none
  have hτ : ∀ i, i < H.length → τ2 i = τ i := fun i hi => by simp only [τ2, if_pos hi]
  have hτn : ∀ k id, ids[k]? = some id → τ2 (H.length + k) = τ1 id := fun k id hk => by
   simp only [τ2, if_neg (by omega : ¬ H.length + k < H.length), Nat.add_sub_cancel_left, hk]
  have hidlt : ∀ k id, ids[k]? = some id → id < H1.length := fun k id hk => by
   obtain ⟨_, esz, es, h1, _⟩ := hkeep k id hk
   exact (List.getElem?_eq_some_iff.1 h1).1
  have getn : ∀ k, (H ++ Hn)[H.length + k]? = Hn[k]? := fun k => by rw [List.getElem?_append_right (by omega), Nat.add_sub_cancel_left]
  have hC2 : ∀ b, b < w.heap.size → commit C1 τ1 H1 ids b = C b := fun b hb => by
   rw [commit_other fun id l h1 _ h2 h3 => by have := hnew id l h1 h2; omega]
   exact hstep.old b hb
  have step : Step C τ H w (commit C1 τ1 H1 ids) τ2 (H ++ Hn) w' := by
   refine ⟨fun b => Nat.le_trans (hstep.le b) (commit_le hst.wf b), fun b i hi => hstep.cell b i hi, fun id o ho => ?_, hstep.grow, hC2⟩
   have hi := (List.getElem?_eq_some_iff.1 ho).1
   exact ⟨o, by rw [List.getElem?_append_left hi]; exact ho, by rw [hτ id hi]; exact o.after_refl _⟩
  
  have split : ∀ i, i < (H ++ Hn).length → i < H.length ∨ ∃ k id, i = H.length + k ∧ ids[k]? = some id := fun i hi => by
   rcases Nat.lt_or_ge i H.length with h1 | h1
   ·exact .inl h1
   ·have hk : i - H.length < ids.length := by rw [List.length_append] at hi; omega
    exact .inr ⟨i - H.length, ids[i - H.length], by omega, List.getElem?_eq_getElem hk⟩
  refine ⟨v, r', commit C1 τ1 H1 ids, τ2, H ++ Hn, he, hQ, pub_rel hst.wf (fun k id hk => ⟨fun esz es he => ⟨es, by rw [getn, (hkeep k id hk).1]; exact he, rfl⟩, hτn k id hk⟩) hpub hrel, ⟨⟨?_, ?_, ?_, ?_, ?_, ?_⟩, ?_, ?_, ?_⟩, step⟩
  ·intro i o ho
   rcases split i (List.getElem?_eq_some_iff.1 ho).1 with h1 | ⟨k, id, rfl, hk⟩
   ·rw [List.getElem?_append_left h1] at ho; exact hw.ok i o ho
   ·rw [getn, (hkeep k id hk).1] at ho; exact hst.wf.ok id o ho
  ·intro i o ho ht
   rcases split i (List.getElem?_eq_some_iff.1 ho).1 with h1 | ⟨k, id, rfl, hk⟩
   ·rw [List.getElem?_append_left h1] at ho; rw [hτ i h1] at ht; exact hw.virt i o ho ht
   ·rw [getn, (hkeep k id hk).1] at ho; rw [hτn k id hk] at ht; exact hst.wf.virt id o ho ht
  ·intro i o l ho ht
   rcases split i (List.getElem?_eq_some_iff.1 ho).1 with h1 | ⟨k, id, rfl, hk⟩
   ·rw [List.getElem?_append_left h1] at ho; rw [hτ i h1] at ht
    exact (hw.objs i o l ho ht).mono step (hheap _ (hw.locLt h1 ht))
   ·obtain ⟨g1, esz, es, g2, g3⟩ := hkeep k id hk
    rw [getn, g1, g2] at ho; cases ho
    rw [hτn k id hk] at ht
    obtain ⟨a1, cells, elem, fz, a2, a3, a4, a5⟩ := hst.wf.objs id _ l g2 ht
    refine ⟨a1, cells, elem, fz, a2, a3, a4, fun i j e d hi hd => ?_⟩
    obtain ⟨x, hx1, hx2⟩ := a5 i j e d hi hd
    exact ⟨x, hx1, .rd ((hx2.pure (pureEs_get g3 hi hd)).mono (commit_le hst.wf) (fun _ _ _ => rfl))⟩
  ·intro i l hi ht
   rcases split i hi with h1 | ⟨k, id, rfl, hk⟩
   ·rw [hτ i h1] at ht
    rw [hC2 _ (hw.locLt h1 ht)]; exact hw.comm i l h1 ht
   ·rw [hτn k id hk] at ht
    have hlt := hidlt k id hk
    rw [commit_other fun id' l' h1 h2 h3 h4 => h2 (by
     have := hst.wf.inj id' id l' l h1 hlt h3 ht h4
     subst this; exact List.mem_of_getElem? hk)]
    exact hst.wf.comm id l hlt ht
  ·intro i j li lj hi hj hti htj hb
   rcases split i hi with h1 | ⟨k, id, rfl, hk⟩ <;> rcases split j hj with h2 | ⟨k', id', rfl, hk'⟩
   ·rw [hτ i h1] at hti; rw [hτ j h2] at htj; exact hw.inj i j li lj h1 h2 hti htj hb
   ·rw [hτ i h1] at hti; rw [hτn k' id' hk'] at htj
    have := hw.locLt h1 hti; have := hnew id' lj (hidlt k' id' hk') htj; omega
   ·rw [hτn k id hk] at hti; rw [hτ j h2] at htj
    have := hw.locLt h2 htj; have := hnew id li (hidlt k id hk) hti; omega
   ·rw [hτn k id hk] at hti; rw [hτn k' id' hk'] at htj
    have e := hst.wf.inj id id' li lj (hidlt k id hk) (hidlt k' id' hk') hti htj hb
    subst e
    have hki := (List.getElem?_eq_some_iff.1 hk)
    have hki' := (List.getElem?_eq_some_iff.1 hk')
    have hne := List.pairwise_iff_getElem.1 hnd
    rcases Nat.lt_trichotomy k k' with h3 | h3 | h3
    ·exact absurd (hki.2.trans hki'.2.symm) (hne k k' hki.1 hki'.1 h3)
    ·omega
    ·exact absurd (hki'.2.trans hki.2.symm) (hne k' k hki'.1 hki.1 h3)
  ·intro b hb
   by_cases h1 : ∃ id l, id < H1.length ∧ τ1 id = some l ∧ l.b = b
   ·obtain ⟨id, l, h1, h2, rfl⟩ := h1
    exact hst.wf.locLt h1 h2
   ·rw [commit_other fun id l g1 _ g2 g3 => h1 ⟨id, l, g1, g2, g3⟩] at hb
    exact hst.wf.lt b hb
  ·exact ⟨hst.fr.os, hst.fr.tape, hst.fr.output, hst.fr.size, fun b hb => hheap b hb.1, hst.fr.drawn⟩
  ·rintro b ⟨i, l, hi, ht, rfl⟩ hp
   rcases split i hi with h1 | ⟨k, id, rfl, hk⟩
   ·rw [hτ i h1] at ht; exact hp.2 ⟨i, l, h1, ht, rfl⟩
   ·rw [hτn k id hk] at ht
    have := hnew id l (hidlt k id hk) ht; have := hp.1; omega
  ·exact fun b hb => hb.1
 unfold CallsX at hc ⊢
 split at hc
 ·exact Calls.mono hc fun e w' hh => fin e w' hh
 ·exact fin _ _ hc
 ·exact hc

theorem ACalls.lift0F {f : FuncId} {args : List AVal} {R : AVal → Prop} (ha : ∀ a ∈ args, Indep a) (h : ACalls P f args [] (fun r H1 => ∃ r', Pub H1 0 [] r r' ∧ R r')) :
  ACalls P f args H (fun r H' => R r ∧ H' = H) :=
 h.liftF ha fun r H1 ⟨r', hp, hR⟩ => ⟨[], r', [], hp.any, List.nodup_nil, rfl, fun k id h => by simp at h, hR, by simp⟩

theorem ACalls.pureF {f : FuncId} {args : List AVal} {R : AVal} (ha : ∀ a ∈ args, Indep a) (h : ACalls P f args [] (fun r H1 => Pub H1 0 [] r R)) :
  ACalls P f args H (fun r H' => r = R ∧ H' = H) :=
 ACalls.lift0F (R := fun r => r = R) ha (h.mono fun _ _ hp => ⟨R, hp, rfl⟩)

end
end Go.AW

namespace Go.AW
variable [Draws]
attribute [local irreducible] ACalls
set_option maxRecDepth 20000 in
theorem hcheck_spec {P : Program} (F : F_z0n P) (s : Sou) (hs : s.good) (ex : Bool) (rows : List Ent) (hb : bagB rows = 0) (hr : ∀ e ∈ rows, e.row.length ≤ 1000 ∧ chkRow (hcols s) e.row = 0) (H : List AObj) :
  ACalls P F.id [.agg (souC s), .list ex 2 (eC rows)] H (fun r H' => r = .tuple [.int .i64 s.cols.length, .int .i64 0] ∧ H' = H) := by
 have hv : ∀ H, ACalls P F.z01.id [.list ex 2 (eC rows)] H (fun r H' => r = .int .i64 0 ∧ H' = H) := fun H => by have := bag_Validate_spec F.z01 ex rows H; rwa [hb] at this
 have hlen := (bagB_iff rows).1 hb |>.1
 refine ACalls.pure (by simp [souC, AVal.closed, AVal.isPure]) (acalls_of_body F.has ?_)
 (conv => whnf); refine ACalls.use (hColumns_spec F.z0h s hs _) ?_
 (conv => whnf); refine ACalls.use (hv _) ?_
 conv => whnf
 refine ⟨fun m ρ H1 => ∃ k : Nat, k + m = rows.length ∧ H1 = [.arr 7 [souC s]] ∧ Sv 39 [(1, .list ex 2 (eC rows)), (6, .list false 3 (cC (hcols s))), (7, .int .i64 0), (8, .int .i64 k)] ρ, rows.length, [], ?_, ?_⟩
 ·exact ⟨0, by omega, rfl, Sv.intro rfl ⟨rfl, rfl, rfl, rfl, trivial⟩⟩
 rintro m ρ H1 ⟨k, hk, rfl, d, rfl⟩
 (conv => whnf); refine recA (fun hlt => ?_) (fun hlt => ?_)
 ·simp [eC_length] at hlt
  have hx : rows[k]? = some rows[k] := List.getElem?_eq_getElem hlt
  obtain ⟨h1, h2⟩ := hr _ (List.getElem_mem hlt)
  generalize rows[k] = x at hx h1 h2
  have hc : ∀ H, ACalls P F.z0v.id [.list false 3 (cC (hcols s)), .list false 3 (vC x.row)] H (fun r H' => r = .int .i64 0 ∧ H' = H) := fun H => by have := schema_CheckRow_spec F.z0v false false (hcols s) x.row (by omega) H; rwa [h2] at this
  (conv => whnf); refine And.intro (by omega) ?_
  (conv => whnf); refine recO (eC_at hx) ?_
  (conv => whnf); refine ACalls.use (hc _) ?_
  conv => whnf
  refine ⟨m - 1, by omega, Gp.keep rfl ?_ fun ρ1 h => ⟨k + 1, by omega, rfl, h⟩⟩
  exact ⟨rfl, rfl, rfl, intEq (wrapI _ (by omega) (by omega)), trivial⟩
 ·simp [eC_length] at hlt
  have e : IntKind.i64.wrap (((cC (hcols s)).length : Int) - 2) = s.cols.length := by
   have := hs.ten
   rw [cC_length, hcols, List.length_append]
   show IntKind.i64.wrap (((s.cols.length + 2 : Nat) : Int) - 2) = _
   rw [wrapI _ (by omega) (by omega)]; omega
  conv => whnf
  rw [e]
  exact pub2 (.closed _ rfl) (.closed _ rfl)

def restV (n : Nat) (p : V → V → Bool) : List Ent → List Ent
 | [] => []
 | e :: l => if p (e.row.getD n zV) (e.row.getD (n + 1) zV) then ⟨e.row.take n, e.cnt⟩ :: restV n p l else restV n p l

theorem restV_len (n : Nat) (p : V → V → Bool) : ∀ l, (restV n p l).length ≤ l.length
 | [] => Nat.le_refl _
 | e :: l => by
  have := restV_len n p l
  rw [restV]
  split
  ·simp; omega
  ·simp; omega

set_option maxHeartbeats 1000000 in
set_option maxRecDepth 20000 in
theorem hrest_spec {P : Program} (F : F_z0p P) (hS : SortE P F.z00.z05.z1b.id F.z00.z05.z06.id) (ex : Bool) (rows : List Ent) (hl : rows.length ≤ 10000) (n : Nat) (hn : n ≤ 1000) (hr : ∀ e ∈ rows, e.row.length = n + 2)
  (g : FuncId) (caps : List AVal) (hcap : caps.all AVal.isPure = true) (p : V → V → Bool) (hg : ∀ (a b : V) (H : List AObj), ACalls P g ([.agg (valC a), .agg (valC b)] ++ caps) H (fun r H' => r = .bool (p a b) ∧ H' = H)) (H : List AObj) :
  ACalls P F.id [.list ex 2 (eC rows), .int .i64 n, .fn g caps] H (fun r H' => r = norR (restV n p rows) ∧ H' = H) := by
 have hfn : ∀ {H1 : List AObj} {m : Nat} {ids : List Nat}, Pub H1 m ids (.fn g caps) (.fn g caps) := fun {H1 m ids} => .fnc g caps caps rfl fun i v r h1 h2 => by
  rw [h1] at h2; cases h2
  exact .closed _ (AVal.closed_of_isPure (List.all_eq_true.1 hcap v (List.mem_of_getElem? h1)))
 refine ACalls.pureF (fun a ha => ?_) (acalls_of_body F.has ?_)
 ·rcases List.mem_cons.1 ha with rfl | ha
  ·exact .inl rfl
  rcases List.mem_cons.1 ha with rfl | ha
  ·exact .inl rfl
  ·rw [List.mem_singleton.1 ha]; exact .inr ⟨_, _, rfl, hcap⟩
 conv => whnf
 refine ⟨fun m ρ H1 => ∃ (k : Nat) (U : List Ent), k + m = rows.length ∧ U.length ≤ k ∧ U ++ restV n p (rows.drop k) = restV n p rows ∧ H1 = [.arr 2 (eC U)] ∧ Sv 45 [(1, .int .i64 n), (2, .fn g caps), (8, .sl 0 U.length 0 U.length), (11, .list ex 2 (eC rows)), (12, .int .i64 rows.length), (13, .int .i64 k)] ρ, rows.length, [(8, 2)], ?_, ?_⟩
 ·exact ⟨0, [], by omega, by simp, rfl, rfl, Sv.intro rfl ⟨rfl, rfl, rfl, rfl, intEq (by rw [eC_length]), rfl, trivial⟩⟩
 rintro m ρ H1 ⟨k, U, hk, hU, hR, rfl, d, rfl⟩
 (conv => whnf); refine recA (fun hlt => ?_) (fun hlt => ?_)
 ·simp at hlt
  have hx : rows[k]? = some rows[k] := List.getElem?_eq_getElem hlt
  have hrl := hr _ (List.getElem_mem hlt)
  generalize rows[k] = x at hx hrl
  rw [drop_cons hx, restV] at hR
  have en : IntKind.i64.wrap ((n : Int) + 1) = ((n + 1 : Nat) : Int) := by rw [wrapI _ (by omega) (by omega)]; omega
  have ek : IntKind.i64.wrap ((k : Int) + 1) = ((k + 1 : Nat) : Int) := by rw [wrapI _ (by omega) (by omega)]; omega
  have g1 : x.row[n]? = some (x.row.getD n zV) := by rw [List.getD_eq_getElem?_getD, List.getElem?_eq_getElem (by omega)]; rfl
  have g2 : x.row[n + 1]? = some (x.row.getD (n + 1) zV) := by rw [List.getD_eq_getElem?_getD, List.getElem?_eq_getElem (by omega)]; rfl
  (conv => whnf); refine And.intro (by omega) ?_
  (conv => whnf); refine recO (eC_at hx) ?_
  (conv => whnf); refine And.intro (by omega) ?_
  (conv => whnf); refine recO (vC_at g1) ?_
  (conv => whnf); refine And.intro (by rw [en]; omega) ?_
  (conv => whnf); refine recO ((show (vC x.row)[(IntKind.i64.wrap ((n : Int) + 1)).toNat]? = some (valC (x.row.getD (n + 1) zV)) from by rw [en, Int.toNat_natCast]; exact vC_at g2)) ?_
  (conv => whnf); refine ⟨_, hg _ _ _, ?_⟩
  repeat ((conv => whnf); refine And.intro rfl ?_)
  (conv => whnf); refine recA (fun hp => ?_) (fun hp => ?_)
  ·rw [if_pos (show p (x.row.getD n zV) (x.row.getD (n + 1) zV) = true from hp)] at hR
   have es : List.drop 0 (List.take (n : Int).toNat (vC x.row)) = vC (x.row.take n) := by rw [Int.toNat_natCast, List.drop_zero, vC, vC, List.map_take]
   (conv => whnf); refine And.intro (by rw [vC_length]; omega) ?_
   (conv => whnf); refine recT (by rw [eC_length]; exact Nat.beq_refl _) ?_
   (conv => whnf); refine And.intro (⟨roomMul (by simp; omega) (by omega), roomB_le (by simp; omega), rfl, by rw [eC_length]⟩) ?_
   repeat ((conv => whnf); refine And.intro rfl ?_)
   conv => whnf
   have hcn : eC U ++ [[AVal.list false 3 (List.drop 0 (List.take (n : Int).toNat (vC x.row))), .int .i64 x.cnt]] = eC (U ++ [⟨x.row.take n, x.cnt⟩]) := by rw [es, eC_append]; rfl
   have hl2 : (eC U ++ [[AVal.list false 3 (List.drop 0 (List.take (n : Int).toNat (vC x.row))), .int .i64 x.cnt]]).length = (U ++ [(⟨x.row.take n, x.cnt⟩ : Ent)]).length := by rw [hcn, eC_length]
   refine ⟨m - 1, by omega, Gp.first 1 [.arr 2 (eC U ++ [[AVal.list false 3 (List.drop 0 (List.take (n : Int).toNat (vC x.row))), .int .i64 x.cnt]])] rfl rfl (by rw [hcn]; simp [pureO, pureEs_eC]) rfl ?_ fun ρ1 h => ⟨k + 1, U ++ [⟨x.row.take n, x.cnt⟩], by omega, by simp; omega, by rw [← hR]; simp, by rw [hcn], h⟩⟩
   exact ⟨.closed _ rfl, hfn, pubSl (k := 0) rfl rfl hl2 hl2, .closed (.list ex 2 (eC rows)) rfl, .closed _ rfl, pub_int ek, trivial⟩
  ·rw [if_neg (by rw [show p (x.row.getD n zV) (x.row.getD (n + 1) zV) = false from hp]; simp)] at hR
   conv => whnf
   refine ⟨m - 1, by omega, Gp.first 1 [.arr 2 (eC U)] rfl rfl (by simp [pureO, pureEs_eC]) rfl ?_ fun ρ1 h => ⟨k + 1, U, by omega, by omega, hR, rfl, h⟩⟩
   exact ⟨.closed _ rfl, hfn, .keep 0 _ _ _ 0 rfl, .closed (.list ex 2 (eC rows)) rfl, .closed _ rfl, pub_int ek, trivial⟩
 ·simp at hlt
  rw [List.drop_of_length_le (by omega), restV, List.append_nil] at hR
  subst hR
  have hll := restV_len n p rows
  conv => whnf
  refine Ghost.none (n := 45) (live := [(8, .list false 2 (eC (restV n p rows)))]) rfl ⟨pubFI (by simp) rfl (eC_length _).symm (eC_length _).symm (pureEs_eC _), trivial⟩ ?_
  rintro ρ ⟨d, rfl⟩
  (conv => whnf); refine ACalls.use (bag_Normalize_spec F.z00 hS false (restV n p rows) (by omega) _) ?_
  unfold norR
  split
  ·conv => whnf
   exact pub2 (.closed _ rfl) (.closed _ rfl)
  ·rcases resR_cases (srtM (restV n p rows).length (restV n p rows)) with h | h
   all_goals
    rw [h]
    conv => whnf
    exact pub2 (.closed _ rfl) (.closed _ rfl)

end Go.AW

namespace Go.AW
variable [Draws]
attribute [local irreducible] ACalls
def openB (a b : V) : Bool := b.kind == 0

def atB (m : Int) (a b : V) : Bool := decide (a.num ≤ m) && (b.kind == 0 || decide (b.num > m))

theorem current1_spec {P : Program} (F : F_z0k P) (a b : V) (H : List AObj) :
  ACalls P F.id ([.agg (valC a), .agg (valC b)] ++ []) H (fun r H' => r = .bool (openB a b) ∧ H' = H) := by
 refine ACalls.pure rfl (acalls_of_body F.has ?_)
 conv => whnf
 exact pubB rfl

theorem at1_spec {P : Program} (F : F_z0g P) (m : Int) (a b : V) (H : List AObj) :
  ACalls P F.id ([.agg (valC a), .agg (valC b)] ++ [.cptr [.int .i64 m] 0]) H (fun r H' => r = .bool (atB m a b) ∧ H' = H) := by
 refine ACalls.pure rfl (acalls_of_body F.has ?_)
 (conv => whnf); refine recA (fun h1 => ?_) (fun h1 => ?_)
 ·(conv => whnf); refine recA (fun h2 => ?_) (fun h2 => ?_)
  ·conv => whnf
   refine pubB ?_
   replace h1 : decide (a.num ≤ m) = true := h1
   replace h2 : (b.kind == 0) = true := h2
   rw [atB, h1, h2]; rfl
  ·conv => whnf
   refine pubB ?_
   replace h1 : decide (a.num ≤ m) = true := h1
   replace h2 : (b.kind == 0) = false := h2
   rw [atB, h1, h2]; rfl
 ·conv => whnf
  refine pubB ?_
  replace h1 : decide (a.num ≤ m) = false := h1
  rw [atB, h1]; rfl

set_option maxRecDepth 20000 in
theorem current_spec {P : Program} (F : F_z0j P) (hS : SortE P F.z0p.z00.z05.z1b.id F.z0p.z00.z05.z06.id) (s : Sou) (hs : s.good) (ex : Bool) (rows : List Ent) (hb : bagB rows = 0) (hr : ∀ e ∈ rows, e.row.length = s.cols.length + 2 ∧ chkRow (hcols s) e.row = 0) (H : List AObj) :
  ACalls P F.id [.agg (souC s), .list ex 2 (eC rows)] H (fun r H' => r = norR (restV s.cols.length openB rows) ∧ H' = H) := by
 have hten := hs.ten
 have hlen := (bagB_iff rows).1 hb |>.1
 refine ACalls.pure (by simp [souC, AVal.closed, AVal.isPure]) (acalls_of_body F.has ?_)
 (conv => whnf); refine ACalls.use (hcheck_spec F.z0n s hs ex rows hb (fun e he => ⟨by have := (hr e he).1; omega, (hr e he).2⟩) _) ?_
 (conv => whnf); refine ACalls.use (hrest_spec F.z0p hS ex rows (by omega) s.cols.length (by omega) (fun e he => (hr e he).1) F.z0k.id [] rfl openB (fun a b H => current1_spec F.z0k a b H) _) ?_
 unfold norR
 split
 ·conv => whnf
  exact pub2 (.closed _ rfl) (.closed _ rfl)
 ·rcases resR_cases (srtM (restV s.cols.length openB rows).length (restV s.cols.length openB rows)) with h | h
  all_goals
   rw [h]
   conv => whnf
   exact pub2 (.closed _ rfl) (.closed _ rfl)

set_option maxRecDepth 20000 in
theorem at_spec {P : Program} (F : F_z0f P) (hS : SortE P F.z0p.z00.z05.z1b.id F.z0p.z00.z05.z06.id) (s : Sou) (hs : s.good) (ex : Bool) (rows : List Ent) (m : Int) (hm : 0 ≤ m ∧ m ≤ 575999999) (hb : bagB rows = 0) (hr : ∀ e ∈ rows, e.row.length = s.cols.length + 2 ∧ chkRow (hcols s) e.row = 0) (H : List AObj) :
  ACalls P F.id [.agg (souC s), .list ex 2 (eC rows), .int .i64 m] H (fun r H' => r = norR (restV s.cols.length (atB m) rows) ∧ H' = H) := by
 have hten := hs.ten
 have hlen := (bagB_iff rows).1 hb |>.1
 refine ACalls.pure (by simp [souC, AVal.closed, AVal.isPure]) (acalls_of_body F.has ?_)
 conv => whnf
 refine Ghost.none (n := 31) (live := [(1, .list ex 2 (eC rows)), (3, .cptr (souC s) 0), (5, .cptr [.int .i64 m] 0)]) rfl ⟨.closed (.list ex 2 (eC rows)) rfl, .frzP 0 1 0 0 7 [souC s] _ rfl rfl rfl rfl (by simp), .frzP 1 1 0 0 1 [[.int .i64 m]] _ rfl rfl rfl rfl (by simp), trivial⟩ ?_
 rintro ρ ⟨d, rfl⟩
 (conv => whnf); refine ACalls.use (hcheck_spec F.z0n s hs ex rows hb (fun e he => ⟨by have := (hr e he).1; omega, (hr e he).2⟩) _) ?_
 (conv => whnf); refine recF (by simp; omega) ?_
 (conv => whnf); refine recF (by simp; omega) ?_
 (conv => whnf); refine ACalls.use (hrest_spec F.z0p hS ex rows (by omega) s.cols.length (by omega) (fun e he => (hr e he).1) F.z0g.id [.cptr [.int .i64 m] 0] rfl (atB m) (fun a b H => at1_spec F.z0g m a b H) _) ?_
 unfold norR
 split
 ·conv => whnf
  exact pub2 (.closed _ rfl) (.closed _ rfl)
 ·rcases resR_cases (srtM (restV s.cols.length (atB m) rows).length (restV s.cols.length (atB m) rows)) with h | h
  all_goals
   rw [h]
   conv => whnf
   exact pub2 (.closed _ rfl) (.closed _ rfl)

def kSou : Sou := ⟨bs [], [⟨bs [105, 100], 2, false⟩, ⟨bs [97, 116], 4, false⟩], [bs [105, 100]], bs [97, 116], bs [], 0, 0⟩

def kVer (a q : Int) (d : Bool) : Ver := ⟨⟨d, q, [⟨2, 1, bs []⟩, tmV a]⟩, 0, 0⟩

def kVs : List Ver := [kVer 30 1 true, kVer 20 2 false, kVer 10 3 false, kVer 20 1 false]

def kI : List Ent := [⟨[⟨2, 1, bs []⟩, tmV 10, tmV 10, tmV 20], 1⟩, ⟨[⟨2, 1, bs []⟩, tmV 20, tmV 20, tmV 30], 1⟩]

theorem kgood : kSou.good := by
 refine ⟨by decide, by decide, by decide, ⟨⟨bs [97, 116], 4, false⟩, rfl, rfl, rfl⟩, by decide, by decide, by decide, by decide⟩

theorem kI_eq : ivsV kSou kVs = kI := by rfl

theorem kI_bag : bagB kI = 0 := by rfl

theorem kI_row : ∀ e ∈ kI, e.row.length = kSou.cols.length + 2 ∧ chkRow (hcols kSou) e.row = 0 := by
 intro e he
 rcases List.mem_cons.1 he with rfl | he
 ·exact ⟨rfl, rfl⟩
 ·rw [List.mem_singleton.1 he]; exact ⟨rfl, rfl⟩

theorem kAt : norR (restV kSou.cols.length (atB 19) kI) = .tuple [.list false 2 (eC [⟨[⟨2, 1, bs []⟩, tmV 10], 1⟩]), .int .i64 0] := by rfl

theorem kCur : norR (restV kSou.cols.length openB kI) = .tuple [.list false 2 (eC []), .int .i64 0] := by rfl

theorem kok : ∀ v ∈ kVs, okV kSou v := by
 intro v hv
 unfold kVs at hv
 simp only [List.mem_cons, List.not_mem_nil, or_false] at hv
 rcases hv with rfl | rfl | rfl | rfl <;> rfl

theorem kuq : Uq kSou kVs := by
 intro x hx y hy h
 unfold kVs at hx hy
 simp only [List.mem_cons, List.not_mem_nil, or_false] at hx hy
 rcases hx with rfl | rfl | rfl | rfl <;> rcases hy with rfl | rfl | rfl | rfl <;> first | rfl | (exact absurd h (by decide))

end Go.AW

namespace Go.AW
variable [Draws]
attribute [local irreducible] ACalls
theorem version_raw {P : Program} (F : F_z1x P) (a q : Int) (d : Bool) (H : List AObj) :
  ACalls P F.id [.int .i64 a, .int .i64 q, .bool d] H (fun r H' => r = .agg [.bool d, .int .i64 q, .list true 3 (vC [⟨2, 1, bs []⟩, tmV a]), .int .i64 0, .int .i64 0] ∧ H' = H) := by
 refine ACalls.pure rfl (acalls_of_body F.has ?_)
 conv => whnf
 exact .closed _ rfl

theorem version_spec {P : Program} (F : F_z1x P) (a q : Int) (d : Bool) (H : List AObj) :
  ACalls P F.id [.int .i64 a, .int .i64 q, .bool d] H (fun r H' => r = .agg (verC (kVer a q d)) ∧ H' = H) :=
 (version_raw F a q d H).weakR (by
  rintro r H' ⟨rfl, rfl⟩
  refine ⟨.agg (verC (kVer a q d)), .agg _ _ rfl fun i x y h1 h2 => ?_, rfl, rfl⟩
  rcases i with _ | _ | _ | _ | _ | i
  ·cases h1; cases h2; exact .refl _
  ·cases h1; cases h2; exact .refl _
  ·cases h1; cases h2; exact .list _ _ _ _ (by simp)
  ·cases h1; cases h2; exact .refl _
  ·cases h1; cases h2; exact .refl _
  ·simp at h1)

theorem wkSou : Wk (.agg [.str (bs []), .list true 3 (cC kSou.cols), .list true 1 (sC kSou.key), .str (bs [97, 116]), .str (bs []), .int .i64 0, .int .i64 0]) (.agg (souC kSou)) := by
 refine .agg _ _ rfl fun i x y h1 h2 => ?_
 rcases i with _ | _ | _ | _ | _ | _ | _ | i
 ·cases h1; cases h2; exact .refl _
 ·cases h1; cases h2; exact .list _ _ _ _ (by simp)
 ·cases h1; cases h2; exact .list _ _ _ _ (by simp)
 ·cases h1; cases h2; exact .refl _
 ·cases h1; cases h2; exact .refl _
 ·cases h1; cases h2; exact .refl _
 ·cases h1; cases h2; exact .refl _
 ·simp at h1

set_option maxHeartbeats 1000000 in
set_option maxRecDepth 20000 in
theorem known27_spec {P : Program} (F : F_z1u P) (hS1 : SortE P F.z0l.z1b.id F.z0l.z0m.id)
  (hS2 : SortE P F.z0j.z0p.z00.z05.z1b.id F.z0j.z0p.z00.z05.z06.id)
  (hS3 : SortE P F.z0f.z0p.z00.z05.z1b.id F.z0f.z0p.z00.z05.z06.id) (H : List AObj) :
  ACalls P F.id [] H (fun r H' => r = .bool true ∧ H' = H) := by
 have hI : ∀ H, ACalls P F.z0l.id [.agg (souC kSou), .list true 5 (vsC kVs)] H (fun r H' => r = .tuple [.list false 2 (eC kI), .int .i64 0] ∧ H' = H) := fun H => by
  have := Intervals_spec F.z0l hS1 kSou kgood true kVs (by decide) kok kuq H
  rwa [kI_eq] at this
 have hA : ∀ H, ACalls P F.z0f.id [.agg (souC kSou), .list false 2 (eC kI), .int .i64 19] H (fun r H' => r = .tuple [.list false 2 (eC [⟨[⟨2, 1, bs []⟩, tmV 10], 1⟩]), .int .i64 0] ∧ H' = H) := fun H => by
  have := at_spec F.z0f hS3 kSou kgood false kI 19 (by decide) kI_bag kI_row H
  rwa [kAt] at this
 have hC : ∀ H, ACalls P F.z0j.id [.agg (souC kSou), .list false 2 (eC kI)] H (fun r H' => r = .tuple [.list false 2 (eC []), .int .i64 0] ∧ H' = H) := fun H => by
  have := current_spec F.z0j hS2 kSou kgood false kI kI_bag kI_row H
  rwa [kCur] at this
 refine ACalls.pure rfl (acalls_of_body F.has ?_)
 (conv => whnf); refine ⟨_, version_spec F.z1x 30 1 true _, ?_⟩
 (conv => whnf); refine ⟨_, version_spec F.z1x 20 2 false _, ?_⟩
 (conv => whnf); refine ⟨_, version_spec F.z1x 10 3 false _, ?_⟩
 (conv => whnf); refine ⟨_, version_spec F.z1x 20 1 false _, ?_⟩
 (conv => whnf); refine ⟨_, ACalls.weak (hI _) (.cons wkSou (.cons (.refl _) .nil)), ?_⟩
 repeat ((conv => whnf); refine And.intro rfl ?_)
 (conv => whnf); refine ACalls.use (ACalls.weak (hA _) (.cons wkSou (.cons (.refl _) (.cons (.refl _) .nil)))) ?_
 (conv => whnf); refine ACalls.use (ACalls.weak (hC _) (.cons wkSou (.cons (.refl _) .nil))) ?_
 (conv => whnf); refine And.intro (by decide) ?_
 (conv => whnf); refine And.intro (by decide) ?_
 (conv => whnf); refine And.intro (by decide) ?_
 (conv => whnf); refine And.intro (by decide) ?_
 (conv => whnf); refine And.intro (by decide) ?_
 (conv => whnf); refine And.intro (by decide) ?_
 conv => whnf
 exact pubB rfl

end Go.AW

namespace Go.AW
variable [Draws]
attribute [local irreducible] ACalls
theorem good0 (s : Sou) (hc : s.cols = wcols) (hk : s.key = [bs [105, 100]]) (ha : s.att = bs [97, 116]) : s.good := by
 refine ⟨by rw [hc]; decide, by rw [hc, ha]; decide, by rw [hc, hk]; decide, ⟨⟨bs [97, 116], 4, false⟩, by rw [hc, ha]; rfl, rfl, rfl⟩, by rw [hc]; decide, by rw [hc]; decide, by rw [hc]; decide, by rw [hk]; decide⟩

theorem good1 (s : Sou) (hc : s.cols = wcols ++ [⟨bs [112, 97, 114, 116], 3, false⟩]) (hk : s.key = [bs [112, 97, 114, 116], bs [105, 100]]) (ha : s.att = bs [97, 116]) : s.good := by
 refine ⟨by rw [hc]; decide, by rw [hc, ha]; decide, by rw [hc, hk]; decide, ⟨⟨bs [97, 116], 4, false⟩, by rw [hc, ha]; rfl, rfl, rfl⟩, by rw [hc]; decide, by rw [hc]; decide, by rw [hc]; decide, by rw [hk]; decide⟩

theorem wgood (n : Int) : (souS (wsrc n)).good := by
 cases hp : wpart n
 ·exact good0 _ (by show (wsrc n).cols = _; rw [wsrcC, hp]; rfl) (by show (wsrc n).key = _; rw [wsrcK, hp]; rfl) rfl
 ·exact good1 _ (by show (wsrc n).cols = _; rw [wsrcC, hp]; rfl) (by show (wsrc n).key = _; rw [wsrcK, hp]; rfl) rfl

noncomputable def mV (n : Int) (ls : List Int) : List Ver := srtV (souS (wsrc n)) (couL (souS (wsrc n)) 0 (ledV (wsrc n) ls).1)

theorem mV_len (n : Int) (ls : List Int) : (mV n ls).length ≤ 24 := by
 obtain ⟨h1, h2⟩ := ledV_ok (wsrc n) ls
 have := couL_len (souS (wsrc n)) (ledV (wsrc n) ls).1 0 6 fun x hx => (h1 x hx).2.1
 rw [mV, srtV, isort_length]
 omega

theorem mV_ok (n : Int) (ls : List Int) : ∀ v ∈ mV n ls, okV (souS (wsrc n)) v := fun v hv => couL_fits ((isort_perm _).mem_iff.1 hv)

theorem mV_uq (n : Int) (ls : List Int) : Uq (souS (wsrc n)) (mV n ls) := fun x hx y hy h => couL_uq _ _ x ((isort_perm _).mem_iff.1 hx) y ((isort_perm _).mem_iff.1 hy) h

theorem Uq.perm {s : Sou} {l m : List Ver} (h : Uq s l) (hp : m.Perm l) : Uq s m := fun x hx y hy e => h x (hp.mem_iff.1 hx) y (hp.mem_iff.1 hy) e

theorem ivsV_perm {s : Sou} {l m : List Ver} (h : Uq s l) (hp : m.Perm l) : ivsV s m = ivsV s l := by
 rw [ivsV, ivsV, srtV, srtV, isort_congr (orders_V s) hp h.zz]

theorem made_ok (n : Int) (ls : List Int) : (ledV (wsrc n) ls).1.length ≤ 1000 ∧ (couL (souS (wsrc n)) 0 (ledV (wsrc n) ls).1).length ≤ 1000 ∧ ∀ x ∈ (ledV (wsrc n) ls).1, x.ok := by
 obtain ⟨h1, h2⟩ := ledV_ok (wsrc n) ls
 have h3 := couL_len (souS (wsrc n)) (ledV (wsrc n) ls).1 0 6 fun x hx => (h1 x hx).2.1
 have := wsrc_bnd n
 exact ⟨by omega, by omega, fun x hx => (h1 x hx).ok (by omega)⟩

theorem ivsV_rows {s : Sou} (hs : s.good) {vs : List Ver} (hok : ∀ v ∈ vs, okV s v) : ∀ e ∈ ivsV s vs, e.row.length ≤ 12 := fun e he =>
 ivsG_row s hs _ (fun v hv => hok v ((isort_perm _).mem_iff.1 ((usedV_sub s _).subset hv))) e ((isort_perm _).mem_iff.1 he)

theorem ivsV_len (s : Sou) (vs : List Ver) : (ivsV s vs).length ≤ vs.length := by
 rw [ivsV, srtE, isort_length]
 exact Nat.le_trans (ivsG_len s _) (Nat.le_trans (usedV_sub s _).length_le (by rw [srtV, isort_length]; exact Nat.le_refl _))

theorem sameEnt_refl {P : Program} (F : F_z24 P) (a : List Ent) (ha : a.length ≤ 100000) (hr : ∀ e ∈ a, e.row.length ≤ 1000) (H : List AObj) :
  ACalls P F.id [.list false 2 (eC a), .list false 2 (eC a)] H (fun r H' => r = .bool true ∧ H' = H) := by
 have := sameEnt_spec F false false a a ha hr H
 rwa [eqD_true rfl] at this

set_option maxHeartbeats 1000000 in
set_option maxRecDepth 20000 in
theorem law_HistoryOrder {P : Program} (F : F_z1t P) (hI : SortE P F.z0l.z1b.id F.z0l.z0m.id) (hI2 : SortE P F.z1u.z0l.z1b.id F.z1u.z0l.z0m.id) (hS3 : SortE P F.z1u.z0j.z0p.z00.z05.z1b.id F.z1u.z0j.z0p.z00.z05.z06.id) (hS4 : SortE P F.z1u.z0f.z0p.z00.z05.z1b.id F.z1u.z0f.z0p.z00.z05.z06.id)
  (n : Int) (ls : List Int) (b : Int) :
  ACalls P F.id [.int .i64 n, .list false 1 (iC ls), .int .i64 b] [] (fun q _ => q = .bool true) := by
 have known := fun H => known27_spec F.z1u hI2 hS3 hS4 H
 refine acalls_of_body F.has ?_
 (conv => whnf); refine recA (fun h1 => ?_) (fun h1 => ?_)
 ·(conv => whnf); refine ACalls.use (known _) ?_
  conv => whnf
 simp [iC_length] at h1
 have hs := wgood n
 obtain ⟨m1, m2, m3⟩ := made_ok n ls
 (conv => whnf); refine ACalls.mono (made_spec F.z1v n ls (by omega) _) ?_
 rintro r H' ⟨rfl, rfl⟩
 (conv => whnf); refine ACalls.use (versions26_spec F.z2r (souS (wsrc n)) hs (ledV (wsrc n) ls).1 m1 m2 m3 _) ?_
 have hV : srtV (souS (wsrc n)) (couL (souS (wsrc n)) 0 (ledV (wsrc n) ls).1) = mV n ls := rfl
 rw [hV]
 clear hV
 have v1 := mV_len n ls
 have v2 := mV_ok n ls
 have v3 := mV_uq n ls
 generalize mV n ls = V at v1 v2 v3
 have eL : IntKind.i64.wrap (((vsC V).length : Int) + 1) = ((V.length + 1 : Nat) : Int) := by rw [vsC_length, wrapI _ (by omega) (by omega)]; omega
 (conv => whnf); refine ACalls.use (Place_spec F.z3p b (IntKind.i64.wrap (((vsC V).length : Int) + 1)) (by rw [eL]; omega) (by rw [eL]; omega) _) ?_
 conv => whnf
 rw [eL]
 obtain ⟨j, hj, hj2⟩ : ∃ j : Nat, b % ((V.length + 1 : Nat) : Int) = j ∧ j ≤ V.length := by
  have q1 := Int.emod_nonneg b (show ((V.length + 1 : Nat) : Int) ≠ 0 by omega)
  have q2 := Int.emod_lt_of_pos b (show (0 : Int) < ((V.length + 1 : Nat) : Int) by omega)
  exact ⟨(b % ((V.length + 1 : Nat) : Int)).toNat, by omega, by omega⟩
 rw [hj]
 have e1 : List.drop (j : Int).toNat (List.take (vsC V).length (vsC V)) = vsC (V.drop j) := by rw [Int.toNat_natCast, List.take_length, vsC, vsC, List.map_drop]
 have e2 : List.drop 0 (List.take (j : Int).toNat (vsC V)) = vsC (V.take j) := by rw [Int.toNat_natCast, List.drop_zero, vsC, vsC, List.map_take]
 have l1 : (List.drop (j : Int).toNat (List.take (vsC V).length (vsC V))).length = V.length - j := by rw [e1, vsC_length, List.length_drop]
 have l2 : (List.drop 0 (List.take (j : Int).toNat (vsC V))).length = j := by rw [e2, vsC_length, List.length_take]; omega
 have hT : List.drop (j : Int).toNat (List.take (vsC V).length (vsC V)) ++ List.drop 0 (List.take (j : Int).toNat (vsC V)) = vsC (V.drop j ++ V.take j) := by rw [e1, e2, vsC_append]
 have lT : (V.drop j ++ V.take j).length = V.length := by simp; omega
 have pT : (V.drop j ++ V.take j).Perm V := List.perm_append_comm.trans (by rw [List.take_append_drop])
 (conv => whnf); refine And.intro (⟨by omega, by rw [vsC_length]; omega⟩) ?_
 (conv => whnf); refine And.intro (⟨roomMul (by rw [l1]; omega) (by omega), roomB_le (by rw [l1]; omega)⟩) ?_
 (conv => whnf); refine And.intro (⟨by omega, by rw [vsC_length]; omega⟩) ?_
 (conv => whnf); refine recT (Nat.beq_refl _) ?_
 (conv => whnf); refine And.intro (⟨roomMul (by rw [l1, l2]; omega) (by omega), roomB_le (by rw [l1, l2]; omega), rfl, rfl⟩) ?_
 repeat ((conv => whnf); refine And.intro rfl ?_)
 (conv => whnf); refine And.intro (by (conv => whnf); exact ⟨⟨by omega, by rw [vsC_length]; omega⟩, rfl⟩) ?_
 repeat ((conv => whnf); refine And.intro rfl ?_)
 conv => whnf
 rw [hT]
 generalize V.drop j ++ V.take j = T0 at lT pT
 (conv => whnf); refine recT (Nat.beq_refl _) ?_
 conv => whnf
 refine ⟨fun m ρ H1 => ∃ (i : Int) (T : List Ver), T.Perm V ∧ -1 ≤ i ∧ i < V.length ∧ m = (i + 1).toNat ∧ H1 = [gO ls (ledV (wsrc n) ls).2, .arr 7 [srcC (wsrc n)], .arr 1 [ledC (ledV (wsrc n) ls).1], vO T] ∧ Sv 99 [(2, .int .i64 b), (7, .ptr 1 1 0 0), (10, .list false 5 (vsC V)), (12, .sl 3 V.length 0 V.length), (13, .int .i64 i)] ρ, V.length, [], ?_, ?_⟩
 ·exact ⟨(V.length : Int) - 1, T0, pT, by omega, by omega, by omega, rfl, Sv.intro rfl ⟨rfl, rfl, rfl, slEq (by rw [vsC_length, lT]) (by rw [vsC_length, lT]), intEq (by rw [vsC_length, lT]; exact wrapI _ (by omega) (by omega)), trivial⟩⟩
 clear pT lT hT l1 l2 e1 e2
 rintro m ρ H1 ⟨i, T, pT, i1, i2, rfl, rfl, d, rfl⟩
 have lT := pT.length_eq
 have hIT : ∀ H, ACalls P F.z0l.id [.agg (souC (souS (wsrc n))), .list false 5 (vsC T)] H (fun r H' => r = .tuple [.list false 2 (eC (ivsV (souS (wsrc n)) V)), .int .i64 0] ∧ H' = H) := fun H => by
  have := Intervals_spec F.z0l hI (souS (wsrc n)) hs false T (by omega) (fun v hv => v2 v (pT.mem_iff.1 hv)) (v3.perm pT) H
  rwa [ivsV_perm v3 pT] at this
 have hbq : Nat.beq V.length (vsC T).length = true := by rw [vsC_length, lT]; exact Nat.beq_refl _
 (conv => whnf); refine recA (fun g1 => ?_) (fun g1 => ?_)
 ·simp at g1
  (conv => whnf); refine And.intro (by decide) ?_
  (conv => whnf); refine recA (fun g2 => ?_) (fun g2 => ?_)
  ·obtain ⟨p, rfl⟩ : ∃ p : Nat, i = ((p + 1 : Nat) : Int) := ⟨(i - 1).toNat, by omega⟩
   have ep : IntKind.i64.wrap (((p + 1 : Nat) : Int) - 1) = (p : Int) := by rw [wrapI _ (by omega) (by omega)]; omega
   have hx : T[p]? = some T[p] := List.getElem?_eq_getElem (by omega)
   have hy : T[p + 1]? = some T[p + 1] := List.getElem?_eq_getElem (by omega)
   have hsp := List.set_set_perm (show p + 1 < T.length by omega) (show p < T.length by omega)
   generalize T[p] = x at hx hsp
   generalize T[p + 1] = y at hy hsp
   conv => whnf
   rw [ep]
   (conv => whnf); refine recT (hbq) ?_
   (conv => whnf); refine And.intro (by omega) ?_
   (conv => whnf); refine recT (hbq) ?_
   (conv => whnf); refine recO ((show (vsC T)[0 + (p : Int).toNat]? = some (verC x) from by rw [Nat.zero_add, Int.toNat_natCast]; exact vsC_at hx)) ?_
   (conv => whnf); refine recT (hbq) ?_
   (conv => whnf); refine And.intro (by omega) ?_
   (conv => whnf); refine recT (hbq) ?_
   (conv => whnf); refine recO ((show (vsC T)[0 + ((p + 1 : Nat) : Int).toNat]? = some (verC y) from by rw [Nat.zero_add, Int.toNat_natCast]; exact vsC_at hy)) ?_
   have s1 : setEs (vsC T) (0 + ((p + 1 : Nat) : Int).toNat) (verC x) = vsC (T.set (p + 1) x) := by rw [Nat.zero_add, Int.toNat_natCast, vsC_set]
   have s2 : setEs (setEs (vsC T) (0 + ((p + 1 : Nat) : Int).toNat) (verC x)) (0 + (p : Int).toNat) (verC y) = vsC ((T.set (p + 1) x).set p y) := by rw [s1, Nat.zero_add, Int.toNat_natCast, vsC_set]
   have hbq2 : Nat.beq V.length (setEs (vsC T) (0 + ((p + 1 : Nat) : Int).toNat) (verC x)).length = true := by rw [s1, vsC_length, List.length_set, lT]; exact Nat.beq_refl _
   (conv => whnf); refine recT (hbq) ?_
   (conv => whnf); refine And.intro (by omega) ?_
   (conv => whnf); refine recT (hbq) ?_
   (conv => whnf); refine recO ((show (vsC T)[0 + ((p + 1 : Nat) : Int).toNat]? = some (verC y) from by rw [Nat.zero_add, Int.toNat_natCast]; exact vsC_at hy)) ?_
   (conv => whnf); refine recT (hbq2) ?_
   (conv => whnf); refine And.intro (by omega) ?_
   (conv => whnf); refine recT (hbq2) ?_
   (conv => whnf); refine recO ((show (setEs (vsC T) (0 + ((p + 1 : Nat) : Int).toNat) (verC x))[0 + (p : Int).toNat]? = some (verC x) from by rw [s1, Nat.zero_add, Int.toNat_natCast]; exact vsC_at (by rw [List.getElem?_set_ne (by omega)]; exact hx))) ?_
   repeat ((conv => whnf); refine And.intro rfl ?_)
   conv => whnf
   have gen : ∀ Y : List (List AVal), Y = vsC ((T.set (p + 1) x).set p y) → ([gO ls (ledV (wsrc n) ls).2, .arr 7 [srcC (wsrc n)], .arr 1 [ledC (ledV (wsrc n) ls).1], .arr 5 Y] : List AObj) = [gO ls (ledV (wsrc n) ls).2, .arr 7 [srcC (wsrc n)], .arr 1 [ledC (ledV (wsrc n) ls).1], vO ((T.set (p + 1) x).set p y)] := by
    rintro Y rfl; rfl
   refine ⟨p, by omega, Gp.keep rfl ?_ fun ρ1 h => ⟨(p : Int) - 1, (T.set (p + 1) x).set p y, hsp.trans pT, by omega, by omega, by omega, gen _ s2, h⟩⟩
   exact ⟨rfl, rfl, rfl, rfl, intEq (by rw [wrapI _ (by omega) (by omega)]; omega), trivial⟩
  ·conv => whnf
   refine Ghost.some (n := 99) (live := [(7, .ptr 0 1 0 0), (10, .list false 5 (vsC V)), (12, .list false 5 (vsC T))]) (H1 := [.arr 7 [srcC (wsrc n)]]) [1] (by simp) ⟨⟨_, rfl, .same _ _ rfl⟩, trivial⟩ rfl ⟨.keepP 1 1 0 0 0 rfl, .closed _ rfl, pubFI (by simp) rfl (by rw [vsC_length, lT]) (by rw [vsC_length, lT]) (pureEs_vsC T), trivial⟩ ?_
   rintro ρ ⟨d, rfl⟩
   (conv => whnf); refine ACalls.use (Intervals_spec F.z0l hI (souS (wsrc n)) hs false V (by omega) v2 v3 _) ?_
   (conv => whnf); refine ACalls.use (hIT _) ?_
   (conv => whnf); refine ACalls.use (sameEnt_refl F.z24 (ivsV (souS (wsrc n)) V) (by have := ivsV_len (souS (wsrc n)) V; omega) (fun e he => by have := ivsV_rows hs v2 e he; omega) _) ?_
   (conv => whnf); refine ACalls.use (known _) ?_
   conv => whnf
 ·conv => whnf
  refine Ghost.some (n := 99) (live := [(7, .ptr 0 1 0 0), (10, .list false 5 (vsC V)), (12, .list false 5 (vsC T))]) (H1 := [.arr 7 [srcC (wsrc n)]]) [1] (by simp) ⟨⟨_, rfl, .same _ _ rfl⟩, trivial⟩ rfl ⟨.keepP 1 1 0 0 0 rfl, .closed _ rfl, pubFI (by simp) rfl (by rw [vsC_length, lT]) (by rw [vsC_length, lT]) (pureEs_vsC T), trivial⟩ ?_
  rintro ρ ⟨d, rfl⟩
  (conv => whnf); refine ACalls.use (Intervals_spec F.z0l hI (souS (wsrc n)) hs false V (by omega) v2 v3 _) ?_
  (conv => whnf); refine ACalls.use (hIT _) ?_
  (conv => whnf); refine ACalls.use (sameEnt_refl F.z24 (ivsV (souS (wsrc n)) V) (by have := ivsV_len (souS (wsrc n)) V; omega) (fun e he => by have := ivsV_rows hs v2 e he; omega) _) ?_
  (conv => whnf); refine ACalls.use (known _) ?_
  conv => whnf

end Go.AW

namespace Go.AW
variable [Draws]
attribute [local irreducible] ACalls
theorem Intervals_1_spec {P : Program} (F : F_z0m P) (x y : Ent) (hx : x.row.length ≤ 1000000) (H : List AObj) :
  ACalls P F.id [.agg (entC x), .agg (entC y)] H (fun r H' => r = .int .i64 (rowsCmp x.row y.row) ∧ H' = H) := by
 refine ACalls.pure rfl (acalls_of_body F.has ?_)
 (conv => whnf); refine ACalls.use (value_CompareRows_spec F.z1p false false x.row y.row hx _) ?_
 conv => whnf
 exact .closed _ rfl

end Go.AW

namespace Go.AW
variable [Draws]
open Go.Sort
section
variable {P : Program} {β : Type}
structure El (C : Nat → Nat) (w : World) (k : Nat) (cells : β → List AVal) where
 vs : List Value
 x : β
 len : vs.length = k
 one : ∀ v ∈ vs, v.oneCell' = true
 rd : ∀ (j : Nat) (c : AVal) (v : Value), (cells x)[j]? = some c → vs[j]? = some v → Rd C w c v

theorem Rd.later {C : Nat → Nat} {w w' : World} {a : AVal} {v : Value} (h : Rd C w a v) (hc : ∀ b i, i < C b → w'.cell? ⟨b, i, none⟩ = w.cell? ⟨b, i, none⟩) : Rd C w' a v := by
 have s : Step C (fun _ => none) [] w C (fun _ => none) [] { w with heap := w.heap } := Step.refl
 induction h with
 | junk v h => exact .junk v h
 | bool b => exact .bool b
 | int k n => exact .int k n
 | str s => exact .str s
 | nil => exact .nil
 | list0 x sz a cap hx => exact .list0 x sz a cap hx
 | list x sz es b off cap vs hx hcap hsz hC hcell hp hrd ih =>
  refine .list x sz es b off cap vs hx hcap hsz hC (fun i j hi hj => ?_) hp fun i j e d he hd => ih i j e d he hd
  rw [hc b _ ?_, hcell i j hi hj]
  have : i * sz + sz ≤ es.length * sz := by
   have := Nat.mul_le_mul_right sz (show i + 1 ≤ es.length by omega)
   rwa [Nat.add_mul, Nat.one_mul] at this
  omega
 | cptr cs fld b off vs hC hcell hp hrd ih =>
  refine .cptr cs fld b off vs hC (fun j hj => ?_) hp fun j d hd => ih j d hd
  rw [hc b _ (by omega), hcell j hj]
 | fn f => exact .fn f

abbrev upD : Draws := ⟨True⟩

omit [Draws] in
attribute [local instance] upD in

theorem cmpLays_of {C : Nat → Nat} {w : World} {k : Nat} {cells : β → List AVal} (hk : ∀ x, (cells x).length = k) [Inhabited (El C w k cells)] {cmp : β → β → Int} {g : FuncId}
  (eg : ∀ args w, (callFunc g args).run P w = .ok (.enter g args) w)
  (hg : ∀ x y, @ACalls upD P g [.agg (cells x), .agg (cells y)] [] (fun r _ => r = .int .i64 (cmp x y)))
  {blk off size : Nat} (hlt : ∀ b, 0 < C b → b < w.heap.size) (hblk : C blk = 0) :
  Go.Proofs.CmpLays P g #[] (fun e : El C w k cells => e.vs) k (fun a b => cmp a.x b.x) blk off size w := by
 intro m os dk hs x y
 obtain ⟨W, hW⟩ : ∃ W, Go.Proofs.sortWorldK (fun e : El C w k cells => e.vs) k w blk off m dk os = W := ⟨_, rfl⟩
 rw [hW]
 have hcell : ∀ b i, i < C b → W.cell? ⟨b, i, none⟩ = w.cell? ⟨b, i, none⟩ := by
  intro b i hi
  have hb : b < w.heap.size := hlt b (by omega)
  have hbb : b ≠ blk := fun e => by rw [e, hblk] at hi; omega
  refine cell_heap ?_
  rw [← hW]
  unfold Go.Proofs.sortWorldK Go.Sort.putRowK putRow mapBlock grow Go.Sort.ahead
  simp only []
  rw [Array.getElem?_append_left (by simp; exact hb), Array.getElem?_modify, if_neg (Ne.symm hbb)]
 have hsz : w.heap.size ≤ W.heap.size := by rw [← hW]; exact Go.Proofs.size_sortWorldK_c _ _ _ _ _ _ _ _
 have hwf : WF C (fun _ => none) [] W := ⟨fun id o h => by simp at h, fun id o h => by simp at h, fun id o l h => by simp at h, fun id l h => by simp at h, fun i j li lj h => by simp at h, fun b hb => Nat.lt_of_lt_of_le (hlt b hb) hsz⟩
 have hrel : ∀ e : El C w k cells, Rel C W (fun _ => none) [] (.agg (cells e.x)) (.agg e.vs.toArray) := fun e => by
  refine .agg _ _ (by simp [hk, e.len]) fun i c v hc hv => .rd ((e.rd i c v hc ?_).later hcell)
  simpa using hv
 have h := hg x.x y.x C (fun _ => none) W #[.agg x.vs.toArray, .agg y.vs.toArray] hwf rfl fun i a v ha hv => by
  rcases i with _ | _ | i
  ·cases ha; cases hv; exact hrel x
  ·cases ha; cases hv; exact hrel y
  ·simp at ha
 unfold CallsX at h
 rw [eg] at h
 refine Calls.mono h fun e w' => ?_
 rintro ⟨v, r, C', τ', H', rfl, rfl, hrv, hst, _⟩
 refine ⟨?_, w'.drawn - W.drawn, w'.heap.extract W.heap.size w'.heap.size, ?_⟩
 ·cases hrv with
  | rd h => cases h; rfl
 ·have f := hst.fr
  have hp : ∀ b, b < W.heap.size → w'.heap[b]? = W.heap[b]? := fun b hb => f.prot b ⟨hb, by rintro ⟨id, l, h, _⟩; simp at h⟩
  have hh : w'.heap = W.heap ++ w'.heap.extract W.heap.size w'.heap.size := by
   refine Array.ext_getElem? fun i => ?_
   by_cases hi : i < W.heap.size
   ·rw [Array.getElem?_append_left hi]; exact hp i hi
   ·rw [Array.getElem?_append_right (by omega), Array.getElem?_extract]
    by_cases hi2 : i < w'.heap.size
    ·rw [if_pos (by omega)]; congr 1; omega
    ·rw [if_neg (by omega)]; exact Array.getElem?_eq_none (by omega)
  have hd : w'.drawn = W.drawn + (w'.drawn - W.drawn) := by have := f.drawn trivial; omega
  obtain ⟨h1, h2, h3, h4, h5⟩ := w'
  unfold grow World.drewN
  simp only [World.mk.injEq]
  exact ⟨hh, f.tape, hd, f.os, f.output⟩

theorem St.grow {w0 w : World} {Pr : Nat → Prop} {C : Nat → Nat} {τ : Nat → Option Loc} {H : List AObj} (h : St w0 Pr C τ H w) : ∀ (os : List Obj), St w0 Pr C τ H (Go.Sort.grow w os.toArray) ∧ Step C τ H w C τ H (Go.Sort.grow w os.toArray) := by
 intro os
 induction os generalizing w with
 | nil => simpa using ⟨h, Step.refl⟩
 | cons o os ih =>
  obtain ⟨st, s⟩ := h.alloc_comm o 0
  have hCC : updF C w.heap.size (C w.heap.size + 0) = C := by
   funext b
   by_cases e : b = w.heap.size
   ·subst e; rw [updF_same]; rfl
   ·rw [updF_other _ _ e]
  rw [hCC] at st s
  obtain ⟨st2, s2⟩ := ih st
  have e : Go.Sort.grow (w.alloc o) os.toArray = Go.Sort.grow w (o :: os).toArray := by
   rw [alloc_eq_grow, grow_grow]
   congr 1
   simp
  rw [e] at st2 s2
  exact ⟨st2, s.trans s2⟩

theorem St.putRow {w0 w : World} {Pr : Nat → Prop} {C : Nat → Nat} {τ : Nat → Option Loc} {H : List AObj} {k : Nat} {cells : β → List AVal} (hk : ∀ x, (cells x).length = k) (hk0 : 0 < k) (hcl : ∀ x, ∀ c ∈ cells x, c.isCell = true) [Inhabited (El C w k cells)]
  (h : St w0 Pr C τ H w) {i0 : Nat} {es : List β} {l : Loc} (ho : H[i0]? = some (.arr k (es.map cells))) (hl : τ i0 = some l) (d : Array (El C w k cells)) (hd : d.size = es.length) :
  St w0 Pr C τ (H.set i0 (.arr k (d.toList.map fun e => cells e.x))) (putRowK (fun e : El C w k cells => e.vs) k w l.b 0 d) ∧ Step C τ H w C τ (H.set i0 (.arr k (d.toList.map fun e => cells e.x))) (putRowK (fun e : El C w k cells => e.vs) k w l.b 0 d) := by
 obtain ⟨hcap, cs, elem, fz, h1, h2, h3, _⟩ := h.wf.objs i0 _ l ho hl
 rw [List.length_map] at hcap
 have hw : (putRowK (fun e : El C w k cells => e.vs) k w l.b 0 d).heap[l.b]? = some (.cells (Go.Sort.putCells id 0 (flatK (fun e : El C w k cells => e.vs) k d) cs) elem fz) := by
  unfold putRowK Go.Sort.putRow mapBlock
  simp only [Array.getElem?_modify, if_true, h1, Option.map_some, onCells]
 refine h.set_obj (w' := putRowK (fun e : El C w k cells => e.vs) k w l.b 0 d) (o' := .arr k (d.toList.map fun e => cells e.x)) ho hl (fun b hb => ?_) (by simp [putRowK]) rfl rfl rfl rfl ⟨rfl, by simp; omega, fun _ => rfl⟩ (fun e he => ?_) fun C' τ' H' s => ?_
 ·unfold putRowK Go.Sort.putRow mapBlock
  simp only [Array.getElem?_modify]
  rw [if_neg (Ne.symm hb)]
 ·obtain ⟨x, _, rfl⟩ := List.mem_map.1 he
  exact ⟨hk x.x, hcl x.x⟩
 ·refine ⟨by simp; omega, _, elem, fz, hw, by simp [Go.Sort.putCells, h2], by simpa [Go.Sort.putCells] using h3, fun i j e c he hc => ?_⟩
  rw [List.getElem?_map] at he
  obtain ⟨x, hx, rfl⟩ := Option.map_eq_some_iff.1 he
  have hi : i < d.size := by have := (List.getElem?_eq_some_iff.1 hx).1; simpa using this
  have hj : j < k := by have := (List.getElem?_eq_some_iff.1 hc).1; rwa [hk] at this
  have hxd : d[i]! = x := by
   rw [getElem!_pos d i hi]
   have := (List.getElem?_eq_some_iff.1 hx).2
   simpa using this
  have ht : i * k + j < d.size * k := by
   have := Nat.mul_le_mul_right k (show i + 1 ≤ d.size by omega)
   rw [Nat.add_mul, Nat.one_mul] at this
   omega
  have htc : i * k + j < cs.size := by
   have := Nat.mul_le_mul_right k (show d.size ≤ l.cap by omega)
   omega
  have hjv : j < x.vs.length := by rw [x.len]; exact hj
  refine ⟨x.vs[j], ?_, ?_⟩
  ·unfold Go.Sort.putCells
   rw [Array.getElem?_mapIdx, Array.getElem?_eq_getElem htc]
   have hf := get_flatK (fun e : El C w k cells => e.vs) k d (i * k + j) ht
   have e1 : (i * k + j) / k = i := by rw [Nat.mul_comm, Nat.mul_add_div hk0, Nat.div_eq_of_lt hj, Nat.add_zero]
   have e2 : (i * k + j) % k = j := by rw [Nat.mul_comm, Nat.mul_add_mod, Nat.mod_eq_of_lt hj]
   rw [e1, e2, hxd] at hf
   simp only [Option.map_some, size_flatK, Nat.zero_le, true_and, Nat.zero_add, ht, if_true, Nat.sub_zero, hf]
   rw [getElem!_pos x.vs j hjv]
   rfl
  ·exact (Rel.rd (x.rd j c _ hc (List.getElem?_eq_getElem hjv))).mono s

theorem row_of {w0 w : World} {Pr : Nat → Prop} {C : Nat → Nat} {τ : Nat → Option Loc} {H : List AObj} {k : Nat} {cells : β → List AVal} (hk : ∀ x, (cells x).length = k) (hk0 : 0 < k) (hpu : ∀ x, ∀ c ∈ cells x, c.isPure = true)
  (h : St w0 Pr C τ H w) {i0 : Nat} {es : List β} {l : Loc} (ho : H[i0]? = some (.arr k (es.map cells))) (hl : τ i0 = some l) :
  ∃ d : Array (El C w k cells), d.size = es.length ∧ d.toList.map (fun e => e.x) = es ∧ ∀ [Inhabited (El C w k cells)], HoldsK (fun e : El C w k cells => e.vs) k w l.b 0 d := by
 obtain ⟨hcap, cs, elem, fz, h1, h2, h3, h4⟩ := h.wf.objs i0 _ l ho hl
 rw [List.length_map] at hcap
 have hroom : es.length * k ≤ cs.size := by rw [h2]; exact Nat.mul_le_mul_right k hcap
 have get : ∀ (i j : Nat) (hi : i < es.length) (hj : j < k), i * k + j < cs.size := fun i j hi hj => by
  have := Nat.mul_le_mul_right k (show i + 1 ≤ es.length by omega)
  rw [Nat.add_mul, Nat.one_mul] at this
  omega
 have rel : ∀ (i j : Nat) (hi : i < es.length) (c : AVal) (v : Value), (cells es[i])[j]? = some c → cs[i * k + j]? = some v → Rd C w c v := fun i j hi c v hc hv => by
  obtain ⟨v', hv', hr⟩ := h4 i j (cells es[i]) c (by rw [List.getElem?_map, List.getElem?_eq_getElem hi]; rfl) hc
  rw [hv] at hv'
  cases hv'
  exact hr.pure (hpu _ c (List.mem_of_getElem? hc))
 have vget : ∀ (i j : Nat), ((cs.extract (i * k) (i * k + k)).toList)[j]? = if j < min (i * k + k) cs.size - i * k then cs[i * k + j]? else none := fun i j => by
  rw [Array.getElem?_toList, Array.getElem?_extract]
 have mk : ∀ i : Fin es.length, ∃ e : El C w k cells, e.vs = (cs.extract (i.1 * k) (i.1 * k + k)).toList ∧ e.x = es[i.1] := fun ⟨i, hi⟩ => by
  have hik := get i (k - 1) hi (by omega)
  have hlen : (cs.extract (i * k) (i * k + k)).size = k := by rw [Array.size_extract]; omega
  refine ⟨⟨(cs.extract (i * k) (i * k + k)).toList, es[i], by rw [Array.length_toList]; exact hlen, ?_, fun j c v hc hv => ?_⟩, rfl, rfl⟩
  ·refine rel_cellsPlain (C := C) (w := w) (τ := τ) (H := H) (cs := cells es[i]) (by rw [hk, hlen]) (fun j c v hc hv => ?_) (List.all_eq_true.2 fun c hc => AVal.isCell_of_isPure (hpu _ c hc))
   have := vget i j
   rw [Array.getElem?_toList, hv] at this
   split at this
   ·exact .rd (rel i j hi c v hc this.symm)
   ·cases this
  ·have := vget i j
   rw [hv] at this
   split at this
   ·exact rel i j hi c v hc this.symm
   ·cases this
 refine ⟨Array.ofFn fun i => (mk i).choose, by simp, ?_, ?_⟩
 ·refine List.ext_getElem? fun i => ?_
  by_cases hi : i < es.length
  ·rw [List.getElem?_map, Array.getElem?_toList, Array.getElem?_ofFn, dif_pos hi, List.getElem?_eq_getElem hi]
   show some ((mk ⟨i, hi⟩).choose).x = _
   rw [(mk ⟨i, hi⟩).choose_spec.2]
  ·rw [List.getElem?_eq_none (by simp; omega), List.getElem?_eq_none (by omega)]
 ·intro _ t ht
  rw [size_flatK, Array.size_ofFn] at ht
  have hi : t / k < es.length := Nat.div_lt_of_lt_mul (by rwa [Nat.mul_comm] at ht)
  have hj : t % k < k := Nat.mod_lt _ hk0
  have htk : t / k * k + t % k = t := by rw [Nat.mul_comm]; exact Nat.div_add_mod t k
  have htc := get _ _ hi hj
  rw [htk] at htc
  rw [get_flatK _ _ _ t (by rw [Array.size_ofFn]; exact ht), getElem!_pos _ (t / k) (by rw [Array.size_ofFn]; exact hi), Array.getElem_ofFn]
  have hv := vget (t / k) (t % k)
  rw [if_pos (by have := get (t / k) (k - 1) hi (by omega); omega), htk, Array.getElem?_eq_getElem htc, ← (mk ⟨t / k, hi⟩).choose_spec.1] at hv
  have hb := (List.getElem?_eq_some_iff.1 hv).1
  have hv2 := (List.getElem?_eq_some_iff.1 hv).2
  rw [getElem!_pos _ (t % k) hb]
  refine ⟨?_, ?_⟩
  ·simp only [World.cell?, h1, Nat.zero_add]
   simp [Array.getElem?_eq_getElem htc, ← hv2]
  ·simp only [World.frozen?, h1, Nat.zero_add]
   simp only [Bool.and_eq_false_iff, decide_eq_false_iff_not]
   omega

def Sorted (cmp : β → β → Int) (es es' : List β) : Prop := es'.Perm es ∧ ∀ (i j : Nat) (x y : β), i < j → es'[i]? = some x → es'[j]? = some y → 0 ≤ cmp y x

theorem sort_spec {ρ : Go.Shelf.Ren} (L : Go.Proofs.SlLaysF0.n6 P ρ) {k : Nat} (hk0 : 0 < k) (aE : ∀ w, (isAgg (ρ.t 24)).run P w = .ok true w) (zE : ∀ w, (Go.sizeOf (ρ.t 24)).run P w = .ok k w)
  {cells : β → List AVal} (hk : ∀ x, (cells x).length = k) (hpu : ∀ x, ∀ c ∈ cells x, c.isPure = true) {cmp : β → β → Int} (hO : SWO (Go.Proofs.ltOf cmp)) {g : FuncId}
  (eg : ∀ args w, (callFunc g args).run P w = .ok (.enter g args) w)
  (hg : ∀ x y, @ACalls upD P g [.agg (cells x), .agg (cells y)] [] (fun r _ => r = .int .i64 (cmp x y)))
  {es : List β} (hne : es ≠ []) (hlen : es.length ≤ 1000000) {H : List AObj} {i0 : Nat} (ho : H[i0]? = some (.arr k (es.map cells))) :
  ACalls P (ρ.f 6) [.sl i0 es.length 0 es.length, .fn g []] H (fun r H' => r = .tuple [] ∧ ∃ es', Sorted cmp es es' ∧ H' = H.set i0 (.arr k (es'.map cells))) := by
 intro C τ w vs hw hl hr
 obtain ⟨v0, v1, rfl⟩ : ∃ v0 v1, vs = #[v0, v1] := by
  obtain ⟨m⟩ := vs
  match m, hl with
  | [v0, v1], _ => exact ⟨v0, v1, rfl⟩
 have r0 := hr 0 _ v0 rfl rfl
 have r1 := hr 1 _ v1 rfl rfl
 have e1 : v1 = .func (.func g) #[] #[] := by
  cases r1 with
  | rd h => cases h; rfl
  | fn _ _ vs hl2 h =>
   have : vs = #[] := Array.eq_empty_of_size_eq_zero hl2.symm
   rw [this]
 subst e1
 have hpos : 0 < es.length := List.length_pos_iff.2 hne
 cases r0 with
 | rd h => cases h
 | sl _ _ _ _ a cap esz es0 ho' hep hcur =>
 rw [ho] at ho'
 cases ho'
 obtain ⟨_, hcap, hor⟩ := hcur (by simp)
 rcases hor with ⟨_, h0⟩ | ⟨l, hlt, hlc, ha⟩
 ·omega
 have ha2 : a = some ⟨l.b, 0, none⟩ := by
  rcases ha with h0 | h0
  ·omega
  ·rw [h0, Nat.zero_mul]
 subst ha2
 have st := St.start hw
 obtain ⟨d, hd, hdx, hH⟩ := row_of hk hk0 hpu st ho hlt
 haveI : Inhabited (El C w k cells) := ⟨d[0]'(by omega)⟩
 have hid := (List.getElem?_eq_some_iff.1 ho).1
 have hcmp := cmpLays_of (P := P) (C := C) (w := w) hk eg hg (blk := l.b) (off := 0) (size := d.size) hw.lt (hw.comm i0 l hid hlt)
 have hO2 : SWO (Go.Proofs.ltOf fun a b : El C w k cells => cmp a.x b.x) := ⟨fun x => hO.irrefl x.x, fun x y z => hO.trans x.x y.x z.x, fun x y z => hO.ntrans x.x y.x z.x⟩
 have main := Go.Proofs.AnyQ.slices_SortFunc L k aE zE (fun e : El C w k cells => e.vs) (fun x => x.len) (fun x => x.one) (fun a b => cmp a.x b.x) hO2 g #[] l.b 0 cap d w eg hcmp hH (hw.locLt hid hlt) (by omega)
 rw [hd] at main
 unfold CallsX
 have en : ∀ args w, (callFunc (ρ.f 6) args).run P w = .ok (.enter (ρ.f 6) args) w := L.f6.enters rfl
 rw [en]
 refine Calls.mono main fun e w' => ?_
 rintro ⟨rfl, d', n, os, hp, hs, rfl⟩
 have hd's : d'.size = es.length := by have := hp.1; omega
 obtain ⟨st1, s1⟩ := st.putRow hk hk0 (fun x c hc => AVal.isCell_of_isPure (hpu x c hc)) ho hlt d' hd's
 obtain ⟨st2, s2⟩ := st1.same (w' := Go.Sort.ahead (putRowK (fun e : El C w k cells => e.vs) k w l.b 0 d') n) rfl rfl rfl rfl (Nat.le_add_right _ _)
 obtain ⟨st3, s3⟩ := st2.grow os.toList
 have ew : Go.Sort.grow (Go.Sort.ahead (putRowK (fun e : El C w k cells => e.vs) k w l.b 0 d') n) os.toList.toArray = Go.Proofs.sortWorldK (fun e : El C w k cells => e.vs) k w l.b 0 n d' os := by
  rw [Array.toArray_toList]; rfl
 rw [ew] at st3 s3
 refine ⟨.tuple #[], .tuple [], C, τ, _, rfl, ⟨rfl, d'.toList.map (fun e => e.x), ⟨?_, fun i j x y hij hx hy => ?_⟩, by rw [List.map_map]; rfl⟩, .tuple _ _ rfl fun i c v h => by simp at h, st3, (s1.trans s2).trans s3⟩
 ·have h3 := hp.2.2
  have a1 : d'.extract 0 es.length = d' := by rw [← hd's]; simp
  have a2 : d.extract 0 es.length = d := by rw [← hd]; simp
  rw [a1, a2] at h3
  have := h3.map (fun e : El C w k cells => e.x)
  rwa [hdx] at this
 ·rw [List.getElem?_map] at hx hy
  obtain ⟨ex, hx1, rfl⟩ := Option.map_eq_some_iff.1 hx
  obtain ⟨ey, hy1, rfl⟩ := Option.map_eq_some_iff.1 hy
  clear hx hy
  have hj := (List.getElem?_eq_some_iff.1 hy1).1
  rw [Array.length_toList, hd's] at hj
  have h4 := hs i j (Nat.zero_le _) hij hj
  have b1 : d'[i]! = ex := by
   rw [getElem!_pos d' i (by omega)]
   have := (List.getElem?_eq_some_iff.1 hx1).2
   simpa using this
  have b2 : d'[j]! = ey := by
   rw [getElem!_pos d' j (by omega)]
   have := (List.getElem?_eq_some_iff.1 hy1).2
   simpa using this
  rw [b1, b2] at h4
  unfold Go.Proofs.ltOf at h4
  simp at h4
  exact h4

end
end Go.AW

namespace Go.AW
variable [Draws]
open Go.Sort
attribute [local irreducible] ACalls
abbrev EntS := {e : Ent // e.row.length ≤ 1000}

def subL : (l : List Ent) → (∀ e ∈ l, e.row.length ≤ 1000) → List EntS
 | [], _ => []
 | e :: l, h => ⟨e, h e (List.mem_cons_self ..)⟩ :: subL l fun e he => h e (List.mem_cons_of_mem _ he)

theorem subL_map : ∀ (l : List Ent) (h : ∀ e ∈ l, e.row.length ≤ 1000), (subL l h).map (fun e => e.1) = l
 | [], _ => rfl
 | e :: l, h => by rw [subL, List.map_cons, subL_map l]

theorem swo_rows : SWO (Go.Proofs.ltOf fun a b : EntS => rowsCmp a.1.row b.1.row) where
 irrefl x := by simp [Go.Proofs.ltOf, (rowsCmp_zero x.1.row x.1.row).2 rfl]
 trans x y z h1 h2 := by
  simp [Go.Proofs.ltOf] at h1 h2 ⊢
  exact rowsCmp_trans _ _ _ h1 h2
 ntrans x y z h1 h2 := by
  simp [Go.Proofs.ltOf] at h1 h2 ⊢
  refine Int.not_lt.1 fun hn => ?_
  by_cases hz : rowsCmp y.1.row z.1.row = 0
  ·rw [(rowsCmp_zero _ _).1 hz] at h1
   omega
  ·have h3 : rowsCmp z.1.row y.1.row < 0 := by rw [rowsCmp_anti]; omega
   have := rowsCmp_trans _ _ _ hn h3
   omega

theorem sortE_of {P : Program} {ρ : Go.Shelf.Ren} (L : Go.Proofs.SlLaysF0.n6 P ρ) (aE : ∀ w, (isAgg (ρ.t 24)).run P w = .ok true w) (zE : ∀ w, (Go.sizeOf (ρ.t 24)).run P w = .ok 2 w) (F : F_z06 P) :
  SortE P (ρ.f 6) F.id := by
 intro l hne hl hr H i0 ho
 have eg : ∀ args w, (callFunc F.id args).run P w = .ok (.enter F.id args) w := by
  obtain ⟨fn, c, h1, h2, h3, _⟩ := F.has
  exact Go.Proofs.enters_of h1 h2 h3
 have hm := subL_map l hr
 have hcells : (subL l hr).map (fun e => entC e.1) = eC l := by
  have := congrArg (List.map entC) hm
  rw [List.map_map] at this
  exact this
 have hlen : (subL l hr).length = l.length := by rw [← List.length_map (f := fun e : EntS => e.1), hm]
 have main := sort_spec (P := P) L (k := 2) (by decide) aE zE (cells := fun e : EntS => entC e.1) (fun _ => rfl) (fun x c hc => by
  simp [entC] at hc
  rcases hc with rfl | rfl
  ·simp [AVal.isPure]
  ·rfl) (cmp := fun a b => rowsCmp a.1.row b.1.row) swo_rows (g := F.id) eg (fun x y => by letI : Draws := upD; exact (bag_sum_1_spec F x.1 y.1 (by have := x.2; omega) []).mono fun _ _ h => h.1)
  (es := subL l hr) (fun h => by rw [h] at hm; exact hne hm.symm) (by omega) (i0 := i0) (by rw [hcells]; exact ho)
 rw [hlen] at main
 refine main.mono ?_
 rintro r H' ⟨rfl, es', ⟨hp, hs⟩, rfl⟩
 refine ⟨rfl, es'.map (fun e => e.1), by have := hp.map (fun e : EntS => e.1); rwa [hm] at this, ?_, ?_⟩
 ·refine List.pairwise_iff_getElem.2 fun i j hi hj hij => ?_
  rw [List.length_map] at hi hj
  have := hs i j es'[i] es'[j] hij (List.getElem?_eq_getElem hi) (List.getElem?_eq_getElem hj)
  replace this : 0 ≤ rowsCmp (es'[j]).1.row (es'[i]).1.row := this
  rw [rowsCmp_anti] at this
  simp only [List.getElem_map]
  omega
 ·rw [eC, List.map_map]; rfl

end Go.AW

namespace Go.AW
variable [Draws]
open Go.Sort
attribute [local irreducible] ACalls
theorem sortEg_of {P : Program} {ρ : Go.Shelf.Ren} (L : Go.Proofs.SlLaysF0.n6 P ρ) (aE : ∀ w, (isAgg (ρ.t 24)).run P w = .ok true w) (zE : ∀ w, (Go.sizeOf (ρ.t 24)).run P w = .ok 2 w) {g : FuncId}
  (eg : ∀ args w, (callFunc g args).run P w = .ok (.enter g args) w)
  (hg : ∀ x y : Ent, x.row.length ≤ 1000 → @ACalls upD P g [.agg (entC x), .agg (entC y)] [] (fun r _ => r = .int .i64 (rowsCmp x.row y.row))) :
  SortE P (ρ.f 6) g := by
 intro l hne hl hr H i0 ho
 have hm := subL_map l hr
 have hcells : (subL l hr).map (fun e => entC e.1) = eC l := by
  have := congrArg (List.map entC) hm
  rw [List.map_map] at this
  exact this
 have hlen : (subL l hr).length = l.length := by rw [← List.length_map (f := fun e : EntS => e.1), hm]
 have main := sort_spec (P := P) L (k := 2) (by decide) aE zE (cells := fun e : EntS => entC e.1) (fun _ => rfl) (fun x c hc => by
  simp [entC] at hc
  rcases hc with rfl | rfl
  ·simp [AVal.isPure]
  ·rfl) (cmp := fun a b => rowsCmp a.1.row b.1.row) swo_rows (g := g) eg (fun x y => hg x.1 y.1 (by have := x.2; omega))
  (es := subL l hr) (fun h => by rw [h] at hm; exact hne hm.symm) (by omega) (i0 := i0) (by rw [hcells]; exact ho)
 rw [hlen] at main
 refine main.mono ?_
 rintro r H' ⟨rfl, es', ⟨hp, hs⟩, rfl⟩
 refine ⟨rfl, es'.map (fun e => e.1), by have := hp.map (fun e : EntS => e.1); rwa [hm] at this, ?_, ?_⟩
 ·refine List.pairwise_iff_getElem.2 fun i j hi hj hij => ?_
  rw [List.length_map] at hi hj
  have := hs i j es'[i] es'[j] hij (List.getElem?_eq_getElem hi) (List.getElem?_eq_getElem hj)
  replace this : 0 ≤ rowsCmp (es'[j]).1.row (es'[i]).1.row := this
  rw [rowsCmp_anti] at this
  simp only [List.getElem_map]
  omega
 ·rw [eC, List.map_map]; rfl

theorem enters_has {P : Program} {f : FuncId} {a : AFunc} {ob : List Nat} (h : Has P f ob a) : ∀ args w, (callFunc f args).run P w = .ok (.enter f args) w := by
 obtain ⟨fn, c, h1, h2, h3, _⟩ := h
 exact Go.Proofs.enters_of h1 h2 h3

theorem sortE_I {P : Program} {ρ : Go.Shelf.Ren} (L : Go.Proofs.SlLaysF0.n6 P ρ) (aE : ∀ w, (isAgg (ρ.t 24)).run P w = .ok true w) (zE : ∀ w, (Go.sizeOf (ρ.t 24)).run P w = .ok 2 w) (F : F_z0m P) : SortE P (ρ.f 6) F.id :=
 sortEg_of L aE zE (enters_has F.has) fun x y hx => by letI : Draws := upD; exact (Intervals_1_spec F x y (by omega) []).mono fun _ _ h => h.1

end Go.AW

