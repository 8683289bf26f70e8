/-
  An abstract machine over the model, the code of functions on it, and their contracts: what the claim needs.
  No condition: definitions, plain laws, contracts over any program that has this code.
-/
import Derived.Test.YtdffiibjghcobaaGreatZ7
set_option linter.all false
namespace Go.AW
variable [Draws]
attribute [local irreducible] ACalls
theorem pubFxI {H1 : List AObj} {n : Nat} {ids : List Nat} {id ep len sz : Nat} {es es' : List (List AVal)} (hid : id ∉ ids) (ho : H1[id]? = some (.arr sz es')) (hx : es' = es) (he : ep = es.length) (hl : len = es.length) (hp : pureEs es = true) : Pub H1 n ids (.sl id ep 0 len) (.list false sz es) := by
 subst hx; exact pubFI hid ho he hl hp

theorem put_asc {s : Sou} {x : Ver} {A B : List Ver} (h : AscO (cmpVr s) (A ++ B)) (hA : ∀ a, A.getLast? = some a → ¬ cmpVr s x a < 0) (hB : ∀ b ∈ B, cmpVr s x b < 0) : AscO (cmpVr s) (A ++ x :: B) := by
 have O := orders_V s
 obtain ⟨h1, h2, h3⟩ := List.pairwise_append.1 h
 have hAx : ∀ a ∈ A, 0 ≤ cmpVr s x a := by
  intro a ha
  rcases List.eq_nil_or_concat A with rfl | ⟨A', z, rfl⟩
  ·cases ha
  ·rw [List.concat_eq_append] at ha h1 hA
   have hz := hA z (by simp)
   rcases List.mem_append.1 ha with ha | ha
   ·have h4 := (List.pairwise_append.1 h1).2.2 a ha z (by simp)
    exact O.trans _ _ _ h4 (by omega)
   ·rw [List.mem_singleton.1 ha]; omega
 refine List.pairwise_append.2 ⟨h1, List.pairwise_cons.2 ⟨fun b hb => O.anti _ _ (hB b hb), h2⟩, fun a ha b hb => ?_⟩
 rcases List.mem_cons.1 hb with rfl | hb
 ·exact hAx a ha
 ·exact h3 a ha b hb

theorem put_perm {α : Type} {A B L : List α} {x : α} (h : (A ++ B).Perm L) : (A ++ x :: B).Perm (L ++ [x]) :=
 List.perm_middle.trans ((h.cons x).trans (List.perm_append_singleton x L).symm)

theorem getLast_at {α : Type} {A B : List α} {k : Nat} (hk : A.length = k) {a : α} (h : A.getLast? = some a) : (A ++ B)[k - 1]? = some a := by
 rw [List.getLast?_eq_getElem?, hk] at h
 rw [List.getElem?_append_left (by have := (List.getElem?_eq_some_iff.1 h).1; omega)]
 exact h

abbrev nilV : List Ver := []

def sOutC (out : List Ver) (i : Nat) (c : AVal) : Prop := (out = [] ∧ i = 0 ∧ c = .nil) ∨ c = .list false 5 (vsC out)

set_option maxHeartbeats 2000000 in
set_option maxRecDepth 20000 in
theorem sorted26_raw {P : Program} (F : F_z2s P) (s : Sou) (hs : s.good) (ex : Bool) (l : List Ver) (hl : l.length ≤ 1000) (hok : ∀ v ∈ l, okV s v) (hU : Uq s l) (H : List AObj) :
  ACalls P F.id [.agg (souC s), .list ex 5 (vsC l)] H (fun r H' => ((l = [] ∧ r = .nil) ∨ r = .list false 5 (vsC (srtV s l))) ∧ H' = H) := by
 refine ACalls.lift0 (by simp [souC, AVal.closed, AVal.isPure]) (acalls_of_body F.has ?_)
 conv => whnf
 refine ⟨fun m ρ H1 => ∃ (i : Nat) (out : List Ver) (c : AVal), i + m = l.length ∧ out.Perm (l.take i) ∧ AscO (cmpVr s) out ∧ sOutC out i c ∧ H1 = [.arr 7 [souC s]] ∧ Sv 48 [(1, .list ex 5 (vsC l)), (2, .ptr 0 1 0 0), (5, c), (6, .int .i64 i)] ρ, l.length, [], ?_, ?_⟩
 ·exact ⟨0, [], .nil, by omega, .refl _, .nil, .inl ⟨rfl, rfl, rfl⟩, rfl, Sv.intro rfl ⟨rfl, rfl, rfl, rfl, trivial⟩⟩
 rintro m ρ H1 ⟨i, out, c, hi, hp, ha, hc, rfl, d, rfl⟩
 rcases hc with ⟨rfl, rfl, rfl⟩ | rfl
 ·(conv => whnf); refine recA (fun hlt => ?_) (fun hlt => ?_)
  ·simp [vsC_length] at hlt
   have hx : l[0]? = some l[0] := List.getElem?_eq_getElem hlt
   generalize l[0] = x at hx
   have hTx : l.take (0 + 1) = l.take 0 ++ [x] := take_snoc hx
   conv => whnf
   refine ⟨fun m2 ρ H1 => H1 = [.arr 7 [souC s]] ∧ Sv 48 [(1, .list ex 5 (vsC l)), (2, .ptr 0 1 0 0), (5, .nil), (6, .int .i64 (0 : Nat)), (7, .int .i64 0)] ρ, 0, [], ?_, ?_⟩
   ·exact ⟨rfl, Sv.intro rfl ⟨rfl, rfl, rfl, rfl, rfl, trivial⟩⟩
   rintro m2 ρ H1 ⟨rfl, d, rfl⟩
   (conv => whnf); refine And.intro (⟨rfl, rfl⟩) ?_
   (conv => whnf); refine And.intro (by omega) ?_
   (conv => whnf); refine recO (vsC_at hx) ?_
   (conv => whnf); refine And.intro (by decide) ?_
   (conv => whnf); refine And.intro (⟨roomMul (by simp) (by omega), roomB_le (by simp)⟩) ?_
   repeat ((conv => whnf); refine And.intro rfl ?_)
   conv => whnf
   have hA : ∀ a, ([] : List Ver).getLast? = some a → ¬ cmpVr s x a < 0 := fun a h => by simp at h
   have hB : ∀ b ∈ ([] : List Ver), cmpVr s x b < 0 := fun b h => by cases h
   refine ⟨m - 1, by omega, Gp.first 1 [.arr 7 [souC s]] rfl rfl (by rw [List.all_cons, pureS]; rfl) rfl ?_ fun ρ1 h => ⟨0 + 1, [x], .list false 5 (vsC [x]), by omega, by rw [hTx]; exact .refl _, List.pairwise_singleton _ _, .inr rfl, rfl, h⟩⟩
   exact ⟨.closed (.list ex 5 (vsC l)) rfl, .keepP 0 1 0 0 0 rfl, pubFxI (es := vsC [x]) (id := 1) (by simp) rfl rfl rfl rfl (pureEs_vsC _), pub_int (wrapI _ (by omega) (by omega)), trivial⟩
  ·simp [vsC_length] at hlt
   conv => whnf
   exact ⟨_, .closed _ rfl, .inl ⟨hlt, rfl⟩⟩
 ·(conv => whnf); refine recA (fun hlt => ?_) (fun hlt => ?_)
  ·simp [vsC_length] at hlt
   have hx : l[i]? = some l[i] := List.getElem?_eq_getElem hlt
   have hxo := hok _ (List.getElem_mem hlt)
   generalize l[i] = x at hx hxo
   have hTx : l.take (i + 1) = l.take i ++ [x] := take_snoc hx
   have hol : out.length = i := by rw [hp.length_eq, List.length_take]; omega
   have hoo : ∀ v ∈ out, okV s v := fun v hv => hok v (List.mem_of_mem_take (hp.mem_iff.1 hv))
   conv => whnf
   refine ⟨fun m2 ρ H1 => ∃ k : Nat, k = m2 ∧ k ≤ out.length ∧ (∀ b ∈ out.drop k, cmpVr s x b < 0) ∧ H1 = [.arr 7 [souC s]] ∧ Sv 48 [(1, .list ex 5 (vsC l)), (2, .ptr 0 1 0 0), (5, .list false 5 (vsC out)), (6, .int .i64 i), (7, .int .i64 k)] ρ, out.length, [], ?_, ?_⟩
   ·exact ⟨out.length, rfl, Nat.le_refl _, (fun b hb => by rw [List.drop_length] at hb; cases hb), rfl, Sv.intro rfl ⟨rfl, rfl, rfl, rfl, intEq (by rw [vsC_length]), trivial⟩⟩
   rintro m2 ρ H1 ⟨k, rfl, hk, hB, rfl, d, rfl⟩
   obtain ⟨A, B, rfl, rfl⟩ : ∃ A B, out = A ++ B ∧ k = A.length := ⟨out.take k, out.drop k, (List.take_append_drop ..).symm, by rw [List.length_take]; omega⟩
   rw [List.drop_left] at hB
   have e1 : List.take ((A.length : Nat) : Int).toNat (vsC (A ++ B)) = vsC A := by rw [Int.toNat_natCast, vsC_append, ← vsC_length A, List.take_left]
   have e2 : List.drop ((A.length : Nat) : Int).toNat (List.take (vsC (A ++ B)).length (vsC (A ++ B))) = vsC B := by rw [Int.toNat_natCast, List.take_length, vsC_append, ← vsC_length A, List.drop_left]
   rcases A with _ | ⟨a, A⟩
   ·have hA : ∀ a, ([] : List Ver).getLast? = some a → ¬ cmpVr s x a < 0 := fun a h => by simp at h
    (conv => whnf); refine And.intro (⟨rfl, by decide, by simp⟩) ?_
    conv => whnf
    rw [e1]
    (conv => whnf); refine And.intro (by omega) ?_
    (conv => whnf); refine recO (vsC_at hx) ?_
    (conv => whnf); refine And.intro (⟨by omega, by rw [vsC_length]; simp <;> omega⟩) ?_
    conv => whnf
    rw [e2]
    rcases B with _ | ⟨b, B⟩
    ·(conv => whnf); refine And.intro (⟨roomMul (by simp [vsC] at hol ⊢ <;> omega) (by omega), roomB_le (by simp [vsC] at hol ⊢ <;> omega), .inl (by simp)⟩) ?_
     repeat ((conv => whnf); refine And.intro rfl ?_)
     conv => whnf
     refine ⟨m - 1, by omega, Gp.first 1 [.arr 7 [souC s]] rfl rfl (by rw [List.all_cons, pureS]; rfl) rfl ?_ fun ρ1 h => ⟨i + 1, nilV ++ x :: nilV, .list false 5 (vsC (nilV ++ x :: nilV)), by omega, by rw [hTx]; exact put_perm hp, put_asc ha hA hB, .inr rfl, rfl, h⟩⟩
     exact ⟨.closed (.list ex 5 (vsC l)) rfl, .keepP 0 1 0 0 0 rfl, pubFxI (es := vsC (nilV ++ x :: nilV)) (id := 1) (by simp) rfl (by simp [vsC, verC, List.take_of_length_le]) (by simp [vsC]) (by simp [vsC]) (pureEs_vsC _), pub_int (wrapI _ (by omega) (by omega)), trivial⟩
    ·(conv => whnf); refine And.intro (⟨roomMul (by simp [vsC] at hol ⊢ <;> omega) (by omega), roomB_le (by simp [vsC] at hol ⊢ <;> omega), .inl (by simp [vsC])⟩) ?_
     (conv => whnf); refine recT (Nat.beq_refl _) ?_
     (conv => whnf); refine And.intro (⟨roomMul (by simp [vsC] at hol ⊢ <;> omega) (by omega), roomB_le (by simp [vsC] at hol ⊢ <;> omega), .inl (by simp)⟩) ?_
     repeat ((conv => whnf); refine And.intro rfl ?_)
     conv => whnf
     refine ⟨m - 1, by omega, Gp.first 1 [.arr 7 [souC s]] rfl rfl (by rw [List.all_cons, pureS]; rfl) rfl ?_ fun ρ1 h => ⟨i + 1, nilV ++ x :: (b::B), .list false 5 (vsC (nilV ++ x :: (b::B))), by omega, by rw [hTx]; exact put_perm hp, put_asc ha hA hB, .inr rfl, rfl, h⟩⟩
     exact ⟨.closed (.list ex 5 (vsC l)) rfl, .keepP 0 1 0 0 0 rfl, pubFxI (es := vsC (nilV ++ x :: (b::B))) (id := 2) (by simp) rfl (by simp [vsC, verC, List.take_of_length_le]) (by simp [vsC]) (by simp [vsC]) (pureEs_vsC _), pub_int (wrapI _ (by omega) (by omega)), trivial⟩
   ·obtain ⟨z, hz⟩ : ∃ z, (a :: A).getLast? = some z := ⟨_, List.getLast?_eq_some_getLast (by simp)⟩
    have hzm : z ∈ (a :: A) ++ B := List.mem_append_left _ (List.mem_of_getLast? hz)
    have hzo := hoo z hzm
    have hsp : (a :: A) ++ B = (a :: A).dropLast ++ (z :: B) := by
     have hzl : (a :: A).getLast (by simp) = z := by rw [List.getLast?_eq_some_getLast (by simp)] at hz; exact Option.some.inj hz
     have e := List.dropLast_concat_getLast (l := a :: A) (by simp)
     rw [hzl] at e
     refine (congrArg (fun y => y ++ B) e).symm.trans ?_
     show ((a :: A).dropLast ++ [z]) ++ B = _
     rw [List.append_assoc]; rfl
    have hdl : (a :: A).dropLast.length = A.length := by simp
    have hlA : (a :: A).length = A.length + 1 := rfl
    have hlt2 : (a :: A).length ≤ 1000 := by simp at hol ⊢; omega
    have ew : IntKind.i64.wrap (((a :: A).length : Int) - 1) = (((a :: A).length - 1 : Nat) : Int) := by rw [wrapI _ (by omega) (by omega)]; omega
    have hidx : (vsC ((a :: A) ++ B))[(IntKind.i64.wrap (((a :: A).length : Int) - 1)).toNat]? = some (verC z) := by rw [ew, Int.toNat_natCast]; exact vsC_at (getLast_at rfl hz)
    (conv => whnf); refine recT (by simp <;> omega) ?_
    (conv => whnf); refine And.intro (by omega) ?_
    (conv => whnf); refine recO (vsC_at hx) ?_
    (conv => whnf); refine And.intro (by rw [ew]; omega) ?_
    (conv => whnf); refine recO (hidx) ?_
    (conv => whnf); refine ⟨_, before_spec F.z2o s hs x z hxo hzo _, ?_⟩
    repeat ((conv => whnf); refine And.intro rfl ?_)
    (conv => whnf); refine recA (fun hb => ?_) (fun hb => ?_)
    ·replace hb : decide (cmpVr s x z < 0) = true := hb
     conv => whnf
     refine ⟨A.length, by omega, Gp.keep rfl ?_ fun ρ1 h => ⟨A.length, rfl, by simp; omega, fun b hb2 => ?_, rfl, h⟩⟩
     ·exact ⟨rfl, rfl, rfl, rfl, intEq ew, trivial⟩
     ·rw [hsp, ← hdl, List.drop_left] at hb2
      rcases List.mem_cons.1 hb2 with rfl | hb2
      ·exact of_decide_eq_true hb
      ·exact hB b hb2
    ·replace hb : decide (cmpVr s x z < 0) = false := hb
     have hA : ∀ y, (a :: A).getLast? = some y → ¬ cmpVr s x y < 0 := fun y hy => by
      rw [hz] at hy; cases hy
      exact of_decide_eq_false hb
     (conv => whnf); refine And.intro (⟨rfl, by omega, by rw [vsC_length]; simp <;> omega⟩) ?_
     conv => whnf
     rw [e1]
     (conv => whnf); refine And.intro (by omega) ?_
     (conv => whnf); refine recO (vsC_at hx) ?_
     (conv => whnf); refine And.intro (⟨by omega, by rw [vsC_length]; simp <;> omega⟩) ?_
     conv => whnf
     rw [e2]
     rcases B with _ | ⟨b, B⟩
     ·(conv => whnf); refine And.intro (⟨roomMul (by simp [vsC] at hol ⊢ <;> omega) (by omega), roomB_le (by simp [vsC] at hol ⊢ <;> omega), .inl (by simp)⟩) ?_
      repeat ((conv => whnf); refine And.intro rfl ?_)
      conv => whnf
      refine ⟨m - 1, by omega, Gp.first 1 [.arr 7 [souC s]] rfl rfl (by rw [List.all_cons, pureS]; rfl) rfl ?_ fun ρ1 h => ⟨i + 1, (a::A) ++ x :: nilV, .list false 5 (vsC ((a::A) ++ x :: nilV)), by omega, by rw [hTx]; exact put_perm hp, put_asc ha hA hB, .inr rfl, rfl, h⟩⟩
      exact ⟨.closed (.list ex 5 (vsC l)) rfl, .keepP 0 1 0 0 0 rfl, pubFxI (es := vsC ((a::A) ++ x :: nilV)) (id := 1) (by simp) rfl (by simp [vsC, verC, List.take_of_length_le]) (by simp [vsC]) (by simp [vsC]) (pureEs_vsC _), pub_int (wrapI _ (by omega) (by omega)), trivial⟩
     ·(conv => whnf); refine And.intro (⟨roomMul (by simp [vsC] at hol ⊢ <;> omega) (by omega), roomB_le (by simp [vsC] at hol ⊢ <;> omega), .inl (by simp [vsC])⟩) ?_
      (conv => whnf); refine recT (Nat.beq_refl _) ?_
      (conv => whnf); refine And.intro (⟨roomMul (by simp [vsC] at hol ⊢ <;> omega) (by omega), roomB_le (by simp [vsC] at hol ⊢ <;> omega), .inl (by simp)⟩) ?_
      repeat ((conv => whnf); refine And.intro rfl ?_)
      conv => whnf
      refine ⟨m - 1, by omega, Gp.first 1 [.arr 7 [souC s]] rfl rfl (by rw [List.all_cons, pureS]; rfl) rfl ?_ fun ρ1 h => ⟨i + 1, (a::A) ++ x :: (b::B), .list false 5 (vsC ((a::A) ++ x :: (b::B))), by omega, by rw [hTx]; exact put_perm hp, put_asc ha hA hB, .inr rfl, rfl, h⟩⟩
      exact ⟨.closed (.list ex 5 (vsC l)) rfl, .keepP 0 1 0 0 0 rfl, pubFxI (es := vsC ((a::A) ++ x :: (b::B))) (id := 2) (by simp) rfl (by simp [vsC, verC, List.take_of_length_le]) (by simp [vsC]) (by simp [vsC]) (pureEs_vsC _), pub_int (wrapI _ (by omega) (by omega)), trivial⟩
  ·simp [vsC_length] at hlt
   rw [List.take_of_length_le (by omega)] at hp
   have hZ : out = srtV s l := isort_eq (orders_V s) hp ha hU.zz
   conv => whnf
   rw [hZ]
   exact ⟨_, .closed _ rfl, .inr rfl⟩

end Go.AW

namespace Go.AW
variable [Draws]
attribute [local irreducible] ACalls
theorem sorted26_spec {P : Program} (F : F_z2s P) (s : Sou) (hs : s.good) (ex : Bool) (l : List Ver) (hl : l.length ≤ 1000) (hok : ∀ v ∈ l, okV s v) (hU : Uq s l) (H : List AObj) :
  ACalls P F.id [.agg (souC s), .list ex 5 (vsC l)] H (fun r H' => r = .list false 5 (vsC (srtV s l)) ∧ H' = H) :=
 (sorted26_raw F s hs ex l hl hok hU H).weakR (by
  rintro r H' ⟨⟨rfl, rfl⟩ | rfl, rfl⟩
  ·exact ⟨_, .nil false 5, rfl, rfl⟩
  ·exact ⟨_, .refl _, rfl, rfl⟩)

theorem couL_uq (s : Sou) (l : List Del) : Uq s (couL s 0 l) := by
 intro x hx y hy h
 obtain ⟨_, _, _, h1, h2⟩ := cmpVr_zero.1 h
 obtain ⟨k1, d1, e1, m1⟩ := couL_mem hx
 obtain ⟨k2, d2, e2, m2⟩ := couL_mem hy
 obtain ⟨_, _, f1, j1, _, p1, g1⟩ := couR_mem m1
 obtain ⟨_, _, f2, j2, _, p2, g2⟩ := couR_mem m2
 have hk : k1 = k2 := by omega
 subst hk
 rw [e1] at e2; cases e2
 have hj : j1 = j2 := by omega
 subst hj
 rw [g1] at g2
 obtain ⟨rx, fx, px⟩ := x
 obtain ⟨ry, fy, py⟩ := y
 simp only [Option.some.injEq] at g2
 simp only [] at h1 h2
 subst h1 h2 g2
 rfl

set_option maxRecDepth 20000 in
theorem versions26_spec {P : Program} (F : F_z2t P) (s : Sou) (hs : s.good) (l : List Del) (hl : l.length ≤ 1000) (h24 : (couL s 0 l).length ≤ 1000) (hok : ∀ x ∈ l, x.ok) (H : List AObj) :
  ACalls P F.id [.agg (ledC l), .agg (souC s)] H (fun r H' => r = .list false 5 (vsC (srtV s (couL s 0 l))) ∧ H' = H) := by
 refine ACalls.pure (by simp [souC, ledC, AVal.closed, AVal.isPure]) (acalls_of_body F.has ?_)
 (conv => whnf); refine ⟨_, counted_spec F.z2w s hs.ok l hl hok _, ?_⟩
 (conv => whnf); refine ⟨_, sorted26_spec F.z2s s hs false (couL s 0 l) h24 (fun v hv => couL_fits hv) (couL_uq s l) _, ?_⟩
 repeat ((conv => whnf); refine And.intro rfl ?_)
 conv => whnf
 exact .closed _ rfl

set_option maxRecDepth 20000 in
theorem sameEnt_spec {P : Program} (F : F_z26 P) (e1 e2 : Bool) (a b : List Ent) (ha : a.length ≤ 100000) (hr : ∀ e ∈ a, e.row.length ≤ 1000) (H : List AObj) :
  ACalls P F.id [.list e1 2 (eC a), .list e2 2 (eC b)] H (fun r H' => r = .bool (eqD a b) ∧ H' = H) := by
 refine ACalls.pure (by simp [AVal.closed, AVal.isPure]) (acalls_of_body F.has ?_)
 (conv => whnf); refine recA (fun hn => ?_) (fun hn => ?_)
 ·simp [eC_length] at hn
  conv => whnf
  exact pubB (eqD_false fun h => hn (by rw [h])).symm
 simp [eC_length] at hn
 conv => whnf
 refine ⟨fun m ρ H1 => ∃ k : Nat, k + m = a.length ∧ (a = b ↔ a.drop k = b.drop k) ∧ H1 = [] ∧ Sv 42 [(0, .list e1 2 (eC a)), (1, .list e2 2 (eC b)), (5, .int .i64 k)] ρ, a.length, [], ?_, ?_⟩
 ·exact ⟨0, by omega, .rfl, rfl, Sv.intro rfl ⟨rfl, rfl, rfl, trivial⟩⟩
 rintro m ρ H1 ⟨k, hk, hR, rfl, d, rfl⟩
 (conv => whnf); refine recA (fun hlt => ?_) (fun hlt => ?_)
 ·simp [eC_length] at hlt
  have hx : a[k]? = some a[k] := List.getElem?_eq_getElem hlt
  have hy : b[k]? = some b[k] := List.getElem?_eq_getElem (by omega)
  have hrl := hr _ (List.getElem_mem hlt)
  generalize a[k] = x at hx hrl
  generalize b[k]'_ = y at hy
  rw [drop_cons hx, drop_cons hy] at hR
  (conv => whnf); refine And.intro (by omega) ?_
  (conv => whnf); refine recO (eC_at hx) ?_
  (conv => whnf); refine And.intro (by omega) ?_
  (conv => whnf); refine recO (eC_at hy) ?_
  (conv => whnf); refine recA (fun h1 => ?_) (fun h1 => ?_)
  ·replace h1 : (!(x.cnt == y.cnt)) = true := h1
   repeat ((conv => whnf); refine And.intro rfl ?_)
   conv => whnf
   refine pubB (eqD_false fun h => ?_).symm
   have := List.cons.inj (hR.1 h)
   rw [this.1] at h1
   simp at h1
  ·replace h1 : (!(x.cnt == y.cnt)) = false := h1
   have h1' : x.cnt = y.cnt := by simpa using h1
   (conv => whnf); refine And.intro (by omega) ?_
   (conv => whnf); refine recO (eC_at hx) ?_
   (conv => whnf); refine And.intro (by omega) ?_
   (conv => whnf); refine recO (eC_at hy) ?_
   (conv => whnf); refine ⟨_, ref22_SameRow_spec F.z27 false false x.row y.row (by omega) _, ?_⟩
   repeat ((conv => whnf); refine And.intro rfl ?_)
   (conv => whnf); refine recA (fun h2 => ?_) (fun h2 => ?_)
   ·replace h2 : (!(eqD x.row y.row)) = true := h2
    conv => whnf
    refine pubB (eqD_false fun h => ?_).symm
    have := List.cons.inj (hR.1 h)
    rw [this.1, eqD_true rfl] at h2
    simp at h2
   ·replace h2 : (!(eqD x.row y.row)) = false := h2
    have h2' : x.row = y.row := by
     refine Classical.byContradiction fun h => ?_
     rw [eqD_false h] at h2
     simp at h2
    conv => whnf
    refine ⟨m - 1, by omega, Gp.none rfl ?_ fun ρ1 h => ⟨k + 1, by omega, ?_, rfl, h⟩⟩
    ·exact ⟨.closed (.list e1 2 (eC a)) rfl, .closed (.list e2 2 (eC b)) rfl, pub_int (wrapI _ (by omega) (by omega)), trivial⟩
    ·rw [hR]
     cases x; cases y
     simp only [] at h1' h2'
     subst h1' h2'
     exact ⟨fun h => (List.cons.inj h).2, fun h => by rw [h]⟩
 ·simp [eC_length] at hlt
  rw [List.drop_of_length_le (by omega), List.drop_of_length_le (by omega)] at hR
  conv => whnf
  exact pubB (eqD_true (hR.2 rfl)).symm

end Go.AW

namespace Go.AW
variable [Draws]
section
variable {P : Program} {C C' : Nat → Nat} {τ τ' : Nat → Option Loc} {H H' : List AObj} {w w' : World}
def Indep (a : AVal) : Prop := a.closed = true ∨ ∃ f vs, a = .fn f vs ∧ vs.all AVal.isPure = true

theorem Rel.indep {d : AVal} {v : Value} (h : Rel C w τ H d v) (hd : Indep d) (hle : ∀ b, C b ≤ C' b) (hc : ∀ b i, i < C b → w'.cell? ⟨b, i, none⟩ = w.cell? ⟨b, i, none⟩) : Rel C' w' τ' H' d v := by
 rcases hd with hd | ⟨f, vs, rfl, hp⟩
 ·exact h.closed hd hle hc
 ·cases h with
  | rd h => exact .rd (h.mono hle hc)
  | fn _ _ ws hl hr => exact .fn _ _ _ hl fun i c v h1 h2 => .rd (((hr i c v h1 h2).pure (List.all_eq_true.1 hp c (List.mem_of_getElem? h1))).mono hle hc)

theorem ACalls.liftF {f : FuncId} {args : List AVal} {Q0 Q : AVal → List AObj → Prop} (ha : ∀ a ∈ args, Indep a) (h : ACalls P f args [] Q0)
  (hq : ∀ r H1, Q0 r H1 → ∃ ids r' Hn, Pub H1 H.length ids r r' ∧ ids.Nodup ∧ ids.length = Hn.length ∧ (∀ (k id : Nat), ids[k]? = some id → Hn[k]? = H1[id]? ∧ ∃ esz es, H1[id]? = some (.arr esz es) ∧ pureEs es = true) ∧ Q r' (H ++ Hn)) :
  ACalls P f args H Q := by
 intro C τ w vs hw hl hr
 have hw0 : WF C τ [] w := ⟨fun id o h => by simp at h, fun id o h => by simp at h, fun id o l h => by simp at h, fun id l h => by simp at h, fun i j li lj h => by simp at h, hw.lt⟩
 have hr0 : ∀ (i : Nat) (a : AVal) (v : Value), args[i]? = some a → vs[i]? = some v → Rel C w τ [] a v := fun i a v h1 h2 =>
  (hr i a v h1 h2).indep (ha a (List.mem_of_getElem? h1)) (fun _ => Nat.le_refl _) (fun _ _ _ => rfl)
 have hc := h C τ w vs hw0 hl hr0
 have fin : ∀ (e : Ending) (w' : World), (∃ v r C' τ' H', e = .returned v ∧ Q0 r H' ∧ Rel C' w' τ' H' r v ∧ St w (PrCall τ [] w) C' τ' H' w' ∧ Step C τ [] w C' τ' H' w') →
   ∃ v r C' τ' H', e = .returned v ∧ Q r H' ∧ Rel C' w' τ' H' r v ∧ St w (PrCall τ H w) C' τ' H' w' ∧ Step C τ H w C' τ' H' w' := by
  rintro e w' ⟨v, r, C1, τ1, H1, he, hq0, hrel, hst, hstep⟩
  obtain ⟨ids, r', Hn, hpub, hnd, hlen, hkeep, hQ⟩ := hq r H1 hq0
  have prall : ∀ b, b < w.heap.size → PrCall τ [] w b := fun b hb => ⟨hb, by rintro ⟨id, l, h, _⟩; simp at h⟩
  have hheap : ∀ b, b < w.heap.size → w'.heap[b]? = w.heap[b]? := fun b hb => hst.fr.prot b (prall b hb)
  have hnew : ∀ id l, id < H1.length → τ1 id = some l → w.heap.size ≤ l.b := fun id l h1 h2 => by
   rcases Nat.lt_or_ge l.b w.heap.size with h3 | h3
   ·exact absurd (prall _ h3) (hst.own _ ⟨id, l, h1, h2, rfl⟩)
   ·exact h3
  let τ2 : Nat → Option Loc := fun i => if i < H.length then τ i else match ids[i - H.length]? with
   | some id => τ1 id
   | none => none
  have hτ : ∀ i, i < H.length → τ2 i = τ i := fun i hi => by simp only [τ2, if_pos hi]
  have hτn : ∀ k id, ids[k]? = some id → τ2 (H.length + k) = τ1 id := fun k id hk => by
   simp only [τ2, if_neg (by omega : ¬ H.length + k < H.length), Nat.add_sub_cancel_left, hk]
  have hidlt : ∀ k id, ids[k]? = some id → id < H1.length := fun k id hk => by
   obtain ⟨_, esz, es, h1, _⟩ := hkeep k id hk
   exact (List.getElem?_eq_some_iff.1 h1).1
  have getn : ∀ k, (H ++ Hn)[H.length + k]? = Hn[k]? := fun k => by rw [List.getElem?_append_right (by omega), Nat.add_sub_cancel_left]
  have hC2 : ∀ b, b < w.heap.size → commit C1 τ1 H1 ids b = C b := fun b hb => by
   rw [commit_other fun id l h1 _ h2 h3 => by have := hnew id l h1 h2; omega]
   exact hstep.old b hb
  have step : Step C τ H w (commit C1 τ1 H1 ids) τ2 (H ++ Hn) w' := by
   refine ⟨fun b => Nat.le_trans (hstep.le b) (commit_le hst.wf b), fun b i hi => hstep.cell b i hi, fun id o ho => ?_, hstep.grow, hC2⟩
   have hi := (List.getElem?_eq_some_iff.1 ho).1
   exact ⟨o, by rw [List.getElem?_append_left hi]; exact ho, by rw [hτ id hi]; exact o.after_refl _⟩
  
  have split : ∀ i, i < (H ++ Hn).length → i < H.length ∨ ∃ k id, i = H.length + k ∧ ids[k]? = some id := fun i hi => by
   rcases Nat.lt_or_ge i H.length with h1 | h1
   ·exact .inl h1
   ·have hk : i - H.length < ids.length := by rw [List.length_append] at hi; omega
    exact .inr ⟨i - H.length, ids[i - H.length], by omega, List.getElem?_eq_getElem hk⟩
  refine ⟨v, r', commit C1 τ1 H1 ids, τ2, H ++ Hn, he, hQ, pub_rel hst.wf (fun k id hk => ⟨fun esz es he => ⟨es, by rw [getn, (hkeep k id hk).1]; exact he, rfl⟩, hτn k id hk⟩) hpub hrel, ⟨⟨?_, ?_, ?_, ?_, ?_, ?_⟩, ?_, ?_, ?_⟩, step⟩
  ·intro i o ho
   rcases split i (List.getElem?_eq_some_iff.1 ho).1 with h1 | ⟨k, id, rfl, hk⟩
   ·rw [List.getElem?_append_left h1] at ho; exact hw.ok i o ho
   ·rw [getn, (hkeep k id hk).1] at ho; exact hst.wf.ok id o ho
  ·intro i o ho ht
   rcases split i (List.getElem?_eq_some_iff.1 ho).1 with h1 | ⟨k, id, rfl, hk⟩
   ·rw [List.getElem?_append_left h1] at ho; rw [hτ i h1] at ht; exact hw.virt i o ho ht
   ·rw [getn, (hkeep k id hk).1] at ho; rw [hτn k id hk] at ht; exact hst.wf.virt id o ho ht
  ·intro i o l ho ht
   rcases split i (List.getElem?_eq_some_iff.1 ho).1 with h1 | ⟨k, id, rfl, hk⟩
   ·rw [List.getElem?_append_left h1] at ho; rw [hτ i h1] at ht
    exact (hw.objs i o l ho ht).mono step (hheap _ (hw.locLt h1 ht))
   ·obtain ⟨g1, esz, es, g2, g3⟩ := hkeep k id hk
    rw [getn, g1, g2] at ho; cases ho
    rw [hτn k id hk] at ht
    obtain ⟨a1, cells, elem, fz, a2, a3, a4, a5⟩ := hst.wf.objs id _ l g2 ht
    refine ⟨a1, cells, elem, fz, a2, a3, a4, fun i j e d hi hd => ?_⟩
    obtain ⟨x, hx1, hx2⟩ := a5 i j e d hi hd
    exact ⟨x, hx1, .rd ((hx2.pure (pureEs_get g3 hi hd)).mono (commit_le hst.wf) (fun _ _ _ => rfl))⟩
  ·intro i l hi ht
   rcases split i hi with h1 | ⟨k, id, rfl, hk⟩
   ·rw [hτ i h1] at ht
    rw [hC2 _ (hw.locLt h1 ht)]; exact hw.comm i l h1 ht
   ·rw [hτn k id hk] at ht
    have hlt := hidlt k id hk
    rw [commit_other fun id' l' h1 h2 h3 h4 => h2 (by
     have := hst.wf.inj id' id l' l h1 hlt h3 ht h4
     subst this; exact List.mem_of_getElem? hk)]
    exact hst.wf.comm id l hlt ht
  ·intro i j li lj hi hj hti htj hb
   rcases split i hi with h1 | ⟨k, id, rfl, hk⟩ <;> rcases split j hj with h2 | ⟨k', id', rfl, hk'⟩
   ·rw [hτ i h1] at hti; rw [hτ j h2] at htj; exact hw.inj i j li lj h1 h2 hti htj hb
   ·rw [hτ i h1] at hti; rw [hτn k' id' hk'] at htj
    have := hw.locLt h1 hti; have := hnew id' lj (hidlt k' id' hk') htj; omega
   ·rw [hτn k id hk] at hti; rw [hτ j h2] at htj
    have := hw.locLt h2 htj; have := hnew id li (hidlt k id hk) hti; omega
   ·rw [hτn k id hk] at hti; rw [hτn k' id' hk'] at htj
    have e := hst.wf.inj id id' li lj (hidlt k id hk) (hidlt k' id' hk') hti htj hb
    subst e
    have hki := (List.getElem?_eq_some_iff.1 hk)
    have hki' := (List.getElem?_eq_some_iff.1 hk')
    have hne := List.pairwise_iff_getElem.1 hnd
    rcases Nat.lt_trichotomy k k' with h3 | h3 | h3
    ·exact absurd (hki.2.trans hki'.2.symm) (hne k k' hki.1 hki'.1 h3)
    ·omega
    ·exact absurd (hki'.2.trans hki.2.symm) (hne k' k hki'.1 hki.1 h3)
  ·intro b hb
   by_cases h1 : ∃ id l, id < H1.length ∧ τ1 id = some l ∧ l.b = b
   ·obtain ⟨id, l, h1, h2, rfl⟩ := h1
    exact hst.wf.locLt h1 h2
   ·rw [commit_other fun id l g1 _ g2 g3 => h1 ⟨id, l, g1, g2, g3⟩] at hb
    exact hst.wf.lt b hb
  ·exact ⟨hst.fr.os, hst.fr.tape, hst.fr.output, hst.fr.size, fun b hb => hheap b hb.1, hst.fr.drawn⟩
  ·rintro b ⟨i, l, hi, ht, rfl⟩ hp
   rcases split i hi with h1 | ⟨k, id, rfl, hk⟩
   ·rw [hτ i h1] at ht; exact hp.2 ⟨i, l, h1, ht, rfl⟩
   ·rw [hτn k id hk] at ht
    have := hnew id l (hidlt k id hk) ht; have := hp.1; omega
  ·exact fun b hb => hb.1
 unfold CallsX at hc ⊢
 split at hc
 ·exact Calls.mono hc fun e w' hh => fin e w' hh
 ·exact fin _ _ hc
 ·exact hc

theorem ACalls.lift0F {f : FuncId} {args : List AVal} {R : AVal → Prop} (ha : ∀ a ∈ args, Indep a) (h : ACalls P f args [] (fun r H1 => ∃ r', Pub H1 0 [] r r' ∧ R r')) :
  ACalls P f args H (fun r H' => R r ∧ H' = H) :=
 h.liftF ha fun r H1 ⟨r', hp, hR⟩ => ⟨[], r', [], hp.any, List.nodup_nil, rfl, fun k id h => by simp at h, hR, by simp⟩

theorem ACalls.pureF {f : FuncId} {args : List AVal} {R : AVal} (ha : ∀ a ∈ args, Indep a) (h : ACalls P f args [] (fun r H1 => Pub H1 0 [] r R)) :
  ACalls P f args H (fun r H' => r = R ∧ H' = H) :=
 ACalls.lift0F (R := fun r => r = R) ha (h.mono fun _ _ hp => ⟨R, hp, rfl⟩)

end
end Go.AW

namespace Go.AW
variable [Draws]
attribute [local irreducible] ACalls
set_option maxRecDepth 20000 in
theorem hcheck_spec {P : Program} (F : F_z0n P) (s : Sou) (hs : s.good) (ex : Bool) (rows : List Ent) (hb : bagB rows = 0) (hr : ∀ e ∈ rows, e.row.length ≤ 1000 ∧ chkRow (hcols s) e.row = 0) (H : List AObj) :
  ACalls P F.id [.agg (souC s), .list ex 2 (eC rows)] H (fun r H' => r = .tuple [.int .i64 s.cols.length, .int .i64 0] ∧ H' = H) := by
 have hv : ∀ H, ACalls P F.z01.id [.list ex 2 (eC rows)] H (fun r H' => r = .int .i64 0 ∧ H' = H) := fun H => by have := bag_Validate_spec F.z01 ex rows H; rwa [hb] at this
 have hlen := (bagB_iff rows).1 hb |>.1
 refine ACalls.pure (by simp [souC, AVal.closed, AVal.isPure]) (acalls_of_body F.has ?_)
 (conv => whnf); refine ACalls.use (hColumns_spec F.z0h s hs _) ?_
 (conv => whnf); refine ACalls.use (hv _) ?_
 conv => whnf
 refine ⟨fun m ρ H1 => ∃ k : Nat, k + m = rows.length ∧ H1 = [.arr 7 [souC s]] ∧ Sv 39 [(1, .list ex 2 (eC rows)), (6, .list false 3 (cC (hcols s))), (7, .int .i64 0), (8, .int .i64 k)] ρ, rows.length, [], ?_, ?_⟩
 ·exact ⟨0, by omega, rfl, Sv.intro rfl ⟨rfl, rfl, rfl, rfl, trivial⟩⟩
 rintro m ρ H1 ⟨k, hk, rfl, d, rfl⟩
 (conv => whnf); refine recA (fun hlt => ?_) (fun hlt => ?_)
 ·simp [eC_length] at hlt
  have hx : rows[k]? = some rows[k] := List.getElem?_eq_getElem hlt
  obtain ⟨h1, h2⟩ := hr _ (List.getElem_mem hlt)
  generalize rows[k] = x at hx h1 h2
  have hc : ∀ H, ACalls P F.z0v.id [.list false 3 (cC (hcols s)), .list false 3 (vC x.row)] H (fun r H' => r = .int .i64 0 ∧ H' = H) := fun H => by have := schema_CheckRow_spec F.z0v false false (hcols s) x.row (by omega) H; rwa [h2] at this
  (conv => whnf); refine And.intro (by omega) ?_
  (conv => whnf); refine recO (eC_at hx) ?_
  (conv => whnf); refine ACalls.use (hc _) ?_
  conv => whnf
  refine ⟨m - 1, by omega, Gp.keep rfl ?_ fun ρ1 h => ⟨k + 1, by omega, rfl, h⟩⟩
  exact ⟨rfl, rfl, rfl, intEq (wrapI _ (by omega) (by omega)), trivial⟩
 ·simp [eC_length] at hlt
  have e : IntKind.i64.wrap (((cC (hcols s)).length : Int) - 2) = s.cols.length := by
   have := hs.ten
   rw [cC_length, hcols, List.length_append]
   show IntKind.i64.wrap (((s.cols.length + 2 : Nat) : Int) - 2) = _
   rw [wrapI _ (by omega) (by omega)]; omega
  conv => whnf
  rw [e]
  exact pub2 (.closed _ rfl) (.closed _ rfl)

def restV (n : Nat) (p : V → V → Bool) : List Ent → List Ent
 | [] => []
 | e :: l => if p (e.row.getD n zV) (e.row.getD (n + 1) zV) then ⟨e.row.take n, e.cnt⟩ :: restV n p l else restV n p l

theorem restV_len (n : Nat) (p : V → V → Bool) : ∀ l, (restV n p l).length ≤ l.length
 | [] => Nat.le_refl _
 | e :: l => by
  have := restV_len n p l
  rw [restV]
  split
  ·simp; omega
  ·simp; omega

set_option maxHeartbeats 1000000 in
set_option maxRecDepth 20000 in
theorem hrest_spec {P : Program} (F : F_z0p P) (hS : SortE P F.z00.z05.z1b.id F.z00.z05.z06.id) (ex : Bool) (rows : List Ent) (hl : rows.length ≤ 10000) (n : Nat) (hn : n ≤ 1000) (hr : ∀ e ∈ rows, e.row.length = n + 2)
  (g : FuncId) (caps : List AVal) (hcap : caps.all AVal.isPure = true) (p : V → V → Bool) (hg : ∀ (a b : V) (H : List AObj), ACalls P g ([.agg (valC a), .agg (valC b)] ++ caps) H (fun r H' => r = .bool (p a b) ∧ H' = H)) (H : List AObj) :
  ACalls P F.id [.list ex 2 (eC rows), .int .i64 n, .fn g caps] H (fun r H' => r = norR (restV n p rows) ∧ H' = H) := by
 have hfn : ∀ {H1 : List AObj} {m : Nat} {ids : List Nat}, Pub H1 m ids (.fn g caps) (.fn g caps) := fun {H1 m ids} => .fnc g caps caps rfl fun i v r h1 h2 => by
  rw [h1] at h2; cases h2
  exact .closed _ (AVal.closed_of_isPure (List.all_eq_true.1 hcap v (List.mem_of_getElem? h1)))
 refine ACalls.pureF (fun a ha => ?_) (acalls_of_body F.has ?_)
 ·rcases List.mem_cons.1 ha with rfl | ha
  ·exact .inl rfl
  rcases List.mem_cons.1 ha with rfl | ha
  ·exact .inl rfl
  ·rw [List.mem_singleton.1 ha]; exact .inr ⟨_, _, rfl, hcap⟩
 conv => whnf
 refine ⟨fun m ρ H1 => ∃ (k : Nat) (U : List Ent), k + m = rows.length ∧ U.length ≤ k ∧ U ++ restV n p (rows.drop k) = restV n p rows ∧ H1 = [.arr 2 (eC U)] ∧ Sv 45 [(1, .int .i64 n), (2, .fn g caps), (8, .sl 0 U.length 0 U.length), (11, .list ex 2 (eC rows)), (12, .int .i64 rows.length), (13, .int .i64 k)] ρ, rows.length, [(8, 2)], ?_, ?_⟩
 ·exact ⟨0, [], by omega, by simp, rfl, rfl, Sv.intro rfl ⟨rfl, rfl, rfl, rfl, intEq (by rw [eC_length]), rfl, trivial⟩⟩
 rintro m ρ H1 ⟨k, U, hk, hU, hR, rfl, d, rfl⟩
 (conv => whnf); refine recA (fun hlt => ?_) (fun hlt => ?_)
 ·simp at hlt
  have hx : rows[k]? = some rows[k] := List.getElem?_eq_getElem hlt
  have hrl := hr _ (List.getElem_mem hlt)
  generalize rows[k] = x at hx hrl
  rw [drop_cons hx, restV] at hR
  have en : IntKind.i64.wrap ((n : Int) + 1) = ((n + 1 : Nat) : Int) := by rw [wrapI _ (by omega) (by omega)]; omega
  have ek : IntKind.i64.wrap ((k : Int) + 1) = ((k + 1 : Nat) : Int) := by rw [wrapI _ (by omega) (by omega)]; omega
  have g1 : x.row[n]? = some (x.row.getD n zV) := by rw [List.getD_eq_getElem?_getD, List.getElem?_eq_getElem (by omega)]; rfl
  have g2 : x.row[n + 1]? = some (x.row.getD (n + 1) zV) := by rw [List.getD_eq_getElem?_getD, List.getElem?_eq_getElem (by omega)]; rfl
  (conv => whnf); refine And.intro (by omega) ?_
  (conv => whnf); refine recO (eC_at hx) ?_
  (conv => whnf); refine And.intro (by omega) ?_
  (conv => whnf); refine recO (vC_at g1) ?_
  (conv => whnf); refine And.intro (by rw [en]; omega) ?_
  (conv => whnf); refine recO ((show (vC x.row)[(IntKind.i64.wrap ((n : Int) + 1)).toNat]? = some (valC (x.row.getD (n + 1) zV)) from by rw [en, Int.toNat_natCast]; exact vC_at g2)) ?_
  (conv => whnf); refine ⟨_, hg _ _ _, ?_⟩
  repeat ((conv => whnf); refine And.intro rfl ?_)
  (conv => whnf); refine recA (fun hp => ?_) (fun hp => ?_)
  ·rw [if_pos (show p (x.row.getD n zV) (x.row.getD (n + 1) zV) = true from hp)] at hR
   have es : List.drop 0 (List.take (n : Int).toNat (vC x.row)) = vC (x.row.take n) := by rw [Int.toNat_natCast, List.drop_zero, vC, vC, List.map_take]
   (conv => whnf); refine And.intro (by rw [vC_length]; omega) ?_
   (conv => whnf); refine recT (by rw [eC_length]; exact Nat.beq_refl _) ?_
   (conv => whnf); refine And.intro (⟨roomMul (by simp; omega) (by omega), roomB_le (by simp; omega), rfl, by rw [eC_length]⟩) ?_
   repeat ((conv => whnf); refine And.intro rfl ?_)
   conv => whnf
   have hcn : eC U ++ [[AVal.list false 3 (List.drop 0 (List.take (n : Int).toNat (vC x.row))), .int .i64 x.cnt]] = eC (U ++ [⟨x.row.take n, x.cnt⟩]) := by rw [es, eC_append]; rfl
   have hl2 : (eC U ++ [[AVal.list false 3 (List.drop 0 (List.take (n : Int).toNat (vC x.row))), .int .i64 x.cnt]]).length = (U ++ [(⟨x.row.take n, x.cnt⟩ : Ent)]).length := by rw [hcn, eC_length]
   refine ⟨m - 1, by omega, Gp.first 1 [.arr 2 (eC U ++ [[AVal.list false 3 (List.drop 0 (List.take (n : Int).toNat (vC x.row))), .int .i64 x.cnt]])] rfl rfl (by rw [hcn]; simp [pureO, pureEs_eC]) rfl ?_ fun ρ1 h => ⟨k + 1, U ++ [⟨x.row.take n, x.cnt⟩], by omega, by simp; omega, by rw [← hR]; simp, by rw [hcn], h⟩⟩
   exact ⟨.closed _ rfl, hfn, pubSl (k := 0) rfl rfl hl2 hl2, .closed (.list ex 2 (eC rows)) rfl, .closed _ rfl, pub_int ek, trivial⟩
  ·rw [if_neg (by rw [show p (x.row.getD n zV) (x.row.getD (n + 1) zV) = false from hp]; simp)] at hR
   conv => whnf
   refine ⟨m - 1, by omega, Gp.first 1 [.arr 2 (eC U)] rfl rfl (by simp [pureO, pureEs_eC]) rfl ?_ fun ρ1 h => ⟨k + 1, U, by omega, by omega, hR, rfl, h⟩⟩
   exact ⟨.closed _ rfl, hfn, .keep 0 _ _ _ 0 rfl, .closed (.list ex 2 (eC rows)) rfl, .closed _ rfl, pub_int ek, trivial⟩
 ·simp at hlt
  rw [List.drop_of_length_le (by omega), restV, List.append_nil] at hR
  subst hR
  have hll := restV_len n p rows
  conv => whnf
  refine Ghost.none (n := 45) (live := [(8, .list false 2 (eC (restV n p rows)))]) rfl ⟨pubFI (by simp) rfl (eC_length _).symm (eC_length _).symm (pureEs_eC _), trivial⟩ ?_
  rintro ρ ⟨d, rfl⟩
  (conv => whnf); refine ACalls.use (bag_Normalize_spec F.z00 hS false (restV n p rows) (by omega) _) ?_
  unfold norR
  split
  ·conv => whnf
   exact pub2 (.closed _ rfl) (.closed _ rfl)
  ·rcases resR_cases (srtM (restV n p rows).length (restV n p rows)) with h | h
   all_goals
    rw [h]
    conv => whnf
    exact pub2 (.closed _ rfl) (.closed _ rfl)

end Go.AW

namespace Go.AW
variable [Draws]
attribute [local irreducible] ACalls
def openB (a b : V) : Bool := b.kind == 0

def atB (m : Int) (a b : V) : Bool := decide (a.num ≤ m) && (b.kind == 0 || decide (b.num > m))

theorem current1_spec {P : Program} (F : F_z0k P) (a b : V) (H : List AObj) :
  ACalls P F.id ([.agg (valC a), .agg (valC b)] ++ []) H (fun r H' => r = .bool (openB a b) ∧ H' = H) := by
 refine ACalls.pure rfl (acalls_of_body F.has ?_)
 conv => whnf
 exact pubB rfl

theorem at1_spec {P : Program} (F : F_z0g P) (m : Int) (a b : V) (H : List AObj) :
  ACalls P F.id ([.agg (valC a), .agg (valC b)] ++ [.cptr [.int .i64 m] 0]) H (fun r H' => r = .bool (atB m a b) ∧ H' = H) := by
 refine ACalls.pure rfl (acalls_of_body F.has ?_)
 (conv => whnf); refine recA (fun h1 => ?_) (fun h1 => ?_)
 ·(conv => whnf); refine recA (fun h2 => ?_) (fun h2 => ?_)
  ·conv => whnf
   refine pubB ?_
   replace h1 : decide (a.num ≤ m) = true := h1
   replace h2 : (b.kind == 0) = true := h2
   rw [atB, h1, h2]; rfl
  ·conv => whnf
   refine pubB ?_
   replace h1 : decide (a.num ≤ m) = true := h1
   replace h2 : (b.kind == 0) = false := h2
   rw [atB, h1, h2]; rfl
 ·conv => whnf
  refine pubB ?_
  replace h1 : decide (a.num ≤ m) = false := h1
  rw [atB, h1]; rfl

set_option maxRecDepth 20000 in
theorem current_spec {P : Program} (F : F_z0j P) (hS : SortE P F.z0p.z00.z05.z1b.id F.z0p.z00.z05.z06.id) (s : Sou) (hs : s.good) (ex : Bool) (rows : List Ent) (hb : bagB rows = 0) (hr : ∀ e ∈ rows, e.row.length = s.cols.length + 2 ∧ chkRow (hcols s) e.row = 0) (H : List AObj) :
  ACalls P F.id [.agg (souC s), .list ex 2 (eC rows)] H (fun r H' => r = norR (restV s.cols.length openB rows) ∧ H' = H) := by
 have hten := hs.ten
 have hlen := (bagB_iff rows).1 hb |>.1
 refine ACalls.pure (by simp [souC, AVal.closed, AVal.isPure]) (acalls_of_body F.has ?_)
 (conv => whnf); refine ACalls.use (hcheck_spec F.z0n s hs ex rows hb (fun e he => ⟨by have := (hr e he).1; omega, (hr e he).2⟩) _) ?_
 (conv => whnf); refine ACalls.use (hrest_spec F.z0p hS ex rows (by omega) s.cols.length (by omega) (fun e he => (hr e he).1) F.z0k.id [] rfl openB (fun a b H => current1_spec F.z0k a b H) _) ?_
 unfold norR
 split
 ·conv => whnf
  exact pub2 (.closed _ rfl) (.closed _ rfl)
 ·rcases resR_cases (srtM (restV s.cols.length openB rows).length (restV s.cols.length openB rows)) with h | h
  all_goals
   rw [h]
   conv => whnf
   exact pub2 (.closed _ rfl) (.closed _ rfl)

set_option maxRecDepth 20000 in
theorem at_spec {P : Program} (F : F_z0f P) (hS : SortE P F.z0p.z00.z05.z1b.id F.z0p.z00.z05.z06.id) (s : Sou) (hs : s.good) (ex : Bool) (rows : List Ent) (m : Int) (hm : 0 ≤ m ∧ m ≤ 575999999) (hb : bagB rows = 0) (hr : ∀ e ∈ rows, e.row.length = s.cols.length + 2 ∧ chkRow (hcols s) e.row = 0) (H : List AObj) :
  ACalls P F.id [.agg (souC s), .list ex 2 (eC rows), .int .i64 m] H (fun r H' => r = norR (restV s.cols.length (atB m) rows) ∧ H' = H) := by
 have hten := hs.ten
 have hlen := (bagB_iff rows).1 hb |>.1
 refine ACalls.pure (by simp [souC, AVal.closed, AVal.isPure]) (acalls_of_body F.has ?_)
 conv => whnf
 refine Ghost.none (n := 31) (live := [(1, .list ex 2 (eC rows)), (3, .cptr (souC s) 0), (5, .cptr [.int .i64 m] 0)]) rfl ⟨.closed (.list ex 2 (eC rows)) rfl, .frzP 0 1 0 0 7 [souC s] _ rfl rfl rfl rfl (by simp), .frzP 1 1 0 0 1 [[.int .i64 m]] _ rfl rfl rfl rfl (by simp), trivial⟩ ?_
 rintro ρ ⟨d, rfl⟩
 (conv => whnf); refine ACalls.use (hcheck_spec F.z0n s hs ex rows hb (fun e he => ⟨by have := (hr e he).1; omega, (hr e he).2⟩) _) ?_
 (conv => whnf); refine recF (by simp; omega) ?_
 (conv => whnf); refine recF (by simp; omega) ?_
 (conv => whnf); refine ACalls.use (hrest_spec F.z0p hS ex rows (by omega) s.cols.length (by omega) (fun e he => (hr e he).1) F.z0g.id [.cptr [.int .i64 m] 0] rfl (atB m) (fun a b H => at1_spec F.z0g m a b H) _) ?_
 unfold norR
 split
 ·conv => whnf
  exact pub2 (.closed _ rfl) (.closed _ rfl)
 ·rcases resR_cases (srtM (restV s.cols.length (atB m) rows).length (restV s.cols.length (atB m) rows)) with h | h
  all_goals
   rw [h]
   conv => whnf
   exact pub2 (.closed _ rfl) (.closed _ rfl)

def kSou : Sou := ⟨bs [], [⟨bs [105, 100], 2, false⟩, ⟨bs [97, 116], 4, false⟩], [bs [105, 100]], bs [97, 116], bs [], 0, 0⟩

def kVer (a q : Int) (d : Bool) : Ver := ⟨⟨d, q, [⟨2, 1, bs []⟩, tmV a]⟩, 0, 0⟩

def kVs : List Ver := [kVer 30 1 true, kVer 20 2 false, kVer 10 3 false, kVer 20 1 false]

def kI : List Ent := [⟨[⟨2, 1, bs []⟩, tmV 10, tmV 10, tmV 20], 1⟩, ⟨[⟨2, 1, bs []⟩, tmV 20, tmV 20, tmV 30], 1⟩]

theorem kgood : kSou.good := by
 refine ⟨by decide, by decide, by decide, ⟨⟨bs [97, 116], 4, false⟩, rfl, rfl, rfl⟩, by decide, by decide, by decide, by decide⟩

theorem kI_eq : ivsV kSou kVs = kI := by rfl

theorem kI_bag : bagB kI = 0 := by rfl

theorem kI_row : ∀ e ∈ kI, e.row.length = kSou.cols.length + 2 ∧ chkRow (hcols kSou) e.row = 0 := by
 intro e he
 rcases List.mem_cons.1 he with rfl | he
 ·exact ⟨rfl, rfl⟩
 ·rw [List.mem_singleton.1 he]; exact ⟨rfl, rfl⟩

theorem kAt : norR (restV kSou.cols.length (atB 19) kI) = .tuple [.list false 2 (eC [⟨[⟨2, 1, bs []⟩, tmV 10], 1⟩]), .int .i64 0] := by rfl

theorem kCur : norR (restV kSou.cols.length openB kI) = .tuple [.list false 2 (eC []), .int .i64 0] := by rfl

theorem kok : ∀ v ∈ kVs, okV kSou v := by
 intro v hv
 unfold kVs at hv
 simp only [List.mem_cons, List.not_mem_nil, or_false] at hv
 rcases hv with rfl | rfl | rfl | rfl <;> rfl

theorem kuq : Uq kSou kVs := by
 intro x hx y hy h
 unfold kVs at hx hy
 simp only [List.mem_cons, List.not_mem_nil, or_false] at hx hy
 rcases hx with rfl | rfl | rfl | rfl <;> rcases hy with rfl | rfl | rfl | rfl <;> first | rfl | (exact absurd h (by decide))

end Go.AW

namespace Go.AW
variable [Draws]
attribute [local irreducible] ACalls
theorem version_raw {P : Program} (F : F_z1z P) (a q : Int) (d : Bool) (H : List AObj) :
  ACalls P F.id [.int .i64 a, .int .i64 q, .bool d] H (fun r H' => r = .agg [.bool d, .int .i64 q, .list true 3 (vC [⟨2, 1, bs []⟩, tmV a]), .int .i64 0, .int .i64 0] ∧ H' = H) := by
 refine ACalls.pure rfl (acalls_of_body F.has ?_)
 conv => whnf
 exact .closed _ rfl

theorem version_spec {P : Program} (F : F_z1z P) (a q : Int) (d : Bool) (H : List AObj) :
  ACalls P F.id [.int .i64 a, .int .i64 q, .bool d] H (fun r H' => r = .agg (verC (kVer a q d)) ∧ H' = H) :=
 (version_raw F a q d H).weakR (by
  rintro r H' ⟨rfl, rfl⟩
  refine ⟨.agg (verC (kVer a q d)), .agg _ _ rfl fun i x y h1 h2 => ?_, rfl, rfl⟩
  rcases i with _ | _ | _ | _ | _ | i
  ·cases h1; cases h2; exact .refl _
  ·cases h1; cases h2; exact .refl _
  ·cases h1; cases h2; exact .list _ _ _ _ (by simp)
  ·cases h1; cases h2; exact .refl _
  ·cases h1; cases h2; exact .refl _
  ·simp at h1)

theorem wkSou : Wk (.agg [.str (bs []), .list true 3 (cC kSou.cols), .list true 1 (sC kSou.key), .str (bs [97, 116]), .str (bs []), .int .i64 0, .int .i64 0]) (.agg (souC kSou)) := by
 refine .agg _ _ rfl fun i x y h1 h2 => ?_
 rcases i with _ | _ | _ | _ | _ | _ | _ | i
 ·cases h1; cases h2; exact .refl _
 ·cases h1; cases h2; exact .list _ _ _ _ (by simp)
 ·cases h1; cases h2; exact .list _ _ _ _ (by simp)
 ·cases h1; cases h2; exact .refl _
 ·cases h1; cases h2; exact .refl _
 ·cases h1; cases h2; exact .refl _
 ·cases h1; cases h2; exact .refl _
 ·simp at h1

set_option maxHeartbeats 1000000 in
set_option maxRecDepth 20000 in
theorem known27_spec {P : Program} (F : F_z1u P) (hS1 : SortE P F.z0l.z1b.id F.z0l.z0m.id)
  (hS2 : SortE P F.z0j.z0p.z00.z05.z1b.id F.z0j.z0p.z00.z05.z06.id)
  (hS3 : SortE P F.z0f.z0p.z00.z05.z1b.id F.z0f.z0p.z00.z05.z06.id) (H : List AObj) :
  ACalls P F.id [] H (fun r H' => r = .bool true ∧ H' = H) := by
 have hI : ∀ H, ACalls P F.z0l.id [.agg (souC kSou), .list true 5 (vsC kVs)] H (fun r H' => r = .tuple [.list false 2 (eC kI), .int .i64 0] ∧ H' = H) := fun H => by
  have := Intervals_spec F.z0l hS1 kSou kgood true kVs (by decide) kok kuq H
  rwa [kI_eq] at this
 have hA : ∀ H, ACalls P F.z0f.id [.agg (souC kSou), .list false 2 (eC kI), .int .i64 19] H (fun r H' => r = .tuple [.list false 2 (eC [⟨[⟨2, 1, bs []⟩, tmV 10], 1⟩]), .int .i64 0] ∧ H' = H) := fun H => by
  have := at_spec F.z0f hS3 kSou kgood false kI 19 (by decide) kI_bag kI_row H
  rwa [kAt] at this
 have hC : ∀ H, ACalls P F.z0j.id [.agg (souC kSou), .list false 2 (eC kI)] H (fun r H' => r = .tuple [.list false 2 (eC []), .int .i64 0] ∧ H' = H) := fun H => by
  have := current_spec F.z0j hS2 kSou kgood false kI kI_bag kI_row H
  rwa [kCur] at this
 refine ACalls.pure rfl (acalls_of_body F.has ?_)
 (conv => whnf); refine ⟨_, version_spec F.z1z 30 1 true _, ?_⟩
 (conv => whnf); refine ⟨_, version_spec F.z1z 20 2 false _, ?_⟩
 (conv => whnf); refine ⟨_, version_spec F.z1z 10 3 false _, ?_⟩
 (conv => whnf); refine ⟨_, version_spec F.z1z 20 1 false _, ?_⟩
 (conv => whnf); refine ⟨_, ACalls.weak (hI _) (.cons wkSou (.cons (.refl _) .nil)), ?_⟩
 repeat ((conv => whnf); refine And.intro rfl ?_)
 (conv => whnf); refine ACalls.use (ACalls.weak (hA _) (.cons wkSou (.cons (.refl _) (.cons (.refl _) .nil)))) ?_
 (conv => whnf); refine ACalls.use (ACalls.weak (hC _) (.cons wkSou (.cons (.refl _) .nil))) ?_
 (conv => whnf); refine And.intro (by decide) ?_
 (conv => whnf); refine And.intro (by decide) ?_
 (conv => whnf); refine And.intro (by decide) ?_
 (conv => whnf); refine And.intro (by decide) ?_
 (conv => whnf); refine And.intro (by decide) ?_
 (conv => whnf); refine And.intro (by decide) ?_
 conv => whnf
 exact pubB rfl

end Go.AW

namespace Go.AW
variable [Draws]
attribute [local irreducible] ACalls
theorem good0 (s : Sou) (hc : s.cols = wcols) (hk : s.key = [bs [105, 100]]) (ha : s.att = bs [97, 116]) : s.good := by
 refine ⟨by rw [hc]; decide, by rw [hc, ha]; decide, by rw [hc, hk]; decide, ⟨⟨bs [97, 116], 4, false⟩, by rw [hc, ha]; rfl, rfl, rfl⟩, by rw [hc]; decide, by rw [hc]; decide, by rw [hc]; decide, by rw [hk]; decide⟩

theorem good1 (s : Sou) (hc : s.cols = wcols ++ [⟨bs [112, 97, 114, 116], 3, false⟩]) (hk : s.key = [bs [112, 97, 114, 116], bs [105, 100]]) (ha : s.att = bs [97, 116]) : s.good := by
 refine ⟨by rw [hc]; decide, by rw [hc, ha]; decide, by rw [hc, hk]; decide, ⟨⟨bs [97, 116], 4, false⟩, by rw [hc, ha]; rfl, rfl, rfl⟩, by rw [hc]; decide, by rw [hc]; decide, by rw [hc]; decide, by rw [hk]; decide⟩

theorem wgood (n : Int) : (souS (wsrc n)).good := by
 cases hp : wpart n
 ·exact good0 _ (by show (wsrc n).cols = _; rw [wsrcC, hp]; rfl) (by show (wsrc n).key = _; rw [wsrcK, hp]; rfl) rfl
 ·exact good1 _ (by show (wsrc n).cols = _; rw [wsrcC, hp]; rfl) (by show (wsrc n).key = _; rw [wsrcK, hp]; rfl) rfl

noncomputable def mV (n : Int) (ls : List Int) : List Ver := srtV (souS (wsrc n)) (couL (souS (wsrc n)) 0 (ledV (wsrc n) ls).1)

theorem mV_len (n : Int) (ls : List Int) : (mV n ls).length ≤ 24 := by
 obtain ⟨h1, h2⟩ := ledV_ok (wsrc n) ls
 have := couL_len (souS (wsrc n)) (ledV (wsrc n) ls).1 0 6 fun x hx => (h1 x hx).2.1
 rw [mV, srtV, isort_length]
 omega

theorem mV_ok (n : Int) (ls : List Int) : ∀ v ∈ mV n ls, okV (souS (wsrc n)) v := fun v hv => couL_fits ((isort_perm _).mem_iff.1 hv)

theorem mV_uq (n : Int) (ls : List Int) : Uq (souS (wsrc n)) (mV n ls) := fun x hx y hy h => couL_uq _ _ x ((isort_perm _).mem_iff.1 hx) y ((isort_perm _).mem_iff.1 hy) h

theorem made_ok (n : Int) (ls : List Int) : (ledV (wsrc n) ls).1.length ≤ 1000 ∧ (couL (souS (wsrc n)) 0 (ledV (wsrc n) ls).1).length ≤ 1000 ∧ ∀ x ∈ (ledV (wsrc n) ls).1, x.ok := by
 obtain ⟨h1, h2⟩ := ledV_ok (wsrc n) ls
 have h3 := couL_len (souS (wsrc n)) (ledV (wsrc n) ls).1 0 6 fun x hx => (h1 x hx).2.1
 have := wsrc_bnd n
 exact ⟨by omega, by omega, fun x hx => (h1 x hx).ok (by omega)⟩

theorem ivsV_len (s : Sou) (vs : List Ver) : (ivsV s vs).length ≤ vs.length := by
 rw [ivsV, srtE, isort_length]
 exact Nat.le_trans (ivsG_len s _) (Nat.le_trans (usedV_sub s _).length_le (by rw [srtV, isort_length]; exact Nat.le_refl _))

theorem sameEnt_refl {P : Program} (F : F_z26 P) (a : List Ent) (ha : a.length ≤ 100000) (hr : ∀ e ∈ a, e.row.length ≤ 1000) (H : List AObj) :
  ACalls P F.id [.list false 2 (eC a), .list false 2 (eC a)] H (fun r H' => r = .bool true ∧ H' = H) := by
 have := sameEnt_spec F false false a a ha hr H
 rwa [eqD_true rfl] at this

end Go.AW

namespace Go.AW
variable [Draws]
abbrev kyV (s : Sou) (v : Ver) : List V := keyV s v.rc.row

abbrev tiV (s : Sou) (v : Ver) : Int := timeV s v.rc

def RepOf (s : Sou) (L : List Ver) (v : Ver) : Prop := v ∈ L ∧ ∀ w ∈ L, kyV s w = kyV s v → tiV s w = tiV s v → 0 ≤ cmpVr s v w

def EndOf (s : Sou) (L : List Ver) (v : Ver) (e : V) : Prop :=
 (e = zV ∧ ∀ w ∈ L, kyV s w = kyV s v → tiV s w ≤ tiV s v) ∨
 ∃ w ∈ L, kyV s w = kyV s v ∧ tiV s v < tiV s w ∧ e = tmV (tiV s w) ∧ ∀ u ∈ L, kyV s u = kyV s v → tiV s v < tiV s u → tiV s w ≤ tiV s u

theorem EndOf.uniq {s : Sou} {L : List Ver} {v : Ver} {e f : V} (h : EndOf s L v e) (g : EndOf s L v f) : e = f := by
 rcases h with ⟨rfl, h⟩ | ⟨w, hw, k, t, rfl, m⟩
 ·rcases g with ⟨rfl, g⟩ | ⟨w, hw, k, t, rfl, m⟩
  ·rfl
  ·have := h w hw k; omega
 ·rcases g with ⟨rfl, g⟩ | ⟨w', hw', k', t', rfl, m'⟩
  ·have := g w hw k; omega
  ·have := m w' hw' k' t'
   have := m' w hw k t
   rw [show tiV s w = tiV s w' by omega]

theorem EndOf.congr {s : Sou} {L M : List Ver} {v : Ver} {e : V} (h : EndOf s L v e) (h1 : ∀ w ∈ L, ∃ w' ∈ M, kyV s w' = kyV s w ∧ tiV s w' = tiV s w) (h2 : ∀ w ∈ M, ∃ w' ∈ L, kyV s w' = kyV s w ∧ tiV s w' = tiV s w) : EndOf s M v e := by
 rcases h with ⟨rfl, h⟩ | ⟨w, hw, k, t, rfl, m⟩
 ·refine .inl ⟨rfl, fun w hw hk => ?_⟩
  obtain ⟨w', a, b, c⟩ := h2 w hw
  rw [← c]; exact h w' a (b.trans hk)
 ·obtain ⟨w', a, b, c⟩ := h1 w hw
  refine .inr ⟨w', a, b.trans k, by omega, by rw [c], fun u hu ku tu => ?_⟩
  obtain ⟨u', a', b', c'⟩ := h2 u hu
  have := m u' a' (b'.trans ku) (by omega)
  omega

theorem cmpVr_key {s : Sou} {v w : Ver} (h : 0 ≤ cmpVr s w v) : 0 ≤ rowsCmp (kyV s w) (kyV s v) := by
 rw [cmpVr_lex] at h
 simp only [lexC] at h
 show 0 ≤ rowsCmp (keyV s w.rc.row) (keyV s v.rc.row)
 by_cases hz : rowsCmp (keyV s w.rc.row) (keyV s v.rc.row) = 0
 ·omega
 ·rw [if_neg hz] at h; exact h

theorem cmpVr_time {s : Sou} {v w : Ver} (h : 0 ≤ cmpVr s w v) (hk : kyV s w = kyV s v) : tiV s v ≤ tiV s w := by
 rw [cmpVr_lex] at h
 simp only [lexC] at h
 rw [if_pos ((rowsCmp_zero _ _).2 hk)] at h
 have h1 := cmpI_lt (timeV s w.rc) (timeV s v.rc)
 have h2 := cmpI_zero (timeV s w.rc) (timeV s v.rc)
 show timeV s v.rc ≤ timeV s w.rc
 split at h <;> omega

theorem sameKT_iff {s : Sou} {a b : Ver} : sameKT s a b = true ↔ kyV s a = kyV s b ∧ tiV s a = tiV s b := by
 unfold sameKT
 rw [Bool.and_eq_true, beq_iff_eq, beq_iff_eq, rowsCmp_zero]

theorem used_rep (s : Sou) : ∀ L : List Ver, ∀ w ∈ L, ∃ u ∈ usedV s L, kyV s u = kyV s w ∧ tiV s u = tiV s w
 | [], w, h => by cases h
 | v :: vs, w, h => by
  rw [usedV]
  split
  ·rename_i hc
   rcases List.mem_cons.1 h with rfl | h
   ·cases vs with
    | nil => simp at hc
    | cons x vs =>
     simp only [List.head?_cons, Option.any_some] at hc
     obtain ⟨a, b⟩ := sameKT_iff.1 hc
     obtain ⟨u, h1, h2, h3⟩ := used_rep s (x :: vs) x (List.mem_cons_self ..)
     exact ⟨u, h1, h2.trans a.symm, h3.trans b.symm⟩
   ·exact used_rep s vs w h
  ·rcases List.mem_cons.1 h with rfl | h
   ·exact ⟨w, List.mem_cons_self .., rfl, rfl⟩
   ·obtain ⟨u, h1, h2⟩ := used_rep s vs w h
    exact ⟨u, List.mem_cons_of_mem _ h1, h2⟩

theorem key_le_antisymm {a b : List V} (h1 : 0 ≤ rowsCmp a b) (h2 : 0 ≤ rowsCmp b a) : a = b := by
 have := rowsCmp_anti a b
 exact (rowsCmp_zero _ _).1 (by omega)

def ltK (s : Sou) (x y : Ver) : Prop := rowsCmp (kyV s x) (kyV s y) < 0 ∨ (kyV s x = kyV s y ∧ tiV s x < tiV s y)

theorem ltK_of {s : Sou} {x y : Ver} (h : 0 ≤ cmpVr s y x) (hn : ¬ (kyV s x = kyV s y ∧ tiV s x = tiV s y)) : ltK s x y := by
 have h1 := cmpVr_key h
 by_cases hk : kyV s x = kyV s y
 ·have := cmpVr_time h hk.symm
  have : tiV s x ≠ tiV s y := fun e => hn ⟨hk, e⟩
  exact .inr ⟨hk, by omega⟩
 ·refine .inl ?_
  have := rowsCmp_anti (kyV s y) (kyV s x)
  have : rowsCmp (kyV s y) (kyV s x) ≠ 0 := fun e => hk ((rowsCmp_zero _ _).1 e).symm
  omega

theorem mem_used {s : Sou} : ∀ {L : List Ver}, AscO (cmpVr s) L → Uq s L → ∀ u, u ∈ usedV s L ↔ RepOf s L u
 | [], _, _, u => by simp [usedV, RepOf]
 | v :: vs, ha, hu, u => by
  obtain ⟨a1, a2⟩ := List.pairwise_cons.1 ha
  have ih := mem_used a2 (fun x hx y hy => hu x (List.mem_cons_of_mem _ hx) y (List.mem_cons_of_mem _ hy)) u
  have hcons : u ∈ vs → (RepOf s (v :: vs) u ↔ RepOf s vs u) := fun hm => by
   constructor
   ·exact fun h => ⟨hm, fun w hw => h.2 w (List.mem_cons_of_mem _ hw)⟩
   ·refine fun h => ⟨List.mem_cons_of_mem _ hm, fun w hw k t => ?_⟩
    rcases List.mem_cons.1 hw with rfl | hw
    ·exact a1 u hm
    ·exact h.2 w hw k t
  rw [usedV]
  split
  ·rename_i hc
   rw [ih]
   constructor
   ·exact fun h => (hcons h.1).2 h
   ·intro h
    by_cases hm : u ∈ vs
    ·exact (hcons hm).1 h
    ·have e : u = v := (List.mem_cons.1 h.1).resolve_right hm
     subst e
     cases vs with
     | nil => simp at hc
     | cons x vs =>
      simp only [List.head?_cons, Option.any_some] at hc
      obtain ⟨a, b⟩ := sameKT_iff.1 hc
      have h1 := h.2 x (List.mem_cons_of_mem _ (List.mem_cons_self ..)) a.symm b.symm
      have h2 := a1 x (List.mem_cons_self ..)
      have h3 := (preC_V s).anti u x
      have := hu u (List.mem_cons_self ..) x (List.mem_cons_of_mem _ (List.mem_cons_self ..)) (by omega)
      subst this
      exact absurd (List.mem_cons_self ..) hm
  ·rename_i hc
   rw [List.mem_cons, ih]
   constructor
   ·rintro (rfl | h)
    ·refine ⟨List.mem_cons_self .., fun w hw k t => ?_⟩
     rcases List.mem_cons.1 hw with rfl | hw
     ·have := (preC_V s).anti w w; omega
     ·exfalso
      cases vs with
      | nil => cases hw
      | cons x vs =>
       refine hc ?_
       simp only [List.head?_cons, Option.any_some]
       have x1 := a1 x (List.mem_cons_self ..)
       have k1 := cmpVr_key x1
       rcases List.mem_cons.1 hw with rfl | hw
       ·exact sameKT_iff.2 ⟨k.symm, t.symm⟩
       ·have x2 := (List.pairwise_cons.1 a2).1 w hw
        have k2 := cmpVr_key x2
        rw [k] at k2
        have hk := key_le_antisymm k1 k2
        have t1 := cmpVr_time x1 hk
        have t2 := cmpVr_time x2 (k.trans hk.symm)
        exact sameKT_iff.2 ⟨hk.symm, by omega⟩
    ·exact (hcons h.1).2 h
   ·intro h
    by_cases hm : u ∈ vs
    ·exact .inr ((hcons hm).1 h)
    ·exact .inl ((List.mem_cons.1 h.1).resolve_right hm)

theorem used_lt {s : Sou} : ∀ {L : List Ver}, AscO (cmpVr s) L → Uq s L → (usedV s L).Pairwise (ltK s)
 | [], _, _ => List.Pairwise.nil
 | v :: vs, ha, hu => by
  obtain ⟨a1, a2⟩ := List.pairwise_cons.1 ha
  have hu2 : Uq s vs := fun x hx y hy => hu x (List.mem_cons_of_mem _ hx) y (List.mem_cons_of_mem _ hy)
  have ih := used_lt a2 hu2
  have hm := fun u => mem_used ha hu u
  rw [usedV] at hm ⊢
  split
  ·exact ih
  ·rename_i hc
   rw [if_neg hc] at hm
   refine List.pairwise_cons.2 ⟨fun w hw => ?_, ih⟩
   have hwv := (usedV_sub s vs).subset hw
   refine ltK_of (a1 w hwv) fun e => ?_
   have h1 := ((hm v).1 (List.mem_cons_self ..)).2 w (List.mem_cons_of_mem _ hwv) e.1.symm e.2.symm
   have h2 := a1 w hwv
   have h3 := (preC_V s).anti v w
   have := hu v (List.mem_cons_self ..) w (List.mem_cons_of_mem _ hwv) (by omega)
   subst this
   have h4 := (mem_used a2 hu2 v).1 hw
   cases vs with
   | nil => cases hwv
   | cons x vs =>
    refine hc ?_
    simp only [List.head?_cons, Option.any_some]
    have x1 := a1 x (List.mem_cons_self ..)
    rcases List.mem_cons.1 hwv with rfl | hw2
    ·exact sameKT_iff.2 ⟨rfl, rfl⟩
    ·have x2 := (List.pairwise_cons.1 a2).1 v hw2
     have x3 := (preC_V s).anti v x
     have := hu v (List.mem_cons_self ..) x (List.mem_cons_of_mem _ (List.mem_cons_self ..)) (by omega)
     subst this
     exact sameKT_iff.2 ⟨rfl, rfl⟩

theorem ltK_ne {s : Sou} {x y : Ver} (h : ltK s x y) : ¬ (kyV s x = kyV s y ∧ tiV s x = tiV s y) := by
 rintro ⟨h1, h2⟩
 rcases h with h | ⟨_, h⟩
 ·rw [(rowsCmp_zero _ _).2 h1] at h; omega
 ·omega

theorem endV_of {s : Sou} {v : Ver} {vs : List Ver} (h : (v :: vs).Pairwise (ltK s)) : EndOf s (v :: vs) v (endV s v vs) := by
 obtain ⟨a1, a2⟩ := List.pairwise_cons.1 h
 cases vs with
 | nil => exact .inl ⟨rfl, fun w hw _ => by rw [List.mem_singleton.1 hw]; exact Int.le_refl _⟩
 | cons x vs =>
  have hx := a1 x (List.mem_cons_self ..)
  show EndOf s (v :: x :: vs) v (if rowsCmp (keyV s v.rc.row) (keyV s x.rc.row) = 0 then tmV (timeV s x.rc) else zV)
  split
  ·rename_i hk
   have hk := (rowsCmp_zero _ _).1 hk
   have ht : tiV s v < tiV s x := by
    rcases hx with hx | hx
    ·rw [(rowsCmp_zero _ _).2 hk] at hx; omega
    ·exact hx.2
   refine .inr ⟨x, List.mem_cons_of_mem _ (List.mem_cons_self ..), hk.symm, ht, rfl, fun u hu ku tu => ?_⟩
   rcases List.mem_cons.1 hu with rfl | hu
   ·omega
   rcases List.mem_cons.1 hu with rfl | hu
   ·exact Int.le_refl _
   ·rcases (List.pairwise_cons.1 a2).1 u hu with g | g
    ·rw [(rowsCmp_zero _ _).2 (hk.symm.trans ku.symm)] at g; omega
    ·omega
  ·rename_i hk
   refine .inl ⟨rfl, fun w hw kw => ?_⟩
   rcases List.mem_cons.1 hw with rfl | hw
   ·exact Int.le_refl _
   exfalso
   have h1 : rowsCmp (kyV s v) (kyV s x) < 0 := by
    rcases hx with hx | hx
    ·exact hx
    ·exact absurd ((rowsCmp_zero _ _).2 hx.1) hk
   rcases List.mem_cons.1 hw with rfl | hw
   ·exact hk ((rowsCmp_zero _ _).2 kw.symm)
   ·have h3 := rowsCmp_anti (kyV s v) (kyV s x)
    rcases (List.pairwise_cons.1 a2).1 w hw with g | g
    ·rw [kw] at g; omega
    ·rw [show kyV s w = kyV s v from kw] at g
     exact hk ((rowsCmp_zero _ _).2 g.1.symm)

theorem EndOf.cons {s : Sou} {p v : Ver} {L : List Ver} {e : V} (hp : ltK s p v) : EndOf s (p :: L) v e ↔ EndOf s L v e := by
 have hpt : kyV s p = kyV s v → tiV s p < tiV s v := fun hk => by
  rcases hp with hp | hp
  ·rw [(rowsCmp_zero _ _).2 hk] at hp; omega
  ·exact hp.2
 constructor
 ·rintro (⟨rfl, h⟩ | ⟨w, hw, k, t, rfl, m⟩)
  ·exact .inl ⟨rfl, fun w hw => h w (List.mem_cons_of_mem _ hw)⟩
  ·rcases List.mem_cons.1 hw with rfl | hw
   ·have := hpt k; omega
   ·exact .inr ⟨w, hw, k, t, rfl, fun u hu => m u (List.mem_cons_of_mem _ hu)⟩
 ·rintro (⟨rfl, h⟩ | ⟨w, hw, k, t, rfl, m⟩)
  ·refine .inl ⟨rfl, fun w hw kw => ?_⟩
   rcases List.mem_cons.1 hw with rfl | hw
   ·have := hpt kw; omega
   ·exact h w hw kw
  ·refine .inr ⟨w, List.mem_cons_of_mem _ hw, k, t, rfl, fun u hu ku tu => ?_⟩
   rcases List.mem_cons.1 hu with rfl | hu
   ·have := hpt ku; omega
   ·exact m u hu ku tu

def ivE (s : Sou) (v : Ver) (e : V) : Ent := ⟨v.rc.row ++ [tmV (tiV s v), e], 1⟩

theorem mem_ivsG {s : Sou} : ∀ {U : List Ver}, U.Pairwise (ltK s) → ∀ e, e ∈ ivsG s U ↔ ∃ v ∈ U, v.rc.del = false ∧ ∃ en, EndOf s U v en ∧ e = ivE s v en
 | [], _, e => by simp [ivsG]
 | v :: vs, h, e => by
  obtain ⟨a1, a2⟩ := List.pairwise_cons.1 h
  have ih := mem_ivsG a2 e
  have hv := endV_of h
  have step : (∃ w ∈ vs, w.rc.del = false ∧ ∃ en, EndOf s (v :: vs) w en ∧ e = ivE s w en) ↔ e ∈ ivsG s vs := by
   rw [ih]
   constructor
   ·rintro ⟨w, hw, d, en, h1, h2⟩
    exact ⟨w, hw, d, en, (EndOf.cons (a1 w hw)).1 h1, h2⟩
   ·rintro ⟨w, hw, d, en, h1, h2⟩
    exact ⟨w, hw, d, en, (EndOf.cons (a1 w hw)).2 h1, h2⟩
  rw [ivsG]
  split
  ·rename_i hd
   rw [← step]
   constructor
   ·rintro ⟨w, hw, x⟩; exact ⟨w, List.mem_cons_of_mem _ hw, x⟩
   ·rintro ⟨w, hw, d, x⟩
    rcases List.mem_cons.1 hw with rfl | hw
    ·rw [hd] at d; cases d
    ·exact ⟨w, hw, d, x⟩
  ·rename_i hd
   rw [List.mem_cons, ← step]
   constructor
   ·rintro (rfl | ⟨w, hw, x⟩)
    ·exact ⟨v, List.mem_cons_self .., by simpa using hd, _, hv, rfl⟩
    ·exact ⟨w, List.mem_cons_of_mem _ hw, x⟩
   ·rintro ⟨w, hw, d, en, x, y⟩
    rcases List.mem_cons.1 hw with rfl | hw
    ·rw [EndOf.uniq x hv] at y; exact .inl y
    ·exact .inr ⟨w, hw, d, en, x, y⟩

theorem RepOf.perm {s : Sou} {L M : List Ver} (h : ∀ w, w ∈ L ↔ w ∈ M) (v : Ver) : RepOf s L v ↔ RepOf s M v := by
 unfold RepOf
 rw [h]
 exact ⟨fun x => ⟨x.1, fun w hw => x.2 w ((h w).2 hw)⟩, fun x => ⟨x.1, fun w hw => x.2 w ((h w).1 hw)⟩⟩

theorem srtV_mem (s : Sou) (L : List Ver) (w : Ver) : w ∈ srtV s L ↔ w ∈ L := (isort_perm _).mem_iff

theorem srtV_asc (s : Sou) (L : List Ver) : AscO (cmpVr s) (srtV s L) := isort_asc (orders_V s) L

theorem srtV_uq {s : Sou} {L : List Ver} (h : Uq s L) : Uq s (srtV s L) := fun x hx y hy => h x ((srtV_mem s L x).1 hx) y ((srtV_mem s L y).1 hy)

theorem mem_ivs {s : Sou} {L : List Ver} (hu : Uq s L) (e : Ent) : e ∈ ivsV s L ↔ ∃ v, RepOf s L v ∧ v.rc.del = false ∧ ∃ en, EndOf s L v en ∧ e = ivE s v en := by
 have h1 := used_lt (srtV_asc s L) (srtV_uq hu)
 have h2 := fun u => mem_used (srtV_asc s L) (srtV_uq hu) u
 have h3 := used_rep s (srtV s L)
 have e1 : ∀ v en, EndOf s (usedV s (srtV s L)) v en ↔ EndOf s L v en := fun v en => by
  constructor
  ·intro h
   refine h.congr (fun w hw => ⟨w, (srtV_mem s L w).1 ((usedV_sub s _).subset hw), rfl, rfl⟩) fun w hw => h3 w ((srtV_mem s L w).2 hw)
  ·intro h
   refine h.congr (fun w hw => h3 w ((srtV_mem s L w).2 hw)) fun w hw => ⟨w, (srtV_mem s L w).1 ((usedV_sub s _).subset hw), rfl, rfl⟩
 rw [ivsV, srtE, (isort_perm _).mem_iff, mem_ivsG h1]
 constructor
 ·rintro ⟨v, hv, d, en, x, y⟩
  exact ⟨v, (RepOf.perm (srtV_mem s L) v).1 ((h2 v).1 hv), d, en, (e1 v en).1 x, y⟩
 ·rintro ⟨v, hv, d, en, x, y⟩
  exact ⟨v, (h2 v).2 ((RepOf.perm (srtV_mem s L) v).2 hv), d, en, (e1 v en).2 x, y⟩

theorem ivE_inj {s : Sou} {v w : Ver} {e f : V} (hv : v.rc.row.length = s.cols.length) (hw : w.rc.row.length = s.cols.length) (h : (ivE s v e).row = (ivE s w f).row) : v.rc.row = w.rc.row ∧ tiV s v = tiV s w ∧ e = f := by
 obtain ⟨h1, h2⟩ := List.append_inj h (hv.trans hw.symm)
 simp only [tmV, List.cons.injEq, V.mk.injEq, and_true, true_and] at h2
 exact ⟨h1, h2.1, h2.2⟩

theorem srt_of_asc {l : List Ent} (h : AscO cmpE l) (hn : l.Pairwise fun a b => a.row ≠ b.row) : Srt l := by
 refine (List.pairwise_and_iff.2 ⟨h, hn⟩).imp ?_
 rintro a b ⟨h1, h2⟩
 have h3 := rowsCmp_anti a.row b.row
 have h4 : rowsCmp b.row a.row ≠ 0 := fun e => h2 ((rowsCmp_zero _ _).1 e).symm
 unfold cmpE at h1
 omega

theorem ivsG_ne {s : Sou} : ∀ {U : List Ver}, U.Pairwise (ltK s) → (∀ v ∈ U, v.rc.row.length = s.cols.length) → (ivsG s U).Pairwise fun a b => a.row ≠ b.row
 | [], _, _ => List.Pairwise.nil
 | v :: vs, h, hl => by
  obtain ⟨a1, a2⟩ := List.pairwise_cons.1 h
  have ih := ivsG_ne a2 fun w hw => hl w (List.mem_cons_of_mem _ hw)
  rw [ivsG]
  split
  ·exact ih
  ·refine List.pairwise_cons.2 ⟨fun e he hr => ?_, ih⟩
   obtain ⟨w, hw, _, en, _, rfl⟩ := (mem_ivsG a2 e).1 he
   obtain ⟨x, y, _⟩ := ivE_inj (e := endV s v vs) (f := en) (hl v (List.mem_cons_self ..)) (hl w (List.mem_cons_of_mem _ hw)) hr
   exact ltK_ne (a1 w hw) ⟨congrArg (keyV s) x, y⟩

theorem pw_perm {l m : List Ent} (hp : l.Perm m) (h : l.Pairwise fun a b => a.row ≠ b.row) : m.Pairwise fun a b => a.row ≠ b.row :=
 hp.pairwise h fun {a b} h e => h e.symm

theorem srt_ivs {s : Sou} {L : List Ver} (hok : ∀ v ∈ L, okV s v) (hu : Uq s L) : Srt (ivsV s L) := by
 refine srt_of_asc (isort_asc orders_E _) (pw_perm (isort_perm _).symm (ivsG_ne (used_lt (srtV_asc s L) (srtV_uq hu)) fun v hv => ?_))
 exact fits_len (hok v ((srtV_mem s L v).1 ((usedV_sub s _).subset hv)))

theorem srt_ext : ∀ {a b : List Ent}, Srt a → Srt b → (∀ e, e ∈ a ↔ e ∈ b) → a = b
 | [], [], _, _, _ => rfl
 | [], y :: b, _, _, h => absurd ((h y).2 (List.mem_cons_self ..)) (by simp)
 | x :: a, [], _, _, h => absurd ((h x).1 (List.mem_cons_self ..)) (by simp)
 | x :: a, y :: b, ha, hb, h => by
  obtain ⟨a1, a2⟩ := List.pairwise_cons.1 ha
  obtain ⟨b1, b2⟩ := List.pairwise_cons.1 hb
  have hxy : x = y := by
   rcases List.mem_cons.1 ((h x).1 (List.mem_cons_self ..)) with e | hx
   ·exact e
   rcases List.mem_cons.1 ((h y).2 (List.mem_cons_self ..)) with e | hy
   ·exact e.symm
   have h1 := a1 y hy
   have h2 := b1 x hx
   have h3 := rowsCmp_anti x.row y.row
   omega
  subst hxy
  rw [srt_ext a2 b2 fun e => ?_]
  have hirr : ∀ z : Ent, ¬ rowsCmp z.row z.row < 0 := fun z => by rw [(rowsCmp_zero _ _).2 rfl]; omega
  constructor
  ·intro he
   rcases List.mem_cons.1 ((h e).1 (List.mem_cons_of_mem _ he)) with rfl | x
   ·exact absurd (a1 e he) (hirr e)
   ·exact x
  ·intro he
   rcases List.mem_cons.1 ((h e).2 (List.mem_cons_of_mem _ he)) with rfl | x
   ·exact absurd (b1 e he) (hirr e)
   ·exact x

end Go.AW

namespace Go.AW
variable [Draws]
inductive RenN (σ : Nat → Nat) : AVal → AVal → Prop where
 | closed (v : AVal) (h : v.closed = true) : RenN σ v v
 | sl (id ep off len : Nat) : RenN σ (.sl id ep off len) (.sl (σ id) ep off len)
 | ptr (id ep idx fld : Nat) : RenN σ (.ptr id ep idx fld) (.ptr (σ id) ep idx fld)
 | mp (id : Nat) : RenN σ (.mp id) (.mp (σ id))
 | it (id : Nat) : RenN σ (.it id) (.it (σ id))
 | agg (vs rs : List AVal) (hl : vs.length = rs.length) (h : ∀ (i : Nat) (v r : AVal), vs[i]? = some v → rs[i]? = some r → RenN σ v r) : RenN σ (.agg vs) (.agg rs)
 | tuple (vs rs : List AVal) (hl : vs.length = rs.length) (h : ∀ (i : Nat) (v r : AVal), vs[i]? = some v → rs[i]? = some r → RenN σ v r) : RenN σ (.tuple vs) (.tuple rs)
 | fn (f : FuncId) (vs rs : List AVal) (hl : vs.length = rs.length) (h : ∀ (i : Nat) (v r : AVal), vs[i]? = some v → rs[i]? = some r → RenN σ v r) : RenN σ (.fn f vs) (.fn f rs)

theorem RenN.cell {σ : Nat → Nat} {a b : AVal} (h : RenN σ a b) : a.isCell = b.isCell := by cases h <;> rfl

inductive RenNO (σ : Nat → Nat) : AObj → AObj → Prop where
 | arr (esz : Nat) (es es1 : List (List AVal)) (hl : es1.length = es.length) (hl2 : ∀ (i : Nat) (e e1 : List AVal), es[i]? = some e → es1[i]? = some e1 → e1.length = e.length)
   (h : ∀ (i j : Nat) (e e1 : List AVal) (d d1 : AVal), es[i]? = some e → es1[i]? = some e1 → e[j]? = some d → e1[j]? = some d1 → RenN σ d d1) :
   RenNO σ (.arr esz es) (.arr esz es1)
 | iter (s : ByteArray) (p : Nat) : RenNO σ (.iter s p) (.iter s p)
 | map (kvs kvs1 : List (AVal × AVal)) (hl : kvs1.length = kvs.length) (h : ∀ (i : Nat) (e e1 : AVal × AVal), kvs[i]? = some e → kvs1[i]? = some e1 → e1.1 = e.1 ∧ RenN σ e.2 e1.2) : RenNO σ (.map kvs) (.map kvs1)

theorem AVal.closed_of_pure {v : AVal} (h : v.isPure = true) : v.closed = true := by cases v <;> first | rfl | exact h | (simp [AVal.isPure] at h)

theorem RenNO.same {σ : Nat → Nat} {o : AObj} (h : o.clean = true) : RenNO σ o o := by
 cases o with
 | arr esz es => exact .arr esz es es rfl (fun i e e1 h1 h2 => by rw [h1] at h2; cases h2; rfl) fun i j e e1 d d1 h1 h2 h3 h4 => (by
   rw [h1] at h2; cases h2; rw [h3] at h4; cases h4; exact .closed _ (AVal.closed_of_pure (pureEs_get h h1 h3)))
 | iter s p => exact .iter s p
 | map kvs => exact .map kvs kvs rfl fun i e e1 h1 h2 => (by rw [h1] at h2; cases h2; exact ⟨rfl, .closed _ (AVal.closed_of_pure (pureKvs_get h h1))⟩)

theorem RenNO.after {σ : Nat → Nat} {o o0 o1 : AObj} {t t' : Option Loc} (h : RenNO σ o0 o1) (ha : o.after o0 t t') : o.after o1 t t' := by
 cases h with
 | iter => exact ha
 | arr esz es es1 hl _ _ =>
  cases o with
  | iter _ _ => exact ha
  | map _ => exact ha
  | arr z es0 => exact ⟨ha.1, by rw [hl]; exact ha.2.1, by rw [hl]; exact ha.2.2⟩
 | map => cases o <;> exact ha

theorem RenNO.afterL {σ : Nat → Nat} {o o0 o1 : AObj} {t t' : Option Loc} (h : RenNO σ o0 o1) (ha : o0.after o t t') : o1.after o t t' := by
 cases h with
 | iter => exact ha
 | arr esz es es1 hl _ _ =>
  cases o with
  | iter _ _ => exact ha
  | map _ => exact ha
  | arr z es0 => exact ⟨ha.1, by rw [hl]; exact ha.2.1, by rw [hl]; exact ha.2.2⟩
 | map => cases o <;> exact ha

theorem RenNO.ok {σ : Nat → Nat} {o0 o1 : AObj} (h : RenNO σ o0 o1) (ho : o0.ok) : o1.ok := by
 cases h with
 | iter => exact ho
 | map => exact ho
 | arr esz es es1 hl hl2 hp =>
  intro e1 he1
  obtain ⟨n, hn⟩ := List.getElem?_of_mem he1
  have hnl := (List.getElem?_eq_some_iff.1 hn).1
  have he : es[n]? = some es[n] := List.getElem?_eq_getElem (by omega)
  obtain ⟨g1, g2⟩ := ho _ (List.mem_of_getElem? he)
  refine ⟨(hl2 n _ _ he hn).trans g1, fun d1 hd1 => ?_⟩
  obtain ⟨j, hj⟩ := List.getElem?_of_mem hd1
  have hjl := (List.getElem?_eq_some_iff.1 hj).1
  have := hl2 n _ _ he hn
  have hd : es[n][j]? = some es[n][j] := List.getElem?_eq_getElem (by omega)
  rw [← (hp n j _ _ _ d1 he hn hd hj).cell]
  exact g2 _ (List.mem_of_getElem? hd)

theorem RenNO.okL {σ : Nat → Nat} {o0 o1 : AObj} (h : RenNO σ o0 o1) (ho : o1.ok) : o0.ok := by
 cases h with
 | iter => exact ho
 | map => exact ho
 | arr esz es es1 hl hl2 hp =>
  intro e he
  obtain ⟨n, hn⟩ := List.getElem?_of_mem he
  have hnl := (List.getElem?_eq_some_iff.1 hn).1
  have he1 : es1[n]? = some es1[n] := List.getElem?_eq_getElem (by omega)
  obtain ⟨g1, g2⟩ := ho _ (List.mem_of_getElem? he1)
  have hle := hl2 n _ _ hn he1
  refine ⟨by omega, fun d hd => ?_⟩
  obtain ⟨j, hj⟩ := List.getElem?_of_mem hd
  have hjl := (List.getElem?_eq_some_iff.1 hj).1
  have hd1 : es1[n][j]? = some es1[n][j] := List.getElem?_eq_getElem (by omega)
  rw [(hp n j _ _ d _ hn he1 hj hd1).cell]
  exact g2 _ (List.mem_of_getElem? hd1)

section
variable {P : Program} {C C' : Nat → Nat} {τ τ' : Nat → Option Loc} {H H' : List AObj} {w w' : World}
structure SameAt (σ : Nat → Nat) (τ : Nat → Option Loc) (H : List AObj) (τ' : Nat → Option Loc) (H' : List AObj) : Prop where
 obj : ∀ (k : Nat) (x : AObj), H[k]? = some x → ∃ y, H'[σ k]? = some y ∧ RenNO σ x y
 loc : ∀ (k : Nat), k < H.length → τ' (σ k) = τ k

theorem RenN.rel {σ : Nat → Nat} {a b : AVal} (h : RenN σ a b) (s : SameAt σ τ H τ' H') : ∀ {u : Value}, Rel C w τ H a u → Rel C w τ' H' b u := by
 have lt : ∀ {k : Nat} {x : AObj}, H[k]? = some x → k < H.length := fun h => (List.getElem?_eq_some_iff.1 h).1
 induction h with
 | closed v h => intro u hu; exact hu.closed h (fun _ => Nat.le_refl _) (fun _ _ _ => rfl)
 | sl k ep off len =>
  intro u hu
  cases hu with
  | rd h => cases h
  | sl _ _ _ _ a cap esz es ho hep h3 =>
   obtain ⟨y, hy, hry⟩ := s.obj k _ ho
   cases hry with
   | arr _ _ es1 hl1 _ _ => exact .sl _ ep off len a cap esz es1 hy (by omega) fun e => by rw [s.loc k (lt ho), hl1]; exact h3 (by omega)
 | ptr k ep idx fld =>
  intro u hu
  cases hu with
  | rd h => cases h
  | ptr _ _ _ _ a esz es ho hep h3 =>
   obtain ⟨y, hy, hry⟩ := s.obj k _ ho
   cases hry with
   | arr _ _ es1 hl1 _ _ => exact .ptr _ ep idx fld a esz es1 hy (by omega) fun e => by rw [s.loc k (lt ho)]; exact h3 (by omega)
 | mp k =>
  intro u hu
  cases hu with
  | rd h => cases h
  | mp _ kvs l ho ht =>
   obtain ⟨y, hy, hry⟩ := s.obj k _ ho
   cases hry with
   | map _ kvs1 => exact .mp _ kvs1 l hy (by rw [s.loc k (lt ho)]; exact ht)
 | it k =>
  intro u hu
  cases hu with
  | rd h => cases h
  | it _ s0 pos l ho ht =>
   obtain ⟨y, hy, hry⟩ := s.obj k _ ho
   cases hry with
   | iter => exact .it _ s0 pos l hy (by rw [s.loc k (lt ho)]; exact ht)
 | agg vs rs hl h ih =>
  intro u hu
  obtain ⟨us, rfl, hl2, hr2⟩ := hu.agg_inv
  refine .agg _ _ (by omega) fun i c v hc hv => ?_
  have hi := (List.getElem?_eq_some_iff.1 hc).1
  have hvi : vs[i]? = some vs[i] := List.getElem?_eq_getElem (by omega)
  exact ih i _ c hvi hc (hr2 i _ v hvi hv)
 | tuple vs rs hl h ih =>
  intro u hu
  obtain ⟨us, rfl, hl2, hr2⟩ := hu.tuple_inv
  refine .tuple _ _ (by omega) fun i c v hc hv => ?_
  have hi := (List.getElem?_eq_some_iff.1 hc).1
  have hvi : vs[i]? = some vs[i] := List.getElem?_eq_getElem (by omega)
  exact ih i _ c hvi hc (hr2 i _ v hvi hv)
 | fn f vs rs hl h ih =>
  intro u hu
  cases hu with
  | rd h0 =>
   cases h0
   have : rs = [] := List.eq_nil_of_length_eq_zero (by simpa using hl.symm)
   subst this
   exact .rd (.fn f)
  | fn _ _ us hl2 hr2 =>
   refine .fn _ _ _ (by omega) fun i c v hc hv => ?_
   have hi := (List.getElem?_eq_some_iff.1 hc).1
   have hvi : vs[i]? = some vs[i] := List.getElem?_eq_getElem (by omega)
   exact ih i _ c hvi hc (hr2 i _ v hvi hv)

theorem RenN.relL {σ : Nat → Nat} {a b : AVal} (h : RenN σ a b) (hb : ∀ (k : Nat) (y : AObj), H'[σ k]? = some y → ∃ x, H[k]? = some x ∧ RenNO σ x y ∧ τ' (σ k) = τ k) : ∀ {u : Value}, Rel C w τ' H' b u → Rel C w τ H a u := by
 induction h with
 | closed v h => intro u hu; exact hu.closed h (fun _ => Nat.le_refl _) (fun _ _ _ => rfl)
 | sl k ep off len =>
  intro u hu
  cases hu with
  | rd h => cases h
  | sl _ _ _ _ a cap esz es ho hep h3 =>
   obtain ⟨x, hx, hrx, ht⟩ := hb k _ ho
   cases hrx with
   | arr _ es0 _ hl1 _ _ => exact .sl _ ep off len a cap esz es0 hx (by omega) fun e => by rw [← ht, ← hl1]; exact h3 (by omega)
 | ptr k ep idx fld =>
  intro u hu
  cases hu with
  | rd h => cases h
  | ptr _ _ _ _ a esz es ho hep h3 =>
   obtain ⟨x, hx, hrx, ht⟩ := hb k _ ho
   cases hrx with
   | arr _ es0 _ hl1 _ _ => exact .ptr _ ep idx fld a esz es0 hx (by omega) fun e => by rw [← ht]; exact h3 (by omega)
 | mp k =>
  intro u hu
  cases hu with
  | rd h => cases h
  | mp _ kvs l ho ht0 =>
   obtain ⟨x, hx, hrx, ht⟩ := hb k _ ho
   cases hrx with
   | map kvs0 _ => exact .mp _ kvs0 l hx (by rw [← ht]; exact ht0)
 | it k =>
  intro u hu
  cases hu with
  | rd h => cases h
  | it _ s0 pos l ho ht0 =>
   obtain ⟨x, hx, hrx, ht⟩ := hb k _ ho
   cases hrx with
   | iter => exact .it _ s0 pos l hx (by rw [← ht]; exact ht0)
 | agg vs rs hl h ih =>
  intro u hu
  obtain ⟨us, rfl, hl2, hr2⟩ := hu.agg_inv
  refine .agg _ _ (by omega) fun i c v hc hv => ?_
  have hi := (List.getElem?_eq_some_iff.1 hc).1
  have hvi : rs[i]? = some rs[i] := List.getElem?_eq_getElem (by omega)
  exact ih i c _ hc hvi (hr2 i _ v hvi hv)
 | tuple vs rs hl h ih =>
  intro u hu
  obtain ⟨us, rfl, hl2, hr2⟩ := hu.tuple_inv
  refine .tuple _ _ (by omega) fun i c v hc hv => ?_
  have hi := (List.getElem?_eq_some_iff.1 hc).1
  have hvi : rs[i]? = some rs[i] := List.getElem?_eq_getElem (by omega)
  exact ih i c _ hc hvi (hr2 i _ v hvi hv)
 | fn f vs rs hl h ih =>
  intro u hu
  cases hu with
  | rd h0 =>
   cases h0
   have : vs = [] := List.eq_nil_of_length_eq_zero (by simpa using hl)
   subst this
   exact .rd (.fn f)
  | fn _ _ us hl2 hr2 =>
   refine .fn _ _ _ (by omega) fun i c v hc hv => ?_
   have hi := (List.getElem?_eq_some_iff.1 hc).1
   have hvi : rs[i]? = some rs[i] := List.getElem?_eq_getElem (by omega)
   exact ih i c _ hc hvi (hr2 i _ v hvi hv)

theorem RenNO.at {σ : Nat → Nat} {x y : AObj} {l : Loc} (h : RenNO σ x y) (s : SameAt σ τ H τ' H') (ho : ObjAt C w τ H l x) : ObjAt C w τ' H' l y := by
 cases h with
 | iter => exact ho
 | map kvs kvs1 hl hp =>
  obtain ⟨es, clock, a1, a2, a3⟩ := ho
  refine ⟨es, clock, a1, by omega, fun i e kv he hkv => ?_⟩
  have hi := (List.getElem?_eq_some_iff.1 hkv).1
  have h0 : kvs[i]? = some kvs[i] := List.getElem?_eq_getElem (by omega)
  obtain ⟨g1, g2⟩ := hp i _ kv h0 hkv
  obtain ⟨g3, g4⟩ := a3 i e _ he h0
  exact ⟨by rw [g1]; exact g3, g2.rel s g4⟩
 | arr esz es es1 hl hl2 hp =>
  obtain ⟨a1, cells, elem, fz, a2, a3, a4, a5⟩ := ho
  refine ⟨by omega, cells, elem, fz, a2, a3, a4, fun i j e1 d1 hi hd => ?_⟩
  have hil := (List.getElem?_eq_some_iff.1 hi).1
  have hjl := (List.getElem?_eq_some_iff.1 hd).1
  have he : es[i]? = some es[i] := List.getElem?_eq_getElem (by omega)
  have hl3 := hl2 i _ _ he hi
  have hd0 : es[i][j]? = some es[i][j] := List.getElem?_eq_getElem (by omega)
  obtain ⟨v, hx1, hx2⟩ := a5 i j _ _ he hd0
  exact ⟨v, hx1, (hp i j _ _ _ d1 he hi hd0 hd).rel s hx2⟩

theorem RenNO.atL {σ : Nat → Nat} {x y : AObj} {l : Loc} (h : RenNO σ x y) (hb : ∀ (k : Nat) (y : AObj), H'[σ k]? = some y → ∃ x, H[k]? = some x ∧ RenNO σ x y ∧ τ' (σ k) = τ k) (ho : ObjAt C w τ' H' l y) : ObjAt C w τ H l x := by
 cases h with
 | iter => exact ho
 | map kvs kvs1 hl hp =>
  obtain ⟨es, clock, a1, a2, a3⟩ := ho
  refine ⟨es, clock, a1, by omega, fun i e kv he hkv => ?_⟩
  have hi := (List.getElem?_eq_some_iff.1 hkv).1
  have h0 : kvs1[i]? = some kvs1[i] := List.getElem?_eq_getElem (by omega)
  obtain ⟨g1, g2⟩ := hp i kv _ hkv h0
  obtain ⟨g3, g4⟩ := a3 i e _ he h0
  exact ⟨by rw [← g1]; exact g3, g2.relL hb g4⟩
 | arr esz es es1 hl hl2 hp =>
  obtain ⟨a1, cells, elem, fz, a2, a3, a4, a5⟩ := ho
  refine ⟨by omega, cells, elem, fz, a2, a3, a4, fun i j e d hi hd => ?_⟩
  have hil := (List.getElem?_eq_some_iff.1 hi).1
  have hjl := (List.getElem?_eq_some_iff.1 hd).1
  have he : es1[i]? = some es1[i] := List.getElem?_eq_getElem (by omega)
  have hl3 := hl2 i _ _ hi he
  have hd0 : es1[i][j]? = some es1[i][j] := List.getElem?_eq_getElem (by omega)
  obtain ⟨v, hx1, hx2⟩ := a5 i j _ _ he hd0
  exact ⟨v, hx1, (hp i j _ _ d _ hi he hd hd0).relL hb hx2⟩

def frM (ids : List Nat) (n : Nat) (k : Nat) : Nat := match ids[k]? with
 | some id => id
 | none => n + (k - ids.length)

theorem frM_lt {ids : List Nat} {n k id : Nat} (h : ids[k]? = some id) : frM ids n k = id := by unfold frM; rw [h]

theorem frM_ge {ids : List Nat} {n k : Nat} (h : ids.length ≤ k) : frM ids n k = n + (k - ids.length) := by unfold frM; rw [List.getElem?_eq_none h]

theorem ACalls.frameN {f : FuncId} {args0 args : List AVal} {Q0 Q : AVal → List AObj → Prop} {H0 : List AObj} (ids : List Nat) (hnd : ids.Nodup) (hlen : ids.length = H0.length)
  (hobj : ∀ (k id : Nat) (x : AObj), ids[k]? = some id → H0[k]? = some x → ∃ y, H[id]? = some y ∧ RenNO (frM ids H.length) x y)
  (hal : args0.length = args.length) (ha : ∀ (i : Nat) (a b : AVal), args0[i]? = some a → args[i]? = some b → RenN (frM ids H.length) a b)
  (h : ACalls P f args0 H0 Q0)
  (hq : ∀ r H1, Q0 r H1 → ids.length ≤ H1.length → ∃ r' H2, RenN (frM ids H.length) r r' ∧ H2.length = H.length + (H1.length - ids.length) ∧
   (∀ (k : Nat) (x : AObj), H1[k]? = some x → ∃ y, H2[frM ids H.length k]? = some y ∧ RenNO (frM ids H.length) x y) ∧ (∀ j, j < H.length → j ∉ ids → H2[j]? = H[j]?) ∧ Q r' H2) : ACalls P f args H Q := by
 intro C τ w vs hw hl hr
 have σlt : ∀ {k id : Nat}, ids[k]? = some id → frM ids H.length k = id := fun h => frM_lt h
 have idlt : ∀ {k id : Nat}, ids[k]? = some id → id < H.length := fun {k id} hk => by
  have hk0 : k < H0.length := by have := (List.getElem?_eq_some_iff.1 hk).1; omega
  obtain ⟨y, hy, _⟩ := hobj k id _ hk (List.getElem?_eq_getElem hk0)
  exact (List.getElem?_eq_some_iff.1 hy).1
 have idget : ∀ {k : Nat}, k < ids.length → ids[k]? = some (frM ids H.length k) := fun {k} hk => by
  have h1 : ids[k]? = some ids[k] := List.getElem?_eq_getElem hk
  rw [frM_lt h1]; exact h1
 have σinj : ∀ k k', frM ids H.length k = frM ids H.length k' → k = k' := fun k k' e => by
  rcases Nat.lt_or_ge k ids.length with a | a <;> rcases Nat.lt_or_ge k' ids.length with b | b
  ·have h1 := idget a
   have h2 := idget b
   rw [← e] at h2
   obtain ⟨_, e1⟩ := List.getElem?_eq_some_iff.1 h1
   obtain ⟨_, e2⟩ := List.getElem?_eq_some_iff.1 h2
   have hne := List.pairwise_iff_getElem.1 hnd
   rcases Nat.lt_trichotomy k k' with h3 | h3 | h3
   ·exact absurd (e1.trans e2.symm) (hne k k' a b h3)
   ·exact h3
   ·exact absurd (e2.trans e1.symm) (hne k' k b a h3)
  ·have := idlt (idget a); rw [e, frM_ge b] at this; omega
  ·have := idlt (idget b); rw [← e, frM_ge a] at this; omega
  ·rw [frM_ge a, frM_ge b] at e; omega
 let τ0 : Nat → Option Loc := fun k => if k < ids.length then τ (frM ids H.length k) else none
 have t00 : ∀ {k}, k < ids.length → τ0 k = τ (frM ids H.length k) := fun {k} hk => by simp only [τ0, if_pos hk]
 have hbk : ∀ (k : Nat) (y : AObj), H[frM ids H.length k]? = some y → ∃ x, H0[k]? = some x ∧ RenNO (frM ids H.length) x y ∧ τ (frM ids H.length k) = τ0 k := fun k y hy => by
  have hk : k < ids.length := by
   rcases Nat.lt_or_ge k ids.length with a | a
   ·exact a
   ·rw [frM_ge a] at hy; have := (List.getElem?_eq_some_iff.1 hy).1; omega
  have hx : H0[k]? = some H0[k] := List.getElem?_eq_getElem (by omega)
  obtain ⟨y', hy', hr'⟩ := hobj k _ _ (idget hk) hx
  rw [hy] at hy'; cases hy'
  exact ⟨_, hx, hr', (t00 hk).symm⟩
 have hfw : ∀ {k : Nat} {x : AObj}, H0[k]? = some x → k < ids.length ∧ ∃ y, H[frM ids H.length k]? = some y ∧ RenNO (frM ids H.length) x y := fun {k x} hx => by
  have hk : k < ids.length := by have := (List.getElem?_eq_some_iff.1 hx).1; omega
  exact ⟨hk, hobj k _ _ (idget hk) hx⟩
 have hw0 : WF C τ0 H0 w := by
  refine ⟨fun k x h => ?_, fun k x h ht => ?_, fun k x l h ht => ?_, fun k l hk ht => ?_, fun i j li lj hi hj h1 h2 h3 => ?_, hw.lt⟩
  ·obtain ⟨hk, y, hy, hry⟩ := hfw h
   exact hry.okL (hw.ok _ y hy)
  ·obtain ⟨hk, y, hy, hry⟩ := hfw h
   rw [t00 hk] at ht
   obtain ⟨esz, rfl⟩ := hw.virt _ y hy ht
   cases hry with
   | arr _ es0 _ hl1 => exact ⟨esz, by rw [List.length_eq_zero_iff.1 (show es0.length = 0 by simpa using hl1.symm)]⟩
  ·obtain ⟨hk, y, hy, hry⟩ := hfw h
   rw [t00 hk] at ht
   exact hry.atL hbk (hw.objs _ y l hy ht)
  ·have hk2 : k < ids.length := by omega
   rw [t00 hk2] at ht
   exact hw.comm _ l (idlt (idget hk2)) ht
  ·have a : i < ids.length := by omega
   have b : j < ids.length := by omega
   rw [t00 a] at h1; rw [t00 b] at h2
   exact σinj _ _ (hw.inj _ _ li lj (idlt (idget a)) (idlt (idget b)) h1 h2 h3)
 have hr0 : ∀ (i : Nat) (a : AVal) (v : Value), args0[i]? = some a → vs[i]? = some v → Rel C w τ0 H0 a v := fun i a v h1 h2 => by
  have hi := (List.getElem?_eq_some_iff.1 h1).1
  have hb : args[i]? = some args[i] := List.getElem?_eq_getElem (by omega)
  exact (ha i a _ h1 hb).relL hbk (hr i _ v hb h2)
 have hc := h C τ0 w vs hw0 (by omega) hr0
 have hown : ∀ b, Owned τ0 H0 b → ∃ k l, k < ids.length ∧ τ (frM ids H.length k) = some l ∧ l.b = b := fun b => by
  rintro ⟨k, l, hk, ht, hb⟩
  have hk2 : k < ids.length := by omega
  rw [t00 hk2] at ht
  exact ⟨k, l, hk2, ht, hb⟩
 have fin : ∀ (e : Ending) (w' : World), (∃ v r C' τ' H', e = .returned v ∧ Q0 r H' ∧ Rel C' w' τ' H' r v ∧ St w (PrCall τ0 H0 w) C' τ' H' w' ∧ Step C τ0 H0 w C' τ' H' w') →
   ∃ v r C' τ' H', e = .returned v ∧ Q r H' ∧ Rel C' w' τ' H' r v ∧ St w (PrCall τ H w) C' τ' H' w' ∧ Step C τ H w C' τ' H' w' := by
  rintro e w' ⟨v, r, C1, τ1, H1, he, hq0, hrel, hst, hstep⟩
  have hge : ids.length ≤ H1.length := by
   rcases Nat.eq_zero_or_pos ids.length with h0 | h0
   ·omega
   ·obtain ⟨o', h1, _⟩ := hstep.obj (ids.length - 1) _ (List.getElem?_eq_getElem (show ids.length - 1 < H0.length by omega))
    have := (List.getElem?_eq_some_iff.1 h1).1; omega
  obtain ⟨r', H2, hrr, hH2, hG, hoth, hQ⟩ := hq r H1 hq0 hge
  
  have hpr : ∀ j l, j < H.length → j ∉ ids → τ j = some l → PrCall τ0 H0 w l.b := fun j l hj hne ht =>
   ⟨hw.locLt hj ht, fun ho => by
    obtain ⟨k, l', hk, ht', hb⟩ := hown _ ho
    have := hw.inj j _ l l' hj (idlt (idget hk)) ht ht' hb.symm
    exact hne (this ▸ List.mem_of_getElem? (idget hk))⟩
  have hheap : ∀ j l, j < H.length → j ∉ ids → τ j = some l → w'.heap[l.b]? = w.heap[l.b]? := fun j l hj hne ht => hst.fr.prot _ (hpr j l hj hne ht)
  
  have split : ∀ i, i < H2.length → (i < H.length ∧ i ∉ ids) ∨ ∃ k, i = frM ids H.length k ∧ k < H1.length := fun i hi => by
   rcases Nat.lt_or_ge i H.length with h1 | h1
   ·by_cases h2 : i ∈ ids
    ·obtain ⟨k, hk⟩ := List.getElem?_of_mem h2
     exact .inr ⟨k, (frM_lt hk).symm, by have := (List.getElem?_eq_some_iff.1 hk).1; omega⟩
    ·exact .inl ⟨h1, h2⟩
   ·exact .inr ⟨ids.length + (i - H.length), by rw [frM_ge (by omega)]; omega, by omega⟩
  have notboth : ∀ {i k}, i < H.length → i ∉ ids → i ≠ frM ids H.length k := fun {i k} h1 h2 e => by
   rcases Nat.lt_or_ge k ids.length with a | a
   ·exact h2 (e ▸ List.mem_of_getElem? (idget a))
   ·rw [frM_ge a] at e; omega
  let τ2 : Nat → Option Loc := fun i => if i < H.length then (match ids.idxOf? i with
   | some k => τ1 k
   | none => τ i) else τ1 (ids.length + (i - H.length))
  have tF : ∀ k, τ2 (frM ids H.length k) = τ1 k := fun k => by
   rcases Nat.lt_or_ge k ids.length with a | a
   ·have h1 := idget a
    have h2 : ids.idxOf? (frM ids H.length k) = some k := by
     rcases hx : ids.idxOf? (frM ids H.length k) with _ | k'
     ·rw [List.idxOf?_eq_none_iff] at hx
      exact absurd (List.mem_of_getElem? h1) hx
     ·obtain ⟨hk', e', _⟩ := List.idxOf?_eq_some_iff.1 hx
      have hee : ids[k']? = some (frM ids H.length k) := by rw [List.getElem?_eq_getElem hk', e']
      rw [σinj k k' (by rw [frM_lt hee])]
    show (if frM ids H.length k < H.length then _ else _) = _
    rw [if_pos (idlt h1), h2]
   ·show (if frM ids H.length k < H.length then _ else _) = _
    rw [frM_ge a, if_neg (by omega)]
    congr 1; omega
  have tO : ∀ j, j < H.length → j ∉ ids → τ2 j = τ j := fun j hj hne => by
   show (if j < H.length then _ else _) = _
   rw [if_pos hj, List.idxOf?_eq_none_iff.2 hne]
  have same : SameAt (frM ids H.length) τ1 H1 τ2 H2 := ⟨hG, fun k _ => tF k⟩
  have step : Step C τ H w C1 τ2 H2 w' := by
   refine ⟨hstep.le, hstep.cell, fun j x hx => ?_, hstep.grow, hstep.old⟩
   have hj := (List.getElem?_eq_some_iff.1 hx).1
   by_cases e1 : j ∈ ids
   ·obtain ⟨k, hk⟩ := List.getElem?_of_mem e1
    have hkl := (List.getElem?_eq_some_iff.1 hk).1
    have hx0 : H0[k]? = some H0[k] := List.getElem?_eq_getElem (by omega)
    obtain ⟨y, hy, hry⟩ := hobj k j _ hk hx0
    rw [hx] at hy; cases hy
    obtain ⟨o', h1, h2⟩ := hstep.obj k _ hx0
    obtain ⟨z, hz, hrz⟩ := hG k o' h1
    rw [frM_lt hk] at hz
    refine ⟨z, hz, ?_⟩
    have t1 := tF k
    rw [frM_lt hk] at t1
    rw [t1]
    have t2 := t00 hkl
    rw [frM_lt hk] at t2
    rw [← t2]
    exact hrz.after (hry.afterL h2)
   ·exact ⟨x, by rw [hoth j hj e1]; exact hx, by rw [tO j hj e1]; exact x.after_refl _⟩
  have hgetF : ∀ k, k < H1.length → ∃ x, H1[k]? = some x := fun k hk => ⟨_, List.getElem?_eq_getElem hk⟩
  refine ⟨v, r', C1, τ2, H2, he, hQ, hrr.rel same hrel, ⟨⟨fun i x hx => ?_, fun i x hx ht => ?_, fun i x l hx ht => ?_, fun i l hi ht => ?_, fun i j li lj hi hj hti htj hb => ?_, hst.wf.lt⟩,
   ⟨hst.fr.os, hst.fr.tape, hst.fr.output, hst.fr.size, fun b hb => hst.fr.prot b ⟨hb.1, ?_⟩, hst.fr.drawn⟩, ?_, fun b hb => hb.1⟩, step⟩
  ·rcases split i (List.getElem?_eq_some_iff.1 hx).1 with ⟨h1, h2⟩ | ⟨k, rfl, hk⟩
   ·rw [hoth i h1 h2] at hx; exact hw.ok i x hx
   ·obtain ⟨z, hz⟩ := hgetF k hk
    obtain ⟨y, hy, hry⟩ := hG k z hz
    rw [hx] at hy; cases hy
    exact hry.ok (hst.wf.ok k z hz)
  ·rcases split i (List.getElem?_eq_some_iff.1 hx).1 with ⟨h1, h2⟩ | ⟨k, rfl, hk⟩
   ·rw [hoth i h1 h2] at hx; rw [tO i h1 h2] at ht; exact hw.virt i x hx ht
   ·obtain ⟨z, hz⟩ := hgetF k hk
    obtain ⟨y, hy, hry⟩ := hG k z hz
    rw [hx] at hy; cases hy
    rw [tF] at ht
    obtain ⟨esz, rfl⟩ := hst.wf.virt k z hz ht
    cases hry with
    | arr _ _ es1 hl1 _ _ =>
     have : es1 = [] := List.length_eq_zero_iff.1 hl1
     subst this; exact ⟨esz, rfl⟩
  ·rcases split i (List.getElem?_eq_some_iff.1 hx).1 with ⟨h1, h2⟩ | ⟨k, rfl, hk⟩
   ·rw [hoth i h1 h2] at hx; rw [tO i h1 h2] at ht
    exact (hw.objs i x l hx ht).mono step (hheap i l h1 h2 ht)
   ·obtain ⟨z, hz⟩ := hgetF k hk
    obtain ⟨y, hy, hry⟩ := hG k z hz
    rw [hx] at hy; cases hy
    rw [tF] at ht
    exact hry.at same (hst.wf.objs k z l hz ht)
  ·rcases split i hi with ⟨h1, h2⟩ | ⟨k, rfl, hk⟩
   ·rw [tO i h1 h2] at ht
    rw [hstep.old _ (hw.locLt h1 ht)]; exact hw.comm i l h1 ht
   ·rw [tF] at ht; exact hst.wf.comm k l hk ht
  ·rcases split i hi with ⟨h1, h2⟩ | ⟨k, rfl, hk⟩ <;> rcases split j hj with ⟨h3, h4⟩ | ⟨k', rfl, hk'⟩
   ·rw [tO i h1 h2] at hti; rw [tO j h3 h4] at htj; exact hw.inj i j li lj h1 h3 hti htj hb
   ·rw [tO i h1 h2] at hti; rw [tF] at htj
    exact absurd (hb ▸ hpr i li h1 h2 hti) (hst.own _ ⟨k', lj, hk', htj, rfl⟩)
   ·rw [tF] at hti; rw [tO j h3 h4] at htj
    exact absurd (hb ▸ hpr j lj h3 h4 htj) (hst.own _ ⟨k, li, hk, hti, rfl⟩)
   ·rw [tF] at hti htj
    rw [hst.wf.inj k k' li lj hk hk' hti htj hb]
  ·intro ho
   obtain ⟨k, l, hk, ht, hb2⟩ := hown _ ho
   exact hb.2 ⟨_, l, idlt (idget hk), ht, hb2⟩
  ·rintro b ⟨i, l, hi, ht, rfl⟩ hp2
   rcases split i hi with ⟨h1, h2⟩ | ⟨k, rfl, hk⟩
   ·rw [tO i h1 h2] at ht; exact hp2.2 ⟨i, l, h1, ht, rfl⟩
   ·rw [tF] at ht
    refine hst.own _ ⟨k, l, hk, ht, rfl⟩ ⟨hp2.1, fun ho => ?_⟩
    obtain ⟨k2, l2, hk2, ht2, hb2⟩ := hown _ ho
    exact hp2.2 ⟨_, l2, idlt (idget hk2), ht2, hb2⟩
 unfold CallsX at hc ⊢
 split at hc
 ·exact Calls.mono hc fun e w' hh => fin e w' hh
 ·exact fin _ _ hc
 ·exact hc

end
def RenArgs (σ : Nat → Nat) : List AVal → List AVal → Prop
 | [], [] => True
 | a :: asv, b :: bs => RenN σ a b ∧ RenArgs σ asv bs
 | _, _ => False

theorem RenArgs.get {σ : Nat → Nat} : ∀ {asv bs : List AVal}, RenArgs σ asv bs → asv.length = bs.length ∧ ∀ (i : Nat) (a b : AVal), asv[i]? = some a → bs[i]? = some b → RenN σ a b
 | [], [], _ => ⟨rfl, fun i a b h => by simp at h⟩
 | a :: asv, b :: bs, h => by
  obtain ⟨h1, h2⟩ := RenArgs.get h.2
  refine ⟨by simp [h1], fun i x y hx hy => ?_⟩
  cases i with
  | zero => simp at hx hy; subst hx hy; exact h.1
  | succ i => exact h2 i x y (by simpa using hx) (by simpa using hy)
 | [], _ :: _, h => h.elim
 | _ :: _, [], h => h.elim

def renH (σ : Nat → Nat) (H2 : List AObj) : Nat → List AObj → Prop
 | _, [] => True
 | k, x :: xs => (∃ y, H2[σ k]? = some y ∧ RenNO σ x y) ∧ renH σ H2 (k + 1) xs

theorem renH_get {σ : Nat → Nat} {H2 : List AObj} : ∀ {xs : List AObj} {k : Nat}, renH σ H2 k xs → ∀ (i : Nat) (x : AObj), xs[i]? = some x → ∃ y, H2[σ (k + i)]? = some y ∧ RenNO σ x y
 | [], k, _, i, x, h => by simp at h
 | z :: xs, k, h, i, x, hx => by
  cases i with
  | zero => simp at hx; subst hx; exact h.1
  | succ i =>
   have := renH_get h.2 i x (by simpa using hx)
   rwa [show k + 1 + i = k + (i + 1) by omega] at this

def othH (ids : List Nat) (H2 : List AObj) : Nat → List AObj → Prop
 | _, [] => True
 | j, x :: xs => (j ∈ ids ∨ H2[j]? = some x) ∧ othH ids H2 (j + 1) xs

theorem othH_get {ids : List Nat} {H2 : List AObj} : ∀ {xs : List AObj} {j : Nat}, othH ids H2 j xs → ∀ i, i < xs.length → j + i ∉ ids → H2[j + i]? = xs[i]?
 | [], j, _, i, h, _ => by simp at h
 | z :: xs, j, h, i, hi, hn => by
  cases i with
  | zero => exact h.1.resolve_left hn
  | succ i =>
   have := othH_get h.2 i (by simpa using hi) (by rwa [show j + 1 + i = j + (i + 1) by omega])
   rwa [show j + 1 + i = j + (i + 1) by omega] at this

theorem ACalls.frL {P : Program} {H : List AObj} {f : FuncId} {args0 args : List AVal} {H0 H1 H2 : List AObj} {R0 R : AVal} (h : ACalls P f args0 H0 (fun r H' => r = R0 ∧ H' = H1)) (ids : List Nat) (hnd : ids.Nodup) (hlen : ids.length = H0.length)
  (h0 : renH (frM ids H.length) H 0 H0) (ha : RenArgs (frM ids H.length) args0 args) (hR : RenN (frM ids H.length) R0 R) (hl : H2.length = H.length + (H1.length - ids.length))
  (h1 : renH (frM ids H.length) H2 0 H1) (h2 : othH ids H2 0 H) : ACalls P f args H (fun r H' => r = R ∧ H' = H2) := by
 obtain ⟨ha1, ha2⟩ := ha.get
 refine ACalls.frameN ids hnd hlen (fun k id x hk hx => ?_) ha1 ha2 h ?_
 ·have := renH_get h0 k x hx
  rwa [Nat.zero_add, frM_lt hk] at this
 ·rintro r G ⟨rfl, rfl⟩ _
  refine ⟨R, H2, hR, hl, fun k x hx => ?_, fun j hj hn => ?_, rfl, rfl⟩
  ·have := renH_get h1 k x hx
   rwa [Nat.zero_add] at this
  ·have := othH_get h2 j hj (by rwa [Nat.zero_add])
   rwa [Nat.zero_add] at this

end Go.AW

namespace Go.AW
variable [Draws]
attribute [local irreducible] ACalls
theorem Intervals_1_spec {P : Program} (F : F_z0m P) (x y : Ent) (hx : x.row.length ≤ 1000000) (H : List AObj) :
  ACalls P F.id [.agg (entC x), .agg (entC y)] H (fun r H' => r = .int .i64 (rowsCmp x.row y.row) ∧ H' = H) := by
 refine ACalls.pure rfl (acalls_of_body F.has ?_)
 (conv => whnf); refine ACalls.use (value_CompareRows_spec F.z1p false false x.row y.row hx _) ?_
 conv => whnf
 exact .closed _ rfl

end Go.AW

namespace Go.AW
variable [Draws]
theorem keyV_app {s : Sou} (hs : s.good) (row x : List V) (hr : row.length = s.cols.length) : keyV s (row ++ x) = keyV s row := by
 unfold keyV
 refine List.map_congr_left fun n hn => ?_
 obtain ⟨k, hk⟩ := List.getElem?_of_mem hn
 obtain ⟨_, h2⟩ := key_at hs hk
 rw [List.getD_eq_getElem?_getD, List.getD_eq_getElem?_getD, List.getElem?_append_left (by omega)]

theorem ivE_len {s : Sou} {v : Ver} {e : V} (hv : v.rc.row.length = s.cols.length) : (ivE s v e).row.length = s.cols.length + 2 := by
 show (v.rc.row ++ [tmV (tiV s v), e]).length = _
 rw [List.length_append, hv]; rfl

theorem ivE_from {s : Sou} {v : Ver} {e : V} (hv : v.rc.row.length = s.cols.length) : (ivE s v e).row[s.cols.length]? = some (tmV (tiV s v)) := by
 show (v.rc.row ++ [tmV (tiV s v), e])[s.cols.length]? = _
 rw [List.getElem?_append_right (by omega), hv, Nat.sub_self]; rfl

theorem ivs_disj {s : Sou} {L : List Ver} (hu : Uq s L) {v w : Ver} {e f : V} (rv : RepOf s L v) (rw0 : RepOf s L w) (ev : EndOf s L v e) (ew : EndOf s L w f) (hk : kyV s v = kyV s w) (hne : ivE s v e ≠ ivE s w f) :
  (e.kind ≠ 0 ∧ e.num ≤ tiV s w) ∨ (f.kind ≠ 0 ∧ f.num ≤ tiV s v) := by
 rcases Int.lt_trichotomy (tiV s v) (tiV s w) with h | h | h
 ·refine .inl ?_
  rcases ev with ⟨_, g⟩ | ⟨u, hu, ku, tu, rfl, g⟩
  ·have := g w rw0.1 hk.symm; omega
  ·exact ⟨by simp [tmV], g w rw0.1 hk.symm h⟩
 ·exfalso
  have h1 := rv.2 w rw0.1 hk.symm h.symm
  have h2 := rw0.2 v rv.1 hk h
  have h3 := (preC_V s).anti v w
  have := hu v rv.1 w rw0.1 (by omega)
  subst this
  exact hne (by rw [ev.uniq ew])
 ·refine .inr ?_
  rcases ew with ⟨_, g⟩ | ⟨u, hu, ku, tu, rfl, g⟩
  ·have := g v rv.1 hk; omega
  ·exact ⟨by simp [tmV], g v rv.1 hk h⟩

def conG (s : Sou) : List Ver → List Ent
 | [] => []
 | v :: vs => if (vs.head?.all fun w => rowsCmp (keyV s v.rc.row) (keyV s w.rc.row) != 0) && !v.rc.del then ⟨v.rc.row, 1⟩ :: conG s vs else conG s vs

def LastOf (s : Sou) (L : List Ver) (v : Ver) : Prop := v ∈ L ∧ ∀ w ∈ L, kyV s w = kyV s v → 0 ≤ cmpVr s v w

theorem mem_conG {s : Sou} : ∀ {L : List Ver}, AscO (cmpVr s) L → Uq s L → ∀ e, e ∈ conG s L ↔ ∃ v, LastOf s L v ∧ v.rc.del = false ∧ e = ⟨v.rc.row, 1⟩
 | [], _, _, e => by simp [conG, LastOf]
 | v :: vs, ha, hu, e => by
  obtain ⟨a1, a2⟩ := List.pairwise_cons.1 ha
  have ih := mem_conG a2 (fun x hx y hy => hu x (List.mem_cons_of_mem _ hx) y (List.mem_cons_of_mem _ hy)) e
  have hold : ∀ u, u ∈ vs → (LastOf s (v :: vs) u ↔ LastOf s vs u) := fun u hm => by
   constructor
   ·exact fun h => ⟨hm, fun w hw => h.2 w (List.mem_cons_of_mem _ hw)⟩
   ·refine fun h => ⟨List.mem_cons_of_mem _ hm, fun w hw k => ?_⟩
    rcases List.mem_cons.1 hw with rfl | hw
    ·exact a1 u hm
    ·exact h.2 w hw k
  
  have hv : v ∉ vs → (LastOf s (v :: vs) v ↔ (vs.head?.all fun w => rowsCmp (keyV s v.rc.row) (keyV s w.rc.row) != 0) = true) := fun hvn => by
   cases vs with
   | nil =>
    simp only [List.head?_nil, Option.all_none, iff_true]
    refine ⟨List.mem_cons_self .., fun w hw _ => ?_⟩
    rw [List.mem_singleton.1 hw]
    have := (preC_V s).anti v v; omega
   | cons x vs =>
    simp only [List.head?_cons, Option.all_some, bne_iff_ne, ne_eq, rowsCmp_zero]
    constructor
    ·intro h hk
     have h1 := h.2 x (List.mem_cons_of_mem _ (List.mem_cons_self ..)) hk.symm
     have h2 := a1 x (List.mem_cons_self ..)
     have h3 := (preC_V s).anti v x
     have := hu v (List.mem_cons_self ..) x (List.mem_cons_of_mem _ (List.mem_cons_self ..)) (by omega)
     subst this
     exact hvn (List.mem_cons_self ..)
    ·refine fun h => ⟨List.mem_cons_self .., fun w hw hk => ?_⟩
     rcases List.mem_cons.1 hw with rfl | hw
     ·have := (preC_V s).anti w w; omega
     exfalso
     have k1 := cmpVr_key (a1 x (List.mem_cons_self ..))
     rcases List.mem_cons.1 hw with rfl | hw
     ·exact h hk.symm
     ·have k2 := cmpVr_key ((List.pairwise_cons.1 a2).1 w hw)
      rw [hk] at k2
      exact h (key_le_antisymm k1 k2).symm
  have hdup : v ∈ vs → ((vs.head?.all fun w => rowsCmp (keyV s v.rc.row) (keyV s w.rc.row) != 0) = true) → False := fun hm hc => by
   cases vs with
   | nil => cases hm
   | cons x vs =>
    simp only [List.head?_cons, Option.all_some, bne_iff_ne, ne_eq, rowsCmp_zero] at hc
    have k1 := cmpVr_key (a1 x (List.mem_cons_self ..))
    rcases List.mem_cons.1 hm with rfl | hm
    ·exact hc rfl
    ·exact hc (key_le_antisymm k1 (cmpVr_key ((List.pairwise_cons.1 a2).1 v hm))).symm
  have split1 : (∃ u, LastOf s (v :: vs) u ∧ u.rc.del = false ∧ e = ⟨u.rc.row, 1⟩) ↔ (v ∉ vs ∧ LastOf s (v :: vs) v ∧ v.rc.del = false ∧ e = ⟨v.rc.row, 1⟩) ∨ e ∈ conG s vs := by
   rw [ih]
   constructor
   ·rintro ⟨u, h1, h2, h3⟩
    by_cases hm : u ∈ vs
    ·exact .inr ⟨u, (hold u hm).1 h1, h2, h3⟩
    ·have e1 : u = v := (List.mem_cons.1 h1.1).resolve_right hm
     subst e1
     exact .inl ⟨hm, h1, h2, h3⟩
   ·rintro (⟨_, h1, h2, h3⟩ | ⟨u, h1, h2, h3⟩)
    ·exact ⟨v, h1, h2, h3⟩
    ·exact ⟨u, (hold u h1.1).2 h1, h2, h3⟩
  rw [split1, conG]
  split
  ·rename_i hc
   rw [Bool.and_eq_true] at hc
   have hvn : v ∉ vs := fun hm => hdup hm hc.1
   rw [List.mem_cons]
   constructor
   ·rintro (rfl | h)
    ·exact .inl ⟨hvn, (hv hvn).2 hc.1, by simpa using hc.2, rfl⟩
    ·exact .inr h
   ·rintro (⟨_, _, _, h⟩ | h)
    ·exact .inl h
    ·exact .inr h
  ·rename_i hc
   constructor
   ·exact .inr
   ·rintro (⟨hvn, h1, h2, _⟩ | h)
    ·exact absurd (by rw [(hv hvn).1 h1, h2]; rfl) hc
    ·exact h

def othB (s : Sou) (key : List V) (t : Int) (e : Ent) : Bool := !(e.row.length == s.cols.length + 2 && (rowsCmp (keyV s e.row) key == 0 && (e.row.getD s.cols.length zV).num == t))

theorem correct_same {s : Sou} (hs : s.good) {L : List Ver} {x n : Ver} (hx : x ∈ L) (hok : ∀ v ∈ L, okV s v) (hn : okV s n) (hu : Uq s L) (hu2 : Uq s (L ++ [n])) (hk : kyV s n = kyV s x) (ht : tiV s n = tiV s x) :
  (ivsV s L).filter (othB s (kyV s n) (tiV s n)) = (ivsV s (L ++ [n])).filter (othB s (kyV s n) (tiV s n)) := by
 have hok2 : ∀ v ∈ L ++ [n], okV s v := fun v hv => by
  rcases List.mem_append.1 hv with h | h
  ·exact hok v h
  ·rw [List.mem_singleton.1 h]; exact hn
 have oth : ∀ v en, okV s v → (othB s (kyV s n) (tiV s n) (ivE s v en) = true ↔ ¬ (kyV s v = kyV s n ∧ tiV s v = tiV s n)) := fun v en hv => by
  have hl := fits_len hv
  unfold othB
  rw [ivE_len hl, List.getD_eq_getElem?_getD, ivE_from hl]
  have : keyV s (ivE s v en).row = kyV s v := keyV_app hs v.rc.row _ hl
  rw [this]
  simp only [Option.getD_some, tmV, beq_self_eq_true, Bool.true_and, Bool.not_eq_true', Bool.and_eq_false_imp, beq_iff_eq, rowsCmp_zero, beq_eq_false_iff_ne, ne_eq, not_and]
 have ends : ∀ v en, EndOf s L v en ↔ EndOf s (L ++ [n]) v en := fun v en => by
  constructor
  ·intro h
   refine h.congr (fun w hw => ⟨w, List.mem_append_left _ hw, rfl, rfl⟩) fun w hw => ?_
   rcases List.mem_append.1 hw with hw | hw
   ·exact ⟨w, hw, rfl, rfl⟩
   ·rw [List.mem_singleton.1 hw]; exact ⟨x, hx, hk.symm, ht.symm⟩
  ·intro h
   refine h.congr (fun w hw => ?_) fun w hw => ⟨w, List.mem_append_left _ hw, rfl, rfl⟩
   rcases List.mem_append.1 hw with hw | hw
   ·exact ⟨w, hw, rfl, rfl⟩
   ·rw [List.mem_singleton.1 hw]; exact ⟨x, hx, hk.symm, ht.symm⟩
 refine srt_ext ((srt_ivs hok hu).filter _) ((srt_ivs hok2 hu2).filter _) fun e => ?_
 rw [List.mem_filter, List.mem_filter, mem_ivs hu, mem_ivs hu2]
 constructor
 ·rintro ⟨⟨v, rv, dv, en, hen, rfl⟩, ho⟩
  have hne := (oth v en (hok v rv.1)).1 ho
  refine ⟨⟨v, ⟨List.mem_append_left _ rv.1, fun w hw k t => ?_⟩, dv, en, (ends v en).1 hen, rfl⟩, ho⟩
  rcases List.mem_append.1 hw with hw | hw
  ·exact rv.2 w hw k t
  ·rw [List.mem_singleton.1 hw] at k t; exact absurd ⟨k.symm, t.symm⟩ hne
 ·rintro ⟨⟨v, rv, dv, en, hen, rfl⟩, ho⟩
  have hne := (oth v en (hok2 v rv.1)).1 ho
  have hv : v ∈ L := by
   rcases List.mem_append.1 rv.1 with h | h
   ·exact h
   ·rw [List.mem_singleton.1 h] at hne; exact absurd ⟨rfl, rfl⟩ hne
  exact ⟨⟨v, ⟨hv, fun w hw => rv.2 w (List.mem_append_left _ hw)⟩, dv, en, (ends v en).2 hen, rfl⟩, ho⟩

end Go.AW

namespace Go.AW
variable [Draws]
theorem chk_at : ∀ {cs : List Col} {rs : List V}, chkGo cs rs = 0 → ∀ {k : Nat} {c : Col} {v : V}, cs[k]? = some c → rs[k]? = some v → validB v = true ∧ badB c v = false
 | [], _, _, k, c, v, h, _ => by simp at h
 | _ :: _, [], _, k, c, v, _, h => by simp at h
 | c0 :: cs, v0 :: rs, h, k, c, v, hc, hv => by
  rw [chkGo] at h
  split at h
  ·cases h
  split at h
  ·cases h
  rename_i h1 h2
  cases k with
  | zero =>
   simp at hc hv
   subst hc hv
   exact ⟨by simpa using h1, by simpa using h2⟩
  | succ k => exact chk_at h (by simpa using hc) (by simpa using hv)

theorem chk_of : ∀ {cs : List Col} {rs : List V}, (∀ (k : Nat) (c : Col) (v : V), cs[k]? = some c → rs[k]? = some v → validB v = true ∧ badB c v = false) → chkGo cs rs = 0
 | [], _, _ => by cases ‹List V› <;> rfl
 | _ :: _, [], _ => rfl
 | c :: cs, v :: rs, h => by
  obtain ⟨h1, h2⟩ := h 0 c v rfl rfl
  rw [chkGo, if_neg (by rw [h1]; simp), if_neg (by rw [h2]; simp)]
  exact chk_of fun k c v hc hv => h (k + 1) c v (by simpa using hc) (by simpa using hv)

theorem chkGo_app : ∀ {cs cs' : List Col} {rs rs' : List V}, cs.length = rs.length → chkGo cs rs = 0 → chkGo cs' rs' = 0 → chkGo (cs ++ cs') (rs ++ rs') = 0
 | [], _, [], _, _, _, h => h
 | [], _, _ :: _, _, h, _, _ => by simp at h
 | _ :: _, _, [], _, h, _, _ => by simp at h
 | c :: cs, cs', v :: rs, rs', hl, h, h2 => by
  rw [chkGo] at h
  split at h
  ·cases h
  split at h
  ·cases h
  rename_i a b
  rw [List.cons_append, List.cons_append, chkGo, if_neg a, if_neg b]
  exact chkGo_app (by simpa using hl) h h2

theorem del_at {s : Sou} : ∀ {cs : List Col} {rs : List V}, delGo s cs rs = 0 → ∀ {k : Nat} {c : Col} {v : V}, cs[k]? = some c → rs[k]? = some v → kcolB s c = true → validB v = true ∧ badB c v = false
 | [], _, _, k, c, v, h, _, _ => by simp at h
 | _ :: _, [], _, k, c, v, _, h, _ => by simp at h
 | c0 :: cs, v0 :: rs, h, k, c, v, hc, hv, hk => by
  rw [delGo] at h
  cases k with
  | zero =>
   simp at hc hv
   subst hc hv
   rw [if_pos hk] at h
   split at h
   ·contradiction
   ·rename_i hz
    have hz : chkRow [c0] [v0] = 0 := by omega
    rw [chkRow, if_pos (show [v0].length = [c0].length from rfl)] at hz
    exact chk_at hz (k := 0) rfl rfl
  | succ k =>
   have h2 : delGo s cs rs = 0 := by
    split at h
    ·split at h
     ·contradiction
     ·exact h
    ·split at h
     ·exact h
     ·cases h
   exact del_at h2 (by simpa using hc) (by simpa using hv) hk

theorem ok_kcol {s : Sou} {v : Ver} (h : okV s v) {k : Nat} {c : Col} {x : V} (hc : s.cols[k]? = some c) (hx : v.rc.row[k]? = some x) (hk : kcolB s c = true) : validB x = true ∧ badB c x = false := by
 have hl := fits_len h
 unfold okV fitsV at h
 split at h
 ·simp at h
 split at h
 ·unfold delV at h
  rw [if_pos hl] at h
  exact del_at h hc hx hk
 ·unfold chkRow at h
  rw [if_pos hl] at h
  exact chk_at h hc hx

theorem ok_row {s : Sou} {v : Ver} (h : okV s v) (hd : v.rc.del = false) : chkRow s.cols v.rc.row = 0 := by
 unfold okV fitsV at h
 split at h
 ·simp at h
 rw [if_neg (by rw [hd]; simp)] at h
 exact h

theorem row_valid {s : Sou} {v : Ver} (h : okV s v) (hd : v.rc.del = false) : ∀ x ∈ v.rc.row, validB x = true := fun x hx => by
 have hl := fits_len h
 have hr := ok_row h hd
 unfold chkRow at hr
 rw [if_pos hl] at hr
 obtain ⟨k, hk⟩ := List.getElem?_of_mem hx
 have := (List.getElem?_eq_some_iff.1 hk).1
 exact (chk_at hr (List.getElem?_eq_getElem (show k < s.cols.length by omega)) hk).1

theorem idxOf_or {α : Type} (p : α → Bool) : ∀ (l : List α) (i : Int), idxOf p l i = -1 ∨ i ≤ idxOf p l i
 | [], _ => .inl rfl
 | c :: cs, i => by
  rw [idxOf]
  split
  ·exact .inr (Int.le_refl _)
  ·rcases idxOf_or p cs (i + 1) with h | h
   ·exact .inl h
   ·exact .inr (by omega)

theorem named_at : ∀ (cs : List Col) (n : ByteArray) (i : Int), 0 ≤ i → i ≤ idxOf (named n) cs i → ∃ c, cs[(idxOf (named n) cs i - i).toNat]? = some c ∧ named n c = true
 | [], n, i, h, h2 => by rw [idxOf] at h2; omega
 | c :: cs, n, i, h, h2 => by
  rw [idxOf] at h2 ⊢
  split
  ·rename_i hc
   exact ⟨c, by rw [Int.sub_self]; rfl, hc⟩
  ·rename_i hc
   rw [if_neg hc] at h2
   have h3 : i + 1 ≤ idxOf (named n) cs (i + 1) := by
    rcases idxOf_or (named n) cs (i + 1) with h5 | h5
    ·omega
    ·exact h5
   obtain ⟨d, h4, h5⟩ := named_at cs n (i + 1) (by omega) h3
   refine ⟨d, ?_, h5⟩
   rw [show (idxOf (named n) cs (i + 1) - i).toNat = (idxOf (named n) cs (i + 1) - (i + 1)).toNat + 1 by omega, List.getElem?_cons_succ]
   exact h4

theorem col_named {cs : List Col} {n : ByteArray} (h : 0 ≤ colIdx cs n) : ∃ c, cs[(colIdx cs n).toNat]? = some c ∧ named n c = true := by
 unfold colIdx at h ⊢
 obtain ⟨c, h1, h2⟩ := named_at cs n 0 (Int.le_refl _) h
 exact ⟨c, by rw [Int.sub_zero] at h1; exact h1, h2⟩

theorem ok_time {s : Sou} (hs : s.good) {v : Ver} (h : okV s v) : 0 ≤ tiV s v ∧ tiV s v ≤ 575999999 ∧ ∃ x, v.rc.row[(colIdx s.cols s.att).toNat]? = some x ∧ x.kind = 4 ∧ x.num = tiV s v := by
 have hl := fits_len h
 obtain ⟨c, hc, hn⟩ := col_named hs.at0
 obtain ⟨c', hc', hk4, hnu⟩ := hs.kind
 rw [hc] at hc'; cases hc'
 have hlt := colIdx_lt s.cols s.att hs.at0
 have hx : v.rc.row[(colIdx s.cols s.att).toNat]? = some v.rc.row[(colIdx s.cols s.att).toNat] := List.getElem?_eq_getElem (by omega)
 have hkc : kcolB s c = true := by
  unfold kcolB
  rw [show eqS c.name s.att = true by
   unfold named at hn; unfold eqS; rw [beq_iff_eq] at hn ⊢; first | exact hn | exact hn.symm]
  rfl
 obtain ⟨h1, h2⟩ := ok_kcol h hc hx hkc
 have ht : tiV s v = v.rc.row[(colIdx s.cols s.att).toNat].num ∧ v.rc.row[(colIdx s.cols s.att).toNat].kind = 4 := by
  have hk : v.rc.row[(colIdx s.cols s.att).toNat].kind = 4 := by
   unfold badB at h2
   rw [hnu, hk4] at h2
   simp at h2
   exact h2.2 h2.1
  refine ⟨?_, hk⟩
  show timeV s v.rc = _
  unfold timeV
  rw [List.getD_eq_getElem?_getD, hx]
  simp only [Option.getD_some]
  have h0 : fitsV s v.rc = 0 := h
  rw [if_neg (by rw [h0, hk]; have := hs.at0; omega)]
 have hv := h1
 unfold validB at hv
 rw [ht.2] at hv
 simp at hv
 exact ⟨by omega, by omega, _, hx, ht.2, ht.1.symm⟩

theorem tm_valid {t : Int} (h0 : 0 ≤ t) (h1 : t ≤ 575999999) : validB (tmV t) = true := by
 unfold validB tmV
 simp [h0, h1]
 rfl

theorem end_valid {s : Sou} (hs : s.good) {L : List Ver} (hok : ∀ v ∈ L, okV s v) {v : Ver} {e : V} (h : EndOf s L v e) : validB e = true ∧ (e.kind = 0 ∨ e.kind = 4) := by
 rcases h with ⟨rfl, _⟩ | ⟨w, hw, _, _, rfl, _⟩
 ·exact ⟨by decide, .inl rfl⟩
 ·obtain ⟨h1, h2, _⟩ := ok_time hs (hok w hw)
  exact ⟨tm_valid h1 h2, .inr rfl⟩

theorem ivs_fit {s : Sou} (hs : s.good) {L : List Ver} (hok : ∀ v ∈ L, okV s v) (hu : Uq s L) {e : Ent} (he : e ∈ ivsV s L) : e.row.length = s.cols.length + 2 ∧ chkRow (hcols s) e.row = 0 ∧ fitB e = 0 ∧ e.cnt = 1 := by
 obtain ⟨v, rv, dv, en, hen, rfl⟩ := (mem_ivs hu e).1 he
 have hov := hok v rv.1
 have hl := fits_len hov
 obtain ⟨t1, t2, _⟩ := ok_time hs hov
 obtain ⟨e1, e2⟩ := end_valid hs hok hen
 have hr := ok_row hov dv
 unfold chkRow at hr
 rw [if_pos hl] at hr
 have hlen : (ivE s v en).row.length = s.cols.length + 2 := ivE_len hl
 refine ⟨hlen, ?_, ?_, rfl⟩
 ·unfold chkRow
  rw [if_pos (by rw [hlen, hcols, List.length_append]; rfl)]
  refine chkGo_app hl.symm hr ?_
  rw [chkGo, if_neg (by rw [tm_valid t1 t2]; simp), if_neg (by simp [badB, tmV]), chkGo, if_neg (by rw [e1]; simp), if_neg (by rcases e2 with h | h <;> simp [badB, h])]; rfl
 ·have hv := row_valid hov dv
  have h10 := (okV_len hs hov).1
  unfold fitB
  rw [if_neg (by rw [hlen]; show ¬ (12 < s.cols.length + 2 ∨ (1 : Int) < -65536 ∨ 65536 < (1 : Int)); have := hs.ten; omega), if_pos]
  refine List.all_eq_true.2 fun x hx => ?_
  rcases List.mem_append.1 (show x ∈ v.rc.row ++ [tmV (tiV s v), en] from hx) with hx | hx
  ·exact hv x hx
  ·rcases List.mem_cons.1 hx with rfl | hx
   ·exact tm_valid t1 t2
   ·rw [List.mem_singleton.1 hx]; exact e1

end Go.AW

namespace Go.AW
variable [Draws]
attribute [local irreducible] ACalls
abbrev bL (l : List Del) : AObj := .arr 1 [ledC l]

theorem pureL (l : List Del) : pureO (bL l) = true := rfl

end Go.AW

namespace Go.AW
variable [Draws]
attribute [local irreducible] ACalls
theorem mLed_len (n : Int) (ls : List Int) : (ledV (wsrc n) ls).1.length ≤ 100 := by
 have := (ledV_ok (wsrc n) ls).2
 omega

end Go.AW

namespace Go.AW
variable [Draws]
attribute [local irreducible] ACalls
set_option maxRecDepth 20000 in
theorem CloneVer_sl {P : Program} (F : F_z14 P) (cs : List Ver) (hne : cs ≠ []) (hl : cs.length ≤ 1000000) :
  ACalls P F.id [.sl 0 cs.length 0 cs.length] [vO cs] (fun r H' => r = .sl 1 cs.length 0 cs.length ∧ H' = [vO cs, vO cs]) := by
 have hpos := List.length_pos_iff.2 hne
 refine acalls_of_body F.has ?_
 (conv => whnf); refine recT (by rw [vsC_length]; exact Nat.beq_refl _) ?_
 (conv => whnf); refine And.intro ((fun h => absurd h (by omega))) ?_
 (conv => whnf); refine recT (by rw [vsC_length]; exact Nat.beq_refl _) ?_
 have e1 : List.take cs.length (List.drop 0 (vsC cs)) = vsC cs := by rw [List.drop_zero, ← vsC_length cs, List.take_length]
 (conv => whnf); refine And.intro (⟨roomMul (by simp [vsC_length]; omega) (by omega), roomB_le (by simp [vsC_length]; omega), .inr rfl⟩) ?_
 conv => whnf
 have gen : ∀ Y : List (List AVal), Y = vsC cs → (AVal.sl (0 + 1) Y.length 0 Y.length = .sl 1 cs.length 0 cs.length ∧ [vO cs, .arr 5 Y] = [vO cs, vO cs]) := by
  rintro Y rfl
  exact ⟨slEq (vsC_length _) (vsC_length _), rfl⟩
 exact gen _ (by rw [e1]; rfl)

theorem CloneVer_slF {P : Program} (F : F_z14 P) (cs : List Ver) (hne : cs ≠ []) (hl : cs.length ≤ 1000000) (o : AObj) :
  ACalls P F.id [.sl 0 cs.length 0 cs.length] [vO cs, o] (fun r H' => r = .sl 2 cs.length 0 cs.length ∧ H' = [vO cs, o, vO cs]) :=
 (CloneVer_sl F cs hne hl).frL [0] (by simp) rfl ⟨⟨_, rfl, .same (pureEs_vsC _)⟩, trivial⟩ ⟨.sl 0 _ _ _, trivial⟩ (.sl 1 _ _ _) rfl ⟨⟨_, rfl, .same (pureEs_vsC _)⟩, ⟨_, rfl, .same (pureEs_vsC _)⟩, trivial⟩ ⟨.inl (by simp), .inr rfl, trivial⟩

set_option maxRecDepth 20000 in
theorem sorted_sl {P : Program} (F : F_z0q P) (s : Sou) (hs : s.good) (vs : List Ver) (hne : vs ≠ []) (h40 : vs.length < 40) (hok : ∀ v ∈ vs, okV s v) (hU : Uq s vs) :
  ACalls P F.id [.agg (souC s), .sl 0 vs.length 0 vs.length] [vO vs] (fun r H' => r = .list false 5 (vsC (srtV s vs)) ∧ H' = [vO vs]) := by
 refine ACalls.gp (Q0 := fun r H' => Ghost [(vsC vs).length] [r] H' (fun ρ1 H1 => ∃ r', ρ1 = [r'] ∧ (r' = .list false 5 (vsC (srtV s vs)) ∧ H1 = [vO vs]))) ?_ (fun r H' h => h.1)
 refine acalls_of_body F.has ?_
 (conv => whnf); refine ACalls.retH (CloneVer_slF F.z14 vs hne (by omega) _) ?_
 conv => whnf
 refine .mk (Gp.keepL (n := 12) (live := [(2, .cptr (souC s) 0), (5, .sl 1 vs.length 0 vs.length)]) (H1 := [vO vs, vO vs]) [0, 2] (by simp) (keepB_one rfl rfl rfl) ⟨⟨_, rfl, .same _ _ (pureEs_vsC _)⟩, ⟨_, rfl, .same _ _ (pureEs_vsC _)⟩, trivial⟩ rfl ⟨.frzP 1 1 0 0 7 [souC s] _ rfl rfl rfl rfl (by simp), .keep 2 _ _ _ 1 rfl, trivial⟩ ?_)
 rintro ρ ⟨d, rfl⟩
 (conv => whnf); refine ACalls.mono (sortStable_spec F.z1c (H := [vO vs, vO vs]) (i0 := 1) (by simp) (sorted_1_spec F.z0r s hs) (orders_V s) vs rfl h40 hok) ?_
 rintro r H' ⟨rfl, Z, hp, ha, rfl⟩
 have hZ : Z = srtV s vs := isort_eq (orders_V s) hp ha hU.zz
 have hl := hp.length_eq
 conv => whnf
 exact .mk (Gp.res [0] (by simp) (keepB_one rfl rfl rfl) (H1 := [vO vs]) ⟨⟨_, rfl, .same _ _ (pureEs_vsC vs)⟩, trivial⟩ (pubFxI (id := 1) (by simp) (es := vsC (srtV s vs)) (es' := vsC Z) rfl (by rw [hZ]) (by rw [vsC_length, ← hZ, hl]) (by rw [vsC_length, ← hZ, hl]) (pureEs_vsC _)) ⟨_, rfl, rfl, rfl⟩)

theorem sorted_slF {P : Program} (F : F_z0q P) (s : Sou) (hs : s.good) (vs : List Ver) (hne : vs ≠ []) (h40 : vs.length < 40) (hok : ∀ v ∈ vs, okV s v) (hU : Uq s vs) (o : AObj) :
  ACalls P F.id [.agg (souC s), .sl 0 vs.length 0 vs.length] [vO vs, o] (fun r H' => r = .list false 5 (vsC (srtV s vs)) ∧ H' = [vO vs, o]) :=
 (sorted_sl F s hs vs hne h40 hok hU).frL [0] (by simp) rfl ⟨⟨_, rfl, .same (pureEs_vsC _)⟩, trivial⟩ ⟨.closed _ rfl, .sl 0 _ _ _, trivial⟩ (.closed _ rfl) rfl ⟨⟨_, rfl, .same (pureEs_vsC _)⟩, trivial⟩ ⟨.inl (by simp), .inr rfl, trivial⟩

set_option maxHeartbeats 1000000 in
set_option maxRecDepth 20000 in
theorem Intervals_sl {P : Program} (F : F_z0l P) (hS : SortE P F.z1b.id F.z0m.id) (s : Sou) (hs : s.good) (vs : List Ver) (hne : vs ≠ []) (h40 : vs.length < 40) (hok : ∀ v ∈ vs, okV s v) (hU : Uq s vs) :
  ACalls P F.id [.agg (souC s), .sl 0 vs.length 0 vs.length] [vO vs] (fun r H' => r = .tuple [.list false 2 (eC (ivsV s vs)), .int .i64 0] ∧ H' = [vO vs]) := by
 refine ACalls.gp (Q0 := fun r H' => Ghost [(vsC vs).length] [r] H' (fun ρ1 H1 => ∃ r', ρ1 = [r'] ∧ (r' = .tuple [.list false 2 (eC (ivsV s vs)), .int .i64 0] ∧ H1 = [vO vs]))) ?_ (fun r H' h => h.1)
 refine acalls_of_body F.has ?_
 (conv => whnf); refine ACalls.use (hColumns_spec F.z0h s hs _) ?_
 (conv => whnf); refine recT (by rw [vsC_length]; exact Nat.beq_refl _) ?_
 conv => whnf
 refine ⟨fun m ρ H1 => ∃ q : Nat, q + m = vs.length ∧ H1 = [vO vs, .arr 7 [souC s]] ∧ Sv 106 [(1, .sl 0 vs.length 0 vs.length), (2, .ptr 1 1 0 0), (25, .sl 0 vs.length 0 vs.length), (26, .int .i64 vs.length), (27, .int .i64 q)] ρ, vs.length, [], ?_, ?_⟩
 ·exact ⟨0, by omega, rfl, Sv.intro rfl ⟨rfl, rfl, rfl, rfl, rfl, trivial⟩⟩
 rintro m ρ H1 ⟨q, hk, rfl, d, rfl⟩
 (conv => whnf); refine recA (fun hlt => ?_) (fun hlt => ?_)
 ·simp at hlt
  have hx : vs[q]? = some vs[q] := List.getElem?_eq_getElem hlt
  have ho := hok _ (List.getElem_mem hlt)
  have hv := okV_len hs ho
  generalize vs[q] = v at hx hv ho
  (conv => whnf); refine recT (by rw [vsC_length]; exact Nat.beq_refl _) ?_
  (conv => whnf); refine And.intro (⟨by omega, by omega⟩) ?_
  (conv => whnf); refine recT (by rw [vsC_length]; exact Nat.beq_refl _) ?_
  (conv => whnf); refine recO ((by rw [Nat.zero_add, Int.toNat_natCast]; exact vsC_at hx)) ?_
  (conv => whnf); refine ACalls.use (wFits_spec F.z3w s hs.ok v.rc (by omega) _) ?_
  (conv => whnf); refine recF (by rw [show fitsV s v.rc = 0 from ho]; rfl) ?_
  refine ⟨m - 1, by omega, Gp.keepL (H1 := [vO vs, .arr 7 [souC s]]) [0, 1] (by simp) (keepB_one rfl rfl rfl) ⟨⟨_, rfl, .same _ _ (pureEs_vsC vs)⟩, ⟨_, rfl, .same _ _ (pureS s)⟩, trivial⟩ rfl ?_ fun ρ1 h => ⟨q + 1, by omega, rfl, h⟩⟩
  exact ⟨.keep 0 _ _ _ 0 rfl, .keepP 1 1 0 0 1 rfl, .keep 0 _ _ _ 0 rfl, .closed _ rfl, pub_int (wrapI _ (by omega) (by omega)), trivial⟩
 simp at hlt
 clear hlt hk
 have hokS : ∀ v ∈ srtV s vs, okV s v := fun v hv => hok v ((isort_perm _).mem_iff.1 hv)
 have hokU : ∀ v ∈ usedV s (srtV s vs), okV s v := fun v hv => hokS v ((usedV_sub s _).subset hv)
 have hls : (srtV s vs).length = vs.length := isort_length _
 have hlu : (usedV s (srtV s vs)).length ≤ vs.length := hls ▸ (usedV_sub s _).length_le
 (conv => whnf); refine ⟨_, sorted_slF F.z0q s hs vs hne h40 hok hU _, ?_⟩
 (conv => whnf); refine ⟨_, hused_spec F.z0s s hs false (srtV s vs) (by omega) hokS _, ?_⟩
 repeat ((conv => whnf); refine And.intro rfl ?_)
 have hI : ivsV s vs = srtE (ivsG s (usedV s (srtV s vs))) := rfl
 rw [hI]
 clear hI
 generalize usedV s (srtV s vs) = l at hokU hlu
 conv => whnf
 refine ⟨fun m ρ H1 => ∃ (k : Nat) (E : List Ent), k + m = l.length ∧ E.length ≤ k ∧ E ++ ivsG s (l.drop k) = ivsG s l ∧ H1 = [vO vs, .arr 7 [souC s], .arr 2 (eC E)] ∧ Sv 106 [(2, .ptr 1 1 0 0), (11, .list false 5 (vsC l)), (12, .sl 2 E.length 0 E.length), (44, .list false 5 (vsC l)), (45, .int .i64 l.length), (46, .int .i64 k)] ρ, l.length, [(12, 2)], ?_, ?_⟩
 ·exact ⟨0, [], by omega, by simp, rfl, rfl, Sv.intro rfl ⟨rfl, rfl, rfl, rfl, intEq (by rw [vsC_length]), rfl, trivial⟩⟩
 rintro m ρ H1 ⟨k, E, hk, hE, hr, rfl, d, rfl⟩
 (conv => whnf); refine recA (fun hlt => ?_) (fun hlt => ?_)
 ·simp at hlt
  have hx : l[k]? = some l[k] := List.getElem?_eq_getElem hlt
  have hv := okV_len hs (hokU _ (List.getElem_mem hlt))
  generalize l[k] = v at hx hv
  rw [drop_cons hx, ivsG] at hr
  have ek : IntKind.i64.wrap ((k : Int) + 1) = ((k + 1 : Nat) : Int) := by rw [wrapI _ (by omega) (by omega)]; omega
  (conv => whnf); refine And.intro (by omega) ?_
  (conv => whnf); refine recO (vsC_at hx) ?_
  (conv => whnf); refine recA (fun hd => ?_) (fun hd => ?_)
  ·rw [if_pos (show v.rc.del = true from hd)] at hr
   conv => whnf
   refine ⟨m - 1, by omega, Gp.keepL (H1 := [vO vs, .arr 7 [souC s], .arr 2 (eC E)]) [0, 1, 2] (by simp) (keepB_one rfl rfl rfl) ⟨⟨_, rfl, .same _ _ (pureEs_vsC vs)⟩, ⟨_, rfl, .same _ _ (pureS s)⟩, ⟨_, rfl, .same _ _ (pureEs_eC E)⟩, trivial⟩ rfl ?_ fun ρ1 h => ⟨k + 1, E, by omega, by omega, hr, rfl, h⟩⟩
   exact ⟨.keepP 1 1 0 0 1 rfl, .closed _ rfl, .keep 2 _ _ _ 2 rfl, .closed _ rfl, .closed _ rfl, pub_int ek, trivial⟩
  rw [if_neg (by rw [show v.rc.del = false from hd]; simp)] at hr
  (conv => whnf); refine recA (fun h1 => ?_) (fun h1 => ?_)
  ·simp [ek, vsC_length] at h1
   have h1' : k + 1 < l.length := by omega
   have hy : l[k + 1]? = some l[k + 1] := List.getElem?_eq_getElem h1'
   have hw := okV_len hs (hokU _ (List.getElem_mem h1'))
   generalize l[k + 1] = w at hy hw
   have hhd : (l.drop (k + 1)).head? = some w := by rw [drop_cons hy]; rfl
   have hidx : (vsC l)[(IntKind.i64.wrap ((k : Int) + 1)).toNat]? = some (verC w) := by rw [ek, Int.toNat_natCast]; exact vsC_at hy
   (conv => whnf); refine ⟨_, hkey_spec F.z0o s hs v hv.2 _, ?_⟩
   (conv => whnf); refine And.intro (by rw [ek]; omega) ?_
   (conv => whnf); refine recO (hidx) ?_
   (conv => whnf); refine ⟨_, hkey_spec F.z0o s hs w hw.2 _, ?_⟩
   (conv => whnf); refine ⟨_, value_CompareRows_spec F.z1p false false (keyV s v.rc.row) (keyV s w.rc.row) (by rw [keyV_length]; have := hs.klen; omega) _, ?_⟩
   repeat ((conv => whnf); refine And.intro rfl ?_)
   (conv => whnf); refine recA (fun hb => ?_) (fun hb => ?_)
   ·simp at hb
    (conv => whnf); refine And.intro (by rw [ek]; omega) ?_
    (conv => whnf); refine recO (hidx) ?_
    (conv => whnf); refine ⟨_, wTime_spec F.z3x s hs.ok w.rc (by omega) _, ?_⟩
    repeat ((conv => whnf); refine And.intro rfl ?_)
    have hen : endV s v (l.drop (k + 1)) = tmV (timeV s w.rc) := by simp only [endV, hhd]; exact if_pos hb
    (conv => whnf); refine ⟨_, _, cloneV_ex F.z13 false v.rc.row (fun h => by rw [h] at hv; simp at hv; exact hs.ne hv) (by omega) _, ?_⟩
    (conv => whnf); refine ⟨_, wTime_spec F.z3x s hs.ok v.rc (by omega) _, ?_⟩
    (conv => whnf); refine recT (by rw [vC_length]; exact Nat.beq_refl _) ?_
    (conv => whnf); refine And.intro (⟨roomMul (by simp; omega) (by omega), roomB_le (by simp; omega), rfl, by rw [vC_length]⟩) ?_
    repeat ((conv => whnf); refine And.intro rfl ?_)
    conv => whnf
    (conv => whnf); refine recT (by rw [eC_length]; exact Nat.beq_refl _) ?_
    (conv => whnf); refine And.intro (⟨roomMul (by simp; omega) (by omega), roomB_le (by simp; omega), rfl, by rw [eC_length]⟩) ?_
    conv => whnf
    have hrw : vC v.rc.row ++ [valC (tmV (timeV s v.rc)), valC (tmV (timeV s w.rc))] = vC (ivR s v (l.drop (k + 1))) := by rw [ivR, hen, vC_append]; rfl
    have hrl : (vC v.rc.row ++ [valC (tmV (timeV s v.rc)), valC (tmV (timeV s w.rc))]).length = (ivR s v (l.drop (k + 1))).length := by rw [hrw, vC_length]
    have hOl : (eC E ++ [[AVal.sl 5 (vC v.rc.row ++ [valC (tmV (timeV s v.rc)), valC (tmV (timeV s w.rc))]).length 0 (vC v.rc.row ++ [valC (tmV (timeV s v.rc)), valC (tmV (timeV s w.rc))]).length, .int .i64 1]]).length = (E ++ [(⟨ivR s v (l.drop (k + 1)), 1⟩ : Ent)]).length := by simp [eC_length]
    refine ⟨m - 1, by omega, Gp.keepL (H1 := [vO vs, .arr 7 [souC s], .arr 2 (eC (E ++ [⟨ivR s v (l.drop (k + 1)), 1⟩]))]) [0, 1, 2] (by simp) (keepB_one rfl rfl rfl) ⟨⟨_, rfl, .same _ _ (pureEs_vsC vs)⟩, ⟨_, rfl, .same _ _ (pureS s)⟩, ⟨⟨_, rfl, ?_⟩, trivial⟩⟩ rfl ?_ fun ρ1 h => ⟨k + 1, E ++ [⟨ivR s v (l.drop (k + 1)), 1⟩], by omega, by simp; omega, by rw [← hr]; simp, rfl, h⟩⟩
    ·exact obPushI E (ivR s v (l.drop (k + 1))) 1 _ 5 [0, 1, 2] _ (by simp) (by rw [← hrw]; rfl) hrl
    exact ⟨.keepP 1 1 0 0 1 rfl, .closed _ rfl, pubSl (k := 2) rfl rfl hOl hOl, .closed _ rfl, .closed _ rfl, pub_int ek, trivial⟩
   ·simp at hb
    have hen : endV s v (l.drop (k + 1)) = zV := by simp only [endV, hhd]; exact if_neg hb
    (conv => whnf); refine ⟨_, _, cloneV_ex F.z13 false v.rc.row (fun h => by rw [h] at hv; simp at hv; exact hs.ne hv) (by omega) _, ?_⟩
    (conv => whnf); refine ⟨_, wTime_spec F.z3x s hs.ok v.rc (by omega) _, ?_⟩
    (conv => whnf); refine recT (by rw [vC_length]; exact Nat.beq_refl _) ?_
    (conv => whnf); refine And.intro (⟨roomMul (by simp; omega) (by omega), roomB_le (by simp; omega), rfl, by rw [vC_length]⟩) ?_
    repeat ((conv => whnf); refine And.intro rfl ?_)
    conv => whnf
    (conv => whnf); refine recT (by rw [eC_length]; exact Nat.beq_refl _) ?_
    (conv => whnf); refine And.intro (⟨roomMul (by simp; omega) (by omega), roomB_le (by simp; omega), rfl, by rw [eC_length]⟩) ?_
    conv => whnf
    have hrw : vC v.rc.row ++ [valC (tmV (timeV s v.rc)), valC (zV)] = vC (ivR s v (l.drop (k + 1))) := by rw [ivR, hen, vC_append]; rfl
    have hrl : (vC v.rc.row ++ [valC (tmV (timeV s v.rc)), valC (zV)]).length = (ivR s v (l.drop (k + 1))).length := by rw [hrw, vC_length]
    have hOl : (eC E ++ [[AVal.sl 5 (vC v.rc.row ++ [valC (tmV (timeV s v.rc)), valC (zV)]).length 0 (vC v.rc.row ++ [valC (tmV (timeV s v.rc)), valC (zV)]).length, .int .i64 1]]).length = (E ++ [(⟨ivR s v (l.drop (k + 1)), 1⟩ : Ent)]).length := by simp [eC_length]
    refine ⟨m - 1, by omega, Gp.keepL (H1 := [vO vs, .arr 7 [souC s], .arr 2 (eC (E ++ [⟨ivR s v (l.drop (k + 1)), 1⟩]))]) [0, 1, 2] (by simp) (keepB_one rfl rfl rfl) ⟨⟨_, rfl, .same _ _ (pureEs_vsC vs)⟩, ⟨_, rfl, .same _ _ (pureS s)⟩, ⟨⟨_, rfl, ?_⟩, trivial⟩⟩ rfl ?_ fun ρ1 h => ⟨k + 1, E ++ [⟨ivR s v (l.drop (k + 1)), 1⟩], by omega, by simp; omega, by rw [← hr]; simp, rfl, h⟩⟩
    ·exact obPushI E (ivR s v (l.drop (k + 1))) 1 _ 5 [0, 1, 2] _ (by simp) (by rw [← hrw]; rfl) hrl
    exact ⟨.keepP 1 1 0 0 1 rfl, .closed _ rfl, pubSl (k := 2) rfl rfl hOl hOl, .closed _ rfl, .closed _ rfl, pub_int ek, trivial⟩
  ·simp [ek, vsC_length] at h1
   repeat ((conv => whnf); refine And.intro rfl ?_)
   have hhd : (l.drop (k + 1)).head? = none := by rw [List.drop_of_length_le (by omega)]; rfl
   have hen : endV s v (l.drop (k + 1)) = zV := by simp only [endV, hhd]
   (conv => whnf); refine ⟨_, _, cloneV_ex F.z13 false v.rc.row (fun h => by rw [h] at hv; simp at hv; exact hs.ne hv) (by omega) _, ?_⟩
   (conv => whnf); refine ⟨_, wTime_spec F.z3x s hs.ok v.rc (by omega) _, ?_⟩
   (conv => whnf); refine recT (by rw [vC_length]; exact Nat.beq_refl _) ?_
   (conv => whnf); refine And.intro (⟨roomMul (by simp; omega) (by omega), roomB_le (by simp; omega), rfl, by rw [vC_length]⟩) ?_
   repeat ((conv => whnf); refine And.intro rfl ?_)
   conv => whnf
   (conv => whnf); refine recT (by rw [eC_length]; exact Nat.beq_refl _) ?_
   (conv => whnf); refine And.intro (⟨roomMul (by simp; omega) (by omega), roomB_le (by simp; omega), rfl, by rw [eC_length]⟩) ?_
   conv => whnf
   have hrw : vC v.rc.row ++ [valC (tmV (timeV s v.rc)), valC (zV)] = vC (ivR s v (l.drop (k + 1))) := by rw [ivR, hen, vC_append]; rfl
   have hrl : (vC v.rc.row ++ [valC (tmV (timeV s v.rc)), valC (zV)]).length = (ivR s v (l.drop (k + 1))).length := by rw [hrw, vC_length]
   have hOl : (eC E ++ [[AVal.sl 5 (vC v.rc.row ++ [valC (tmV (timeV s v.rc)), valC (zV)]).length 0 (vC v.rc.row ++ [valC (tmV (timeV s v.rc)), valC (zV)]).length, .int .i64 1]]).length = (E ++ [(⟨ivR s v (l.drop (k + 1)), 1⟩ : Ent)]).length := by simp [eC_length]
   refine ⟨m - 1, by omega, Gp.keepL (H1 := [vO vs, .arr 7 [souC s], .arr 2 (eC (E ++ [⟨ivR s v (l.drop (k + 1)), 1⟩]))]) [0, 1, 2] (by simp) (keepB_one rfl rfl rfl) ⟨⟨_, rfl, .same _ _ (pureEs_vsC vs)⟩, ⟨_, rfl, .same _ _ (pureS s)⟩, ⟨⟨_, rfl, ?_⟩, trivial⟩⟩ rfl ?_ fun ρ1 h => ⟨k + 1, E ++ [⟨ivR s v (l.drop (k + 1)), 1⟩], by omega, by simp; omega, by rw [← hr]; simp, rfl, h⟩⟩
   ·exact obPushI E (ivR s v (l.drop (k + 1))) 1 _ 5 [0, 1, 2] _ (by simp) (by rw [← hrw]; rfl) hrl
   exact ⟨.keepP 1 1 0 0 1 rfl, .closed _ rfl, pubSl (k := 2) rfl rfl hOl hOl, .closed _ rfl, .closed _ rfl, pub_int ek, trivial⟩
 ·simp at hlt
  rw [List.drop_of_length_le (by omega), ivsG, List.append_nil] at hr
  subst hr
  have hll := ivsG_len s l
  have hrr := ivsG_row s hs l hokU
  (conv => whnf); refine recT (by rw [eC_length]; exact Nat.beq_refl _) ?_
  (conv => whnf); refine recF (by simp; omega) ?_
  (conv => whnf); refine ACalls.mono (hS.all (ivsG s l) (by omega) (fun e h => by have := hrr e h; omega) _ 2 rfl) ?_
  rintro r H' ⟨rfl, t, hp, ha, rfl⟩
  have ht : t = srtE (ivsG s l) := srtE_eq hp ha fun x hx y hy h => by
   have a := ivsG_one s l x hx
   have b := ivsG_one s l y hy
   cases x; cases y; simp_all
  have hl := hp.length_eq
  conv => whnf
  refine .mk (Gp.res [0] (by simp) (keepB_one rfl rfl rfl) (H1 := [vO vs]) ⟨⟨_, rfl, .same _ _ (pureEs_vsC vs)⟩, trivial⟩ (pub2 (pubFxI (id := 2) (by simp) (es := eC (srtE (ivsG s l))) (es' := eC t) rfl (by rw [ht]) ?_ ?_ (pureEs_eC _)) (.closed _ rfl)) ⟨_, rfl, rfl, rfl⟩)
  ·rw [eC_length, ← ht, hl]
  ·rw [eC_length, ← ht, hl]

end Go.AW

namespace Go.AW
variable [Draws]
attribute [local irreducible] ACalls
set_option maxRecDepth 20000 in
theorem sameName_spec {P : Program} (F : F_z1x P) (l : List ByteArray) (s : ByteArray) (hl : l.length ≤ 1000000) (H : List AObj) :
  ACalls P F.id [.list false 1 (sC l), .str s] H (fun r H' => r = .bool (inB l s) ∧ H' = H) := by
 refine ACalls.pure rfl (acalls_of_body F.has ?_)
 conv => whnf
 refine ⟨fun m ρ H1 => ∃ k : Nat, k + m = l.length ∧ inB l s = inB (l.drop k) s ∧ H1 = [] ∧ Sv 18 [(0, .list false 1 (sC l)), (1, .str s), (5, .int .i64 k)] ρ, l.length, [], ?_, ?_⟩
 ·exact ⟨0, by omega, rfl, rfl, Sv.intro rfl ⟨rfl, rfl, rfl, trivial⟩⟩
 rintro m ρ H1 ⟨k, hk, hr, rfl, d, rfl⟩
 (conv => whnf); refine recA (fun hlt => ?_) (fun hlt => ?_)
 ·simp [sC_length] at hlt
  have hx : l[k]? = some l[k] := List.getElem?_eq_getElem hlt
  replace hr : inB l s = (eqS l[k] s || inB (l.drop (k + 1)) s) := hr.trans (by rw [List.drop_eq_getElem_cons hlt]; rfl)
  (conv => whnf); refine And.intro (by omega) ?_
  (conv => whnf); refine recO (sC_at hx) ?_
  (conv => whnf); refine recA (fun h1 => ?_) (fun h1 => ?_)
  ·replace h1 : eqS l[k] s = true := h1
   conv => whnf
   rw [hr, h1]
   exact pubB rfl
  ·replace h1 : eqS l[k] s = false := h1
   rw [h1] at hr
   conv => whnf
   refine ⟨m - 1, by omega, Gp.none rfl ?_ fun ρ1 h => ⟨k + 1, by omega, hr, rfl, h⟩⟩
   exact ⟨.closed _ rfl, .closed _ rfl, pub_int (wrapI _ (by omega) (by omega)), trivial⟩
 ·simp [sC_length] at hlt
  rw [List.drop_of_length_le (by omega)] at hr
  conv => whnf
  rw [hr]
  exact pubB rfl

set_option maxHeartbeats 1000000 in
set_option maxRecDepth 20000 in
theorem others_raw {P : Program} (F : F_z1w P) (s : Sou) (hs : s.good) (rows : List Ent) (hl : rows.length ≤ 10000) (hr : ∀ e ∈ rows, e.row.length = s.cols.length + 2) (key : List V) (hk : key.length ≤ 1000) (t : Int) (H : List AObj) :
  ACalls P F.id [.agg (souC s), .list false 2 (eC rows), .list false 3 (vC key), .int .i64 t] H (fun r H' => r = .list false 2 (eC (rows.filter (othB s key t))) ∧ H' = H) := by
 have hkl := hs.klen
 have hten := hs.ten
 refine ACalls.pure (by simp [souC, AVal.closed, AVal.isPure]) (acalls_of_body F.has ?_)
 conv => whnf
 refine ⟨fun m ρ H1 => ∃ (k : Nat) (U : List Ent), k + m = rows.length ∧ U.length ≤ k ∧ U ++ (rows.drop k).filter (othB s key t) = rows.filter (othB s key t) ∧ H1 = [.arr 7 [souC s], .arr 2 (eC U)] ∧ Sv 56 [(1, .list false 2 (eC rows)), (2, .list false 3 (vC key)), (3, .int .i64 t), (4, .ptr 0 1 0 0), (9, .sl 1 U.length 0 U.length), (10, .int .i64 k)] ρ, rows.length, [(9, 2)], ?_, ?_⟩
 ·exact ⟨0, [], by omega, by simp, rfl, rfl, Sv.intro rfl ⟨rfl, rfl, rfl, rfl, rfl, rfl, trivial⟩⟩
 rintro m ρ H1 ⟨k, U, hkm, hU, hR, rfl, d, rfl⟩
 (conv => whnf); refine recA (fun hlt => ?_) (fun hlt => ?_)
 ·simp [eC_length] at hlt
  have hx : rows[k]? = some rows[k] := List.getElem?_eq_getElem hlt
  have hxl := hr _ (List.getElem_mem hlt)
  generalize rows[k] = x at hx hxl
  rw [drop_cons hx, List.filter_cons] at hR
  have ek : IntKind.i64.wrap ((k : Int) + 1) = ((k + 1 : Nat) : Int) := by rw [wrapI _ (by omega) (by omega)]; omega
  have ec2 : IntKind.i64.wrap ((s.cols.length : Int) + 2) = ((s.cols.length + 2 : Nat) : Int) := by rw [wrapI _ (by omega) (by omega)]; omega
  have hy : x.row[s.cols.length]? = some (x.row.getD s.cols.length zV) := by rw [List.getD_eq_getElem?_getD, List.getElem?_eq_getElem (by omega)]; rfl
  (conv => whnf); refine And.intro (by omega) ?_
  (conv => whnf); refine recO (eC_at hx) ?_
  (conv => whnf); refine recT (by rw [vC_length, cC_length, hxl, ec2]; simp) ?_
  (conv => whnf); refine ACalls.use (key26_spec F.z2q s hs false x.row (by omega) (by omega) _) ?_
  (conv => whnf); refine ACalls.use (ref22_SameRow_spec F.z27 false false (keyV s x.row) key (by rw [keyV_length]; omega) _) ?_
  have hqe : eqD (keyV s x.row) key = (rowsCmp (keyV s x.row) key == 0) := by
   by_cases h : keyV s x.row = key
   ·rw [eqD_true h, (rowsCmp_zero _ _).2 h]; rfl
   ·rw [eqD_false h]
    have : rowsCmp (keyV s x.row) key ≠ 0 := fun e => h ((rowsCmp_zero _ _).1 e)
    simp [this]
  (conv => whnf); refine recA (fun hq => ?_) (fun hq => ?_)
  ·rw [hqe] at hq
   (conv => whnf); refine And.intro (by omega) ?_
   (conv => whnf); refine recO ((show (vC x.row)[((cC s.cols).length : Int).toNat]? = some (valC (x.row.getD s.cols.length zV)) from by rw [Int.toNat_natCast, cC_length]; exact vC_at hy)) ?_
   (conv => whnf); refine recA (fun ht => ?_) (fun ht => ?_)
   ·rw [if_neg (by unfold othB; rw [hxl, hq, show ((x.row.getD s.cols.length zV).num == t) = true from ht]; simp)] at hR
    conv => whnf
    refine ⟨m - 1, by omega, Gp.first 2 [.arr 7 [souC s], .arr 2 (eC U)] rfl rfl (all2 (pureS s) (pureEs_eC _)) rfl ?_ fun ρ1 h => ⟨k + 1, U, by omega, by omega, hR, rfl, h⟩⟩
    exact ⟨.closed (.list false 2 (eC rows)) rfl, .closed (.list false 3 (vC key)) rfl, .closed _ rfl, .keepP 0 1 0 0 0 rfl, .keep 1 _ _ _ 1 rfl, pub_int ek, trivial⟩
   ·(conv => whnf); refine And.intro (by omega) ?_
    (conv => whnf); refine recO (eC_at hx) ?_
    (conv => whnf); refine recT (by rw [eC_length]; exact Nat.beq_refl _) ?_
    (conv => whnf); refine And.intro (⟨roomMul (by simp; omega) (by omega), roomB_le (by simp; omega), rfl, by rw [eC_length]⟩) ?_
    conv => whnf
    rw [if_pos (by unfold othB; rw [show ((x.row.getD s.cols.length zV).num == t) = false from ht]; simp)] at hR
    have hcn : eC U ++ [entC x] = eC (U ++ [x]) := by rw [eC_append]; rfl
    have hl2 : (eC U ++ [entC x]).length = (U ++ [x]).length := by rw [hcn, eC_length]
    refine ⟨m - 1, by omega, Gp.first 2 [.arr 7 [souC s], .arr 2 (eC U ++ [entC x])] rfl rfl (by rw [hcn]; exact all2 (pureS s) (pureEs_eC _)) rfl ?_ fun ρ1 h => ⟨k + 1, U ++ [x], by omega, by simp; omega, by rw [← hR]; simp, by rw [hcn], h⟩⟩
    exact ⟨.closed (.list false 2 (eC rows)) rfl, .closed (.list false 3 (vC key)) rfl, .closed _ rfl, .keepP 0 1 0 0 0 rfl, pubSl (k := 1) rfl rfl hl2 hl2, pub_int ek, trivial⟩
  ·rw [hqe] at hq
   (conv => whnf); refine And.intro (by omega) ?_
   (conv => whnf); refine recO (eC_at hx) ?_
   (conv => whnf); refine recT (by rw [eC_length]; exact Nat.beq_refl _) ?_
   (conv => whnf); refine And.intro (⟨roomMul (by simp; omega) (by omega), roomB_le (by simp; omega), rfl, by rw [eC_length]⟩) ?_
   conv => whnf
   rw [if_pos (by unfold othB; rw [hq]; simp)] at hR
   have hcn : eC U ++ [entC x] = eC (U ++ [x]) := by rw [eC_append]; rfl
   have hl2 : (eC U ++ [entC x]).length = (U ++ [x]).length := by rw [hcn, eC_length]
   refine ⟨m - 1, by omega, Gp.first 2 [.arr 7 [souC s], .arr 2 (eC U ++ [entC x])] rfl rfl (by rw [hcn]; exact all2 (pureS s) (pureEs_eC _)) rfl ?_ fun ρ1 h => ⟨k + 1, U ++ [x], by omega, by simp; omega, by rw [← hR]; simp, by rw [hcn], h⟩⟩
   exact ⟨.closed (.list false 2 (eC rows)) rfl, .closed (.list false 3 (vC key)) rfl, .closed _ rfl, .keepP 0 1 0 0 0 rfl, pubSl (k := 1) rfl rfl hl2 hl2, pub_int ek, trivial⟩
 ·simp [eC_length] at hlt
  rw [List.drop_of_length_le (by omega), List.filter_nil, List.append_nil] at hR
  rw [← hR]
  conv => whnf
  exact pubFI (by simp) rfl (eC_length _).symm (eC_length _).symm (pureEs_eC _)

def mixG (s : Sou) : List Col → List V → List V → List V
 | c :: cs, a :: asv, b :: bs => (if kcolB s c then a else b) :: mixG s cs asv bs
 | _, _, _ => []

theorem mixG_len (s : Sou) : ∀ {cs : List Col} {asv bs : List V}, asv.length = cs.length → bs.length = cs.length → (mixG s cs asv bs).length = cs.length
 | [], _, _, _, _ => rfl
 | _ :: _, [], _, h, _ => by simp at h
 | _ :: _, _ :: _, [], _, h => by simp at h
 | c :: cs, a :: asv, b :: bs, h1, h2 => by rw [mixG, List.length_cons, mixG_len s (by simpa using h1) (by simpa using h2), List.length_cons]

theorem mixG_at (s : Sou) : ∀ {cs : List Col} {asv bs : List V} {k : Nat} {c : Col} {a b : V}, cs[k]? = some c → asv[k]? = some a → bs[k]? = some b → (mixG s cs asv bs)[k]? = some (if kcolB s c then a else b)
 | [], _, _, k, c, a, b, h, _, _ => by simp at h
 | _ :: _, [], _, k, c, a, b, _, h, _ => by simp at h
 | _ :: _, _ :: _, [], k, c, a, b, _, _, h => by simp at h
 | c0 :: cs, a0 :: asv, b0 :: bs, k, c, a, b, h1, h2, h3 => by
  rw [mixG]
  cases k with
  | zero => simp at h1 h2 h3; subst h1 h2 h3; rfl
  | succ k => exact mixG_at s (by simpa using h1) (by simpa using h2) (by simpa using h3)

theorem wv1_fit (k : Int) (h1 : 1 ≤ k) (h2 : k ≤ 4) (l : List Int) (i : Nat) : validB (wv1 k l i).1 = true ∧ (wv1 k l i).1.kind = k := by
 have a2 := nx_bnd l i 2 (by decide)
 have a7 := nx_bnd l i 7 (by decide)
 have a5 := nx_bnd l i 5 (by decide)
 have a16 := nx_bnd l i 16 (by decide)
 unfold wv1
 split
 ·rename_i h; subst h
  refine ⟨?_, rfl⟩
  unfold validB
  have : (nx l i 2).1 = 0 ∨ (nx l i 2).1 = 1 := by omega
  rcases this with h | h <;> simp [h] <;> rfl
 split
 ·rename_i h; subst h
  refine ⟨?_, rfl⟩
  show (decide (-1073741824 ≤ (nx l i 7).1 - 1) && decide ((nx l i 7).1 - 1 ≤ 1073741824) && ((bs []).data.toList == [])) = true
  rw [decide_eq_true (by omega), decide_eq_true (by omega)]; rfl
 split
 ·rename_i h; subst h
  refine ⟨?_, rfl⟩
  have : ∀ q : Nat, q < 5 → validB ⟨3, 0, wtexts.getD q (bs [])⟩ = true := by decide
  exact this _ (by omega)
 ·have hk : k = 4 := by omega
  subst hk
  refine ⟨?_, rfl⟩
  have : ∀ q : Nat, q < 16 → validB ⟨4, instL.getD q 0, bs []⟩ = true := by decide
  exact this _ (by omega)

theorem wv_fit (c : Col) (h1 : 1 ≤ c.kind) (h2 : c.kind ≤ 4) (l : List Int) (i : Nat) : validB (wv c l i).1 = true ∧ badB c (wv c l i).1 = false := by
 unfold wv
 split
 ·rename_i hn
  split
  ·refine ⟨show validB zV = true by decide, ?_⟩
   simp [badB, zV, hn]
  ·obtain ⟨a, b⟩ := wv1_fit c.kind h1 h2 l (nx l i 5).2
   exact ⟨a, by simp [badB, b, hn]⟩
 ·obtain ⟨a, b⟩ := wv1_fit c.kind h1 h2 l i
  refine ⟨a, ?_⟩
  simp only [badB, b]
  have : c.kind ≠ 0 := by omega
  simp [this]

theorem wr_app (l : List Int) : ∀ (cs : List Col) (i : Nat) (out : List V), wr l cs i out = (out ++ (wr l cs i []).1, (wr l cs i []).2)
 | [], i, out => by simp [wr]
 | c :: cs, i, out => by
  rw [wr, wr_app l cs _ (out ++ [(wv c l i).1]), wr, wr_app l cs _ ([] ++ [(wv c l i).1])]
  simp

theorem wr_fit (l : List Int) : ∀ (cs : List Col) (i : Nat), (∀ c ∈ cs, 1 ≤ c.kind ∧ c.kind ≤ 4) → chkGo cs (wr l cs i []).1 = 0
 | [], _, _ => by rfl
 | c :: cs, i, h => by
  rw [wr, wr_app]
  obtain ⟨a, b⟩ := wv_fit c (h c (List.mem_cons_self ..)).1 (h c (List.mem_cons_self ..)).2 l i
  show chkGo (c :: cs) ((wv c l i).1 :: (wr l cs (wv c l i).2 []).1) = 0
  rw [chkGo, if_neg (by rw [a]; simp), if_neg (by rw [b]; simp)]
  exact wr_fit l cs _ fun c hc => h c (List.mem_cons_of_mem _ hc)

theorem mix_ok {s : Sou} (hs : s.good) {x : Ver} (hx : okV s x) {w : List V} (hw : chkGo s.cols w = 0) (hwl : w.length = s.cols.length) :
  okV s ⟨⟨false, 1000, mixG s s.cols x.rc.row w⟩, 100, 0⟩ ∧ kyV s ⟨⟨false, 1000, mixG s s.cols x.rc.row w⟩, 100, 0⟩ = kyV s x ∧ tiV s ⟨⟨false, 1000, mixG s s.cols x.rc.row w⟩, 100, 0⟩ = tiV s x := by
 have hl := fits_len hx
 have hml := mixG_len s hl hwl
 have hok : okV s ⟨⟨false, 1000, mixG s s.cols x.rc.row w⟩, 100, 0⟩ := by
  show fitsV s ⟨false, 1000, mixG s s.cols x.rc.row w⟩ = 0
  unfold fitsV
  rw [if_neg (by simp), if_neg (by simp)]
  show chkRow s.cols (mixG s s.cols x.rc.row w) = 0
  rw [chkRow, if_pos hml]
  refine chk_of fun k c v hc hv => ?_
  have hk := (List.getElem?_eq_some_iff.1 hc).1
  have ha : x.rc.row[k]? = some x.rc.row[k] := List.getElem?_eq_getElem (by omega)
  have hb : w[k]? = some w[k] := List.getElem?_eq_getElem (by omega)
  rw [mixG_at s hc ha hb] at hv
  cases hv
  split
  ·rename_i hkc
   exact ok_kcol hx hc ha hkc
  ·exact chk_at hw hc hb
 refine ⟨hok, ?_, ?_⟩
 ·show keyV s (mixG s s.cols x.rc.row w) = keyV s x.rc.row
  unfold keyV
  refine List.map_congr_left fun n hn => ?_
  obtain ⟨j, hj⟩ := List.getElem?_of_mem hn
  obtain ⟨h1, h2⟩ := key_at hs hj
  obtain ⟨c, hc, hnm⟩ := col_named h1
  have ha : x.rc.row[(colIdx s.cols n).toNat]? = some x.rc.row[(colIdx s.cols n).toNat] := List.getElem?_eq_getElem (by omega)
  have hb : w[(colIdx s.cols n).toNat]? = some w[(colIdx s.cols n).toNat] := List.getElem?_eq_getElem (by omega)
  have hkc : kcolB s c = true := by
   unfold kcolB
   rw [show inB s.key c.name = true by
    unfold inB
    rw [List.any_eq_true]
    refine ⟨n, hn, ?_⟩
    unfold named at hnm; unfold eqS; rw [beq_iff_eq] at hnm ⊢; exact hnm.symm]
   simp
  rw [List.getD_eq_getElem?_getD, List.getD_eq_getElem?_getD, mixG_at s hc ha hb, if_pos hkc, ha]
 ·obtain ⟨_, _, a, ha, _, han⟩ := ok_time hs hx
  obtain ⟨_, _, b, hb, _, hbn⟩ := ok_time hs hok
  obtain ⟨c, hc, hnm⟩ := col_named hs.at0
  have hlt := colIdx_lt s.cols s.att hs.at0
  have hw1 : w[(colIdx s.cols s.att).toNat]? = some w[(colIdx s.cols s.att).toNat] := List.getElem?_eq_getElem (by omega)
  have hkc : kcolB s c = true := by
   unfold kcolB
   rw [show eqS c.name s.att = true by
    unfold named at hnm; unfold eqS; rw [beq_iff_eq] at hnm ⊢; exact hnm]
   rfl
  have hb2 : (mixG s s.cols x.rc.row w)[(colIdx s.cols s.att).toNat]? = some b := hb
  rw [mixG_at s hc ha hw1, if_pos hkc] at hb2
  cases hb2
  omega

end Go.AW

namespace Go.AW
variable [Draws]
attribute [local irreducible] ACalls
theorem ledGo_le (s : Src) (ls : List Int) : ∀ (m k i : Nat) (l : List Del), i ≤ ls.length → (ledGo s ls m k i l).2 ≤ ls.length
 | 0, _, _, _, h => h
 | m + 1, k, i, l, h => by
  rw [ledGo]
  exact ledGo_le s ls m _ _ _ (delivV_le s ls _ _ _ (nx_le ls i 8 h))

theorem ledV_le (s : Src) (ls : List Int) : (ledV s ls).2 ≤ ls.length := ledGo_le s ls 4 0 0 [] (by omega)

theorem mV_file (n : Int) (ls : List Int) : ∀ v ∈ mV n ls, v.file < 100 := fun v hv => by
 have hv := (srtV_mem _ _ v).1 hv
 obtain ⟨k, x, h1, h2⟩ := couL_mem hv
 have h3 := (couR_mem h2).2.2.1
 have := (List.getElem?_eq_some_iff.1 h1).1
 have := mLed_len n ls
 have := (ledV_ok (wsrc n) ls).2
 omega

theorem wsrc_kinds (n : Int) : ∀ c ∈ (wsrc n).cols, 1 ≤ c.kind ∧ c.kind ≤ 4 := by
 rw [wsrcC]
 split
 ·intro c hc
  simp [wcols] at hc
  rcases hc with rfl | rfl | rfl | rfl <;> decide
 ·intro c hc
  simp [wcols] at hc
  rcases hc with rfl | rfl | rfl <;> decide

theorem Intervals_slF {P : Program} (F : F_z0l P) (hS : SortE P F.z1b.id F.z0m.id) (s : Sou) (hs : s.good) (vs : List Ver) (hne : vs ≠ []) (h40 : vs.length < 40) (hok : ∀ v ∈ vs, okV s v) (hU : Uq s vs) (a b : AObj) {n : Nat} (hn : n = vs.length) :
  ACalls P F.id [.agg (souC s), .sl 2 n 0 n] [a, b, vO vs] (fun r H' => r = .tuple [.list false 2 (eC (ivsV s vs)), .int .i64 0] ∧ H' = [a, b, vO vs]) := by
 subst hn
 exact (Intervals_sl F hS s hs vs hne h40 hok hU).frL [2] (by simp) rfl ⟨⟨_, rfl, .same (pureEs_vsC _)⟩, trivial⟩ ⟨.closed _ rfl, .sl 0 _ _ _, trivial⟩ (.tuple [_, _] [_, _] rfl fun i v q h1 h2 => by
   rcases i with _ | _ | i
   ·cases h1; cases h2; exact .closed _ rfl
   ·cases h1; cases h2; exact .closed _ rfl
   ·simp at h1) rfl ⟨⟨_, rfl, .same (pureEs_vsC _)⟩, trivial⟩ ⟨.inr rfl, .inr rfl, .inl (by simp), trivial⟩

theorem mix_skip {s : Sou} {cs : List Col} {x w : List V} {k : Nat} {c : Col} (hx : x.length = cs.length) (hw : w.length = cs.length) (hc : cs[k]? = some c) (hk : kcolB s c = false) : (mixG s cs x w).take (k + 1) ++ w.drop (k + 1) = (mixG s cs x w).take k ++ w.drop k := by
 have hl := (List.getElem?_eq_some_iff.1 hc).1
 have hm := mixG_at s hc (List.getElem?_eq_getElem (show k < x.length by omega)) (List.getElem?_eq_getElem (show k < w.length by omega))
 rw [if_neg (by simp [hk])] at hm
 rw [take_snoc hm, drop_cons (List.getElem?_eq_getElem (show k < w.length by omega)), List.append_assoc]; rfl

theorem mix_set {s : Sou} {cs : List Col} {x w : List V} {k : Nat} {c : Col} {a : V} (hx : x.length = cs.length) (hw : w.length = cs.length) (hc : cs[k]? = some c) (ha : x[k]? = some a) (hk : kcolB s c = true) : ((mixG s cs x w).take k ++ w.drop k).set k a = (mixG s cs x w).take (k + 1) ++ w.drop (k + 1) := by
 have hl := (List.getElem?_eq_some_iff.1 hc).1
 have hm := mixG_at s hc ha (List.getElem?_eq_getElem (show k < w.length by omega))
 rw [if_pos hk] at hm
 have hml := mixG_len s hx hw
 have htl : ((mixG s cs x w).take k).length = k := by rw [List.length_take]; omega
 rw [List.set_append_right _ _ (by omega), htl, Nat.sub_self, drop_cons (List.getElem?_eq_getElem (show k < w.length by omega)), List.set_cons_zero, take_snoc hm, List.append_assoc]; rfl

set_option maxHeartbeats 2000000 in
set_option maxRecDepth 20000 in
theorem law_HistoryCorrects {P : Program} (F : F_z1t P) (hI : SortE P F.z0l.z1b.id F.z0l.z0m.id) (hI2 : SortE P F.z1u.z0l.z1b.id F.z1u.z0l.z0m.id) (hS3 : SortE P F.z1u.z0j.z0p.z00.z05.z1b.id F.z1u.z0j.z0p.z00.z05.z06.id) (hS4 : SortE P F.z1u.z0f.z0p.z00.z05.z1b.id F.z1u.z0f.z0p.z00.z05.z06.id)
  (n : Int) (ls : List Int) (b : Int) :
  ACalls P F.id [.int .i64 n, .list false 1 (iC ls), .int .i64 b] [] (fun q _ => q = .bool true) := by
 have known := fun H => known27_spec F.z1u hI2 hS3 hS4 H
 refine acalls_of_body F.has ?_
 (conv => whnf); refine recA (fun h1 => ?_) (fun h1 => ?_)
 ·(conv => whnf); refine ACalls.use (known _) ?_
  conv => whnf
 simp [iC_length] at h1
 have hs := wgood n
 have hten : (wsrc n).cols.length ≤ 10 := hs.ten
 have hcn : (wsrc n).cols ≠ [] := hs.ne
 obtain ⟨m1, m2, m3⟩ := made_ok n ls
 have hle := ledV_le (wsrc n) ls
 (conv => whnf); refine ACalls.mono (made_spec F.z1v n ls (by omega) _) ?_
 rintro r H' ⟨rfl, rfl⟩
 (conv => whnf); refine ACalls.use (versions26_spec F.z2t (souS (wsrc n)) hs (ledV (wsrc n) ls).1 m1 m2 m3 _) ?_
 have hV : srtV (souS (wsrc n)) (couL (souS (wsrc n)) 0 (ledV (wsrc n) ls).1) = mV n ls := rfl
 rw [hV]
 clear hV
 have v1 := mV_len n ls
 have v2 := mV_ok n ls
 have v3 := mV_uq n ls
 have v4 := mV_file n ls
 generalize mV n ls = V at v1 v2 v3 v4
 (conv => whnf); refine recA (fun h0 => ?_) (fun h0 => ?_)
 ·(conv => whnf); refine ACalls.use (known _) ?_
  conv => whnf
 simp [vsC_length] at h0
 have hpos : 0 < V.length := List.length_pos_iff.2 h0
 (conv => whnf); refine ACalls.use (Place_spec F.z3r b ((vsC V).length : Int) (by rw [vsC_length]; omega) (by rw [vsC_length]; omega) _) ?_
 obtain ⟨j, hj, hj2⟩ : ∃ j : Nat, b % ((vsC V).length : Int) = j ∧ j < V.length := by
  rw [vsC_length]
  have q1 := Int.emod_nonneg b (show (V.length : Int) ≠ 0 by omega)
  have q2 := Int.emod_lt_of_pos b (show (0 : Int) < V.length by omega)
  exact ⟨(b % (V.length : Int)).toNat, by omega, by omega⟩
 rw [hj]
 have hx : V[j]? = some V[j] := List.getElem?_eq_getElem hj2
 have hxm := List.getElem_mem hj2
 generalize V[j] = x at hx hxm
 have hxo := v2 x hxm
 have hxl : x.rc.row.length = (wsrc n).cols.length := fits_len hxo
 (conv => whnf); refine And.intro (by omega) ?_
 (conv => whnf); refine recO (vsC_at hx) ?_
 (conv => whnf); refine ACalls.mono (wRow_spec F.z3t (wsrc n).cols hcn (by omega) ls (ledV (wsrc n) ls).2 hle (by omega) _ 0 rfl) ?_
 rintro r H' ⟨rfl, rfl⟩
 have hwf := wr_fit ls (wsrc n).cols (ledV (wsrc n) ls).2 (wsrc_kinds n)
 have hwl : (wr ls (wsrc n).cols (ledV (wsrc n) ls).2 []).1.length = (wsrc n).cols.length := by rw [wr_len]; simp
 generalize (wr ls (wsrc n).cols (ledV (wsrc n) ls).2 []).1 = w at hwf hwl
 generalize (wr ls (wsrc n).cols (ledV (wsrc n) ls).2 []).2 = iw
 obtain ⟨o1, o2, o3⟩ := mix_ok hs hxo hwf hwl
 have hC : chkGo (wsrc n).cols w = 0 := hwf
 obtain ⟨mK, hmKe⟩ : ∃ mK : Nat → List AW.V, mK = fun k => (mixG (souS (wsrc n)) (wsrc n).cols x.rc.row w).take k ++ w.drop k := ⟨_, rfl⟩
 have hml : (mixG (souS (wsrc n)) (wsrc n).cols x.rc.row w).length = (wsrc n).cols.length := mixG_len _ hxl hwl
 have hmK : ∀ k, k ≤ (wsrc n).cols.length → (mK k).length = (wsrc n).cols.length := fun k hk => by
  rw [hmKe]; simp only [List.length_append, List.length_take, List.length_drop]; omega
 have hm0 : mK 0 = w := by rw [hmKe]; simp
 have hmN : mK (wsrc n).cols.length = mixG (souS (wsrc n)) (wsrc n).cols x.rc.row w := by
  rw [hmKe]
  simp only []
  rw [List.take_of_length_le (by omega), List.drop_of_length_le (by omega), List.append_nil]
 conv => whnf
 refine ⟨fun m ρ H1 => ∃ k : Nat, k + m = (wsrc n).cols.length ∧ k ≤ (wsrc n).cols.length ∧ H1 = [gO ls iw, .arr 7 [srcC (wsrc n)], bL (ledV (wsrc n) ls).1, .arr 5 [verC x], .arr 3 (vC (mK k)), .arr 3 [[.bool false, .int .i64 1000, .sl 4 (wsrc n).cols.length 0 (wsrc n).cols.length]]] ∧ Sv 126 [(7, .ptr 1 1 0 0), (10, .list false 5 (vsC V)), (11, .ptr 3 1 0 0), (12, .ptr 5 1 0 0), (52, .list false 3 (cC (wsrc n).cols)), (53, .int .i64 (wsrc n).cols.length), (54, .int .i64 k)] ρ, (wsrc n).cols.length, [], ?_, ?_⟩
 ·exact ⟨0, by omega, by omega, by rw [hm0]; rfl, Sv.intro rfl ⟨rfl, rfl, rfl, rfl, rfl, intEq (by rw [cC_length]), rfl, trivial⟩⟩
 rintro m ρ H1 ⟨k, hk, hkl, rfl, d, rfl⟩
 (conv => whnf); refine recA (fun hlt => ?_) (fun hlt => ?_)
 ·simp at hlt
  have ek : IntKind.i64.wrap ((k : Int) + 1) = ((k + 1 : Nat) : Int) := by rw [wrapI _ (by omega) (by omega)]; omega
  have hc : (wsrc n).cols[k]? = some (wsrc n).cols[k] := List.getElem?_eq_getElem hlt
  have ha : x.rc.row[k]? = some x.rc.row[k] := List.getElem?_eq_getElem (by omega)
  generalize (wsrc n).cols[k] = c at hc
  generalize x.rc.row[k] = a at ha
  obtain ⟨y, hy⟩ : ∃ y, (mK k)[k]? = some y := ⟨_, List.getElem?_eq_getElem (by rw [hmK k (by omega)]; exact hlt)⟩
  have hat : (vC (mK k))[0 + (k : Int).toNat]? = some (valC y) := by
   rw [Nat.zero_add, Int.toNat_natCast]
   exact vC_at hy
  (conv => whnf); refine And.intro (by omega) ?_
  (conv => whnf); refine recO (cC_at hc) ?_
  (conv => whnf); refine recA (fun hq => ?_) (fun hq => ?_)
  ·have hkc : kcolB (souS (wsrc n)) c = true := by
    unfold kcolB
    rw [show eqS c.name (souS (wsrc n)).att = true from hq]; rfl
   have hset : setEs (vC (mK k)) (0 + (k : Int).toNat) (valC a) = vC (mK (k + 1)) := by
    rw [Nat.zero_add, Int.toNat_natCast, setEs_vC, hmKe]
    exact congrArg vC (mix_set hxl hwl hc ha hkc)
   (conv => whnf); refine And.intro (by omega) ?_
   (conv => whnf); refine recO (vC_at ha) ?_
   (conv => whnf); refine recT (by rw [vC_length, hmK k (by omega)]; exact Nat.beq_refl _) ?_
   (conv => whnf); refine And.intro (⟨by omega, by omega⟩) ?_
   (conv => whnf); refine recT (by rw [vC_length, hmK k (by omega)]; exact Nat.beq_refl _) ?_
   (conv => whnf); refine recO (hat) ?_
   conv => whnf
   have hob : ∀ (H : List AObj) (ids : List Nat), ObP H ids (.arr 3 (setEs (vC (mK k)) (0 + (k : Int).toNat) (valC a))) (.arr 3 (vC (mK (k + 1)))) := fun _ _ => by rw [hset]; exact .same _ _ (pureEs_vC _)
   refine ⟨m - 1, by omega, Gp.some (H1 := [gO ls iw, .arr 7 [srcC (wsrc n)], bL (ledV (wsrc n) ls).1, .arr 5 [verC x], .arr 3 (vC (mK (k + 1))), .arr 3 [[.bool false, .int .i64 1000, .sl 4 (wsrc n).cols.length 0 (wsrc n).cols.length]]]) [0, 1, 2, 3, 4, 5] (by simp)
    ⟨⟨_, rfl, .same _ _ rfl⟩, ⟨_, rfl, .same _ _ rfl⟩, ⟨_, rfl, .same _ _ (pureL _)⟩, ⟨_, rfl, .same _ _ rfl⟩, ⟨_, rfl, (hob _ _)⟩, ⟨_, rfl, obR (.keep 4 _ _ _ 4 rfl) rfl⟩, trivial⟩ rfl ?_ fun ρ1 h => ⟨k + 1, by omega, by omega, rfl, h⟩⟩
   exact ⟨.keepP 1 1 0 0 1 rfl, .closed (.list false 5 (vsC V)) rfl, .keepP 3 1 0 0 3 rfl, .keepP 5 1 0 0 5 rfl, .closed (.list false 3 (cC (wsrc n).cols)) rfl, .closed _ rfl, pub_int ek, trivial⟩
  ·(conv => whnf); refine ACalls.use (sameName_spec F.z1x (wsrc n).key c.name (Nat.le_trans hs.klen (by decide)) _) ?_
   (conv => whnf); refine recA (fun hq2 => ?_) (fun hq2 => ?_)
   ·have hkc : kcolB (souS (wsrc n)) c = true := by
     unfold kcolB
     rw [show inB (souS (wsrc n)).key c.name = true from hq2]; simp
    have hset : setEs (vC (mK k)) (0 + (k : Int).toNat) (valC a) = vC (mK (k + 1)) := by
     rw [Nat.zero_add, Int.toNat_natCast, setEs_vC, hmKe]
     exact congrArg vC (mix_set hxl hwl hc ha hkc)
    (conv => whnf); refine And.intro (by omega) ?_
    (conv => whnf); refine recO (vC_at ha) ?_
    (conv => whnf); refine recT (by rw [vC_length, hmK k (by omega)]; exact Nat.beq_refl _) ?_
    (conv => whnf); refine And.intro (⟨by omega, by omega⟩) ?_
    (conv => whnf); refine recT (by rw [vC_length, hmK k (by omega)]; exact Nat.beq_refl _) ?_
    (conv => whnf); refine recO (hat) ?_
    conv => whnf
    have hob : ∀ (H : List AObj) (ids : List Nat), ObP H ids (.arr 3 (setEs (vC (mK k)) (0 + (k : Int).toNat) (valC a))) (.arr 3 (vC (mK (k + 1)))) := fun _ _ => by rw [hset]; exact .same _ _ (pureEs_vC _)
    refine ⟨m - 1, by omega, Gp.some (H1 := [gO ls iw, .arr 7 [srcC (wsrc n)], bL (ledV (wsrc n) ls).1, .arr 5 [verC x], .arr 3 (vC (mK (k + 1))), .arr 3 [[.bool false, .int .i64 1000, .sl 4 (wsrc n).cols.length 0 (wsrc n).cols.length]]]) [0, 1, 2, 3, 4, 5] (by simp)
     ⟨⟨_, rfl, .same _ _ rfl⟩, ⟨_, rfl, .same _ _ rfl⟩, ⟨_, rfl, .same _ _ (pureL _)⟩, ⟨_, rfl, .same _ _ rfl⟩, ⟨_, rfl, (hob _ _)⟩, ⟨_, rfl, obR (.keep 4 _ _ _ 4 rfl) rfl⟩, trivial⟩ rfl ?_ fun ρ1 h => ⟨k + 1, by omega, by omega, rfl, h⟩⟩
    exact ⟨.keepP 1 1 0 0 1 rfl, .closed (.list false 5 (vsC V)) rfl, .keepP 3 1 0 0 3 rfl, .keepP 5 1 0 0 5 rfl, .closed (.list false 3 (cC (wsrc n).cols)) rfl, .closed _ rfl, pub_int ek, trivial⟩
   ·have hkc : kcolB (souS (wsrc n)) c = false := by
     unfold kcolB
     rw [show eqS c.name (souS (wsrc n)).att = false from hq, show inB (souS (wsrc n)).key c.name = false from hq2]; rfl
    have hset : vC (mK k) = vC (mK (k + 1)) := by
     rw [hmKe]
     exact congrArg vC (mix_skip hxl hwl hc hkc).symm
    have hob : ∀ (H : List AObj) (ids : List Nat), ObP H ids (.arr 3 (vC (mK k))) (.arr 3 (vC (mK (k + 1)))) := fun _ _ => by rw [hset]; exact .same _ _ (pureEs_vC _)
    conv => whnf
    refine ⟨m - 1, by omega, Gp.some (H1 := [gO ls iw, .arr 7 [srcC (wsrc n)], bL (ledV (wsrc n) ls).1, .arr 5 [verC x], .arr 3 (vC (mK (k + 1))), .arr 3 [[.bool false, .int .i64 1000, .sl 4 (wsrc n).cols.length 0 (wsrc n).cols.length]]]) [0, 1, 2, 3, 4, 5] (by simp)
     ⟨⟨_, rfl, .same _ _ rfl⟩, ⟨_, rfl, .same _ _ rfl⟩, ⟨_, rfl, .same _ _ (pureL _)⟩, ⟨_, rfl, .same _ _ rfl⟩, ⟨_, rfl, (hob _ _)⟩, ⟨_, rfl, obR (.keep 4 _ _ _ 4 rfl) rfl⟩, trivial⟩ rfl ?_ fun ρ1 h => ⟨k + 1, by omega, by omega, rfl, h⟩⟩
    exact ⟨.keepP 1 1 0 0 1 rfl, .closed (.list false 5 (vsC V)) rfl, .keepP 3 1 0 0 3 rfl, .keepP 5 1 0 0 5 rfl, .closed (.list false 3 (cC (wsrc n).cols)) rfl, .closed _ rfl, pub_int ek, trivial⟩
 ·simp at hlt
  have hkN : k = (wsrc n).cols.length := by omega
  subst hkN
  rw [hmN]
  conv => whnf
  have hmo := o1
  have hu2 : Uq (souS (wsrc n)) (V ++ [⟨⟨false, 1000, mixG (souS (wsrc n)) (wsrc n).cols x.rc.row w⟩, 100, 0⟩]) := fun a ha b hb h => by
   rcases List.mem_append.1 ha with ha | ha <;> rcases List.mem_append.1 hb with hb | hb
   ·exact v3 a ha b hb h
   ·rw [List.mem_singleton.1 hb] at h
    have h4 : a.file = 100 := (cmpVr_zero.1 h).2.2.2.1
    have := v4 a ha
    omega
   ·rw [List.mem_singleton.1 ha] at h
    have h4 : (100 : Int) = b.file := (cmpVr_zero.1 h).2.2.2.1
    have := v4 b hb
    omega
   ·rw [List.mem_singleton.1 ha, List.mem_singleton.1 hb]
  have hok2 : ∀ v ∈ V ++ [(⟨⟨false, 1000, mixG (souS (wsrc n)) (wsrc n).cols x.rc.row w⟩, 100, 0⟩ : Ver)], okV (souS (wsrc n)) v := fun v hv => by
   rcases List.mem_append.1 hv with h | h
   ·exact v2 v h
   ·rw [List.mem_singleton.1 h]; exact o1
  have hsame : (ivsV (souS (wsrc n)) V).filter (othB (souS (wsrc n)) (keyV (souS (wsrc n)) (mixG (souS (wsrc n)) (wsrc n).cols x.rc.row w)) (timeV (souS (wsrc n)) ⟨false, 1000, mixG (souS (wsrc n)) (wsrc n).cols x.rc.row w⟩)) = (ivsV (souS (wsrc n)) (V ++ [⟨⟨false, 1000, mixG (souS (wsrc n)) (wsrc n).cols x.rc.row w⟩, 100, 0⟩])).filter (othB (souS (wsrc n)) (keyV (souS (wsrc n)) (mixG (souS (wsrc n)) (wsrc n).cols x.rc.row w)) (timeV (souS (wsrc n)) ⟨false, 1000, mixG (souS (wsrc n)) (wsrc n).cols x.rc.row w⟩)) := correct_same hs hxm v2 o1 v3 hu2 o2 o3
  have hl2 : (V ++ [(⟨⟨false, 1000, mixG (souS (wsrc n)) (wsrc n).cols x.rc.row w⟩, 100, 0⟩ : Ver)]).length = V.length + 1 := by simp
  generalize hM : mixG (souS (wsrc n)) (wsrc n).cols x.rc.row w = M at hml hu2 hok2 hsame hmo hl2
  refine Ghost.some (n := 126) (live := [(7, .ptr 0 1 0 0), (10, .list false 5 (vsC V)), (12, .ptr 1 1 0 0)]) (H1 := [.arr 7 [srcC (wsrc n)], .arr 3 [[.bool false, .int .i64 1000, .list false 3 (vC M)]]]) [1, 5] (by simp) ⟨⟨_, rfl, .same _ _ rfl⟩, ⟨_, rfl, obR (pubRow (id := 4) (by simp) rfl hml.symm) rfl⟩, trivial⟩ rfl
   ⟨.keepP 1 1 0 0 0 rfl, .closed (.list false 5 (vsC V)) rfl, .keepP 5 1 0 0 1 rfl, trivial⟩ ?_
  rintro ρ ⟨d, rfl⟩
  (conv => whnf); refine ACalls.use (Intervals_spec F.z0l hI (souS (wsrc n)) hs false V (by omega) v2 v3 _) ?_
  (conv => whnf); refine And.intro (⟨roomMul (by rw [vsC_length]; omega) (by omega), roomB_le (by rw [vsC_length]; omega)⟩) ?_
  (conv => whnf); refine recT (by exact Nat.beq_refl _) ?_
  (conv => whnf); refine And.intro (⟨roomMul (by rw [vsC_length]; simp; omega) (by omega), roomB_le (by rw [vsC_length]; simp; omega), rfl, rfl⟩) ?_
  have hcv : vsC V ++ [verC ⟨⟨false, 1000, M⟩, 100, 0⟩] = vsC (V ++ [⟨⟨false, 1000, M⟩, 100, 0⟩]) := by rw [vsC_append]; rfl
  have hint : ∀ a b : AObj, ACalls P F.z0l.id [.agg (souC (souS (wsrc n))), .sl 2 (vsC V ++ [verC ⟨⟨false, 1000, M⟩, 100, 0⟩]).length 0 (vsC V ++ [verC ⟨⟨false, 1000, M⟩, 100, 0⟩]).length] [a, b, .arr 5 (vsC V ++ [verC ⟨⟨false, 1000, M⟩, 100, 0⟩])] (fun r H' => r = .tuple [.list false 2 (eC (ivsV (souS (wsrc n)) (V ++ [⟨⟨false, 1000, M⟩, 100, 0⟩]))), .int .i64 0] ∧ H' = [a, b, .arr 5 (vsC V ++ [verC ⟨⟨false, 1000, M⟩, 100, 0⟩])]) := fun a b => by
   rw [hcv]
   exact Intervals_slF F.z0l hI (souS (wsrc n)) hs _ (by simp) (by omega) hok2 hu2 a b (vsC_length _)
  (conv => whnf); refine ⟨_, hint _ _, ?_⟩
  repeat ((conv => whnf); refine And.intro rfl ?_)
  have hr1 : ∀ e ∈ ivsV (souS (wsrc n)) V, e.row.length = (souS (wsrc n)).cols.length + 2 := fun e he => (ivs_fit hs v2 v3 he).1
  have hr2 : ∀ e ∈ ivsV (souS (wsrc n)) (V ++ [⟨⟨false, 1000, M⟩, 100, 0⟩]), e.row.length = (souS (wsrc n)).cols.length + 2 := fun e he => (ivs_fit hs hok2 hu2 he).1
  have hb1 := ivsV_len (souS (wsrc n)) V
  have hb2 := ivsV_len (souS (wsrc n)) (V ++ [⟨⟨false, 1000, M⟩, 100, 0⟩])
  (conv => whnf); refine ⟨_, key26_spec F.z2q (souS (wsrc n)) hs false M (by show (wsrc n).cols.length ≤ _; omega) (by omega) _, ?_⟩
  (conv => whnf); refine ⟨_, time25_spec F.z2l (souS (wsrc n)) hs.ok ⟨false, 1000, M⟩ (by show M.length ≤ _; omega) _, ?_⟩
  repeat ((conv => whnf); refine And.intro rfl ?_)
  have hkl : (keyV (souS (wsrc n)) M).length ≤ 1000 := by rw [keyV_length]; exact hs.klen
  (conv => whnf); refine ⟨_, others_raw F.z1w (souS (wsrc n)) hs (ivsV (souS (wsrc n)) V) (by omega) hr1 (keyV (souS (wsrc n)) M) hkl (timeV (souS (wsrc n)) ⟨false, 1000, M⟩) _, ?_⟩
  (conv => whnf); refine ⟨_, others_raw F.z1w (souS (wsrc n)) hs (ivsV (souS (wsrc n)) (V ++ [(⟨⟨false, 1000, M⟩, 100, 0⟩ : Ver)])) (by omega) hr2 (keyV (souS (wsrc n)) M) hkl (timeV (souS (wsrc n)) ⟨false, 1000, M⟩) _, ?_⟩
  have hse : ∀ H, ACalls P F.z26.id [.list false 2 (eC ((ivsV (souS (wsrc n)) V).filter (othB (souS (wsrc n)) (keyV (souS (wsrc n)) M) (timeV (souS (wsrc n)) ⟨false, 1000, M⟩)))), .list false 2 (eC ((ivsV (souS (wsrc n)) (V ++ [⟨⟨false, 1000, M⟩, 100, 0⟩])).filter (othB (souS (wsrc n)) (keyV (souS (wsrc n)) M) (timeV (souS (wsrc n)) ⟨false, 1000, M⟩))))] H (fun r H' => r = .bool true ∧ H' = H) := fun H => by
   have hsame2 : (ivsV (souS (wsrc n)) V).filter (othB (souS (wsrc n)) (keyV (souS (wsrc n)) M) (timeV (souS (wsrc n)) ⟨false, 1000, M⟩)) = (ivsV (souS (wsrc n)) (V ++ [⟨⟨false, 1000, M⟩, 100, 0⟩])).filter (othB (souS (wsrc n)) (keyV (souS (wsrc n)) M) (timeV (souS (wsrc n)) ⟨false, 1000, M⟩)) := hsame
   rw [← hsame2]
   exact sameEnt_refl F.z26 _ (by have := List.length_filter_le (othB (souS (wsrc n)) (keyV (souS (wsrc n)) M) (timeV (souS (wsrc n)) ⟨false, 1000, M⟩)) (ivsV (souS (wsrc n)) V); omega) (fun e he => by rw [hr1 e (List.mem_filter.1 he).1]; have := hs.ten; omega) H
  (conv => whnf); refine ⟨_, hse _, ?_⟩
  (conv => whnf); refine ⟨_, known _, ?_⟩
  repeat ((conv => whnf); refine And.intro rfl ?_)
  conv => whnf

end Go.AW

namespace Go.AW
variable [Draws]
open Go.Sort
section
variable {P : Program} {β : Type}
structure El (C : Nat → Nat) (w : World) (k : Nat) (cells : β → List AVal) where
 vs : List Value
 x : β
 len : vs.length = k
 one : ∀ v ∈ vs, v.oneCell' = true
 rd : ∀ (j : Nat) (c : AVal) (v : Value), (cells x)[j]? = some c → vs[j]? = some v → Rd C w c v

theorem Rd.later {C : Nat → Nat} {w w' : World} {a : AVal} {v : Value} (h : Rd C w a v) (hc : ∀ b i, i < C b → w'.cell? ⟨b, i, none⟩ = w.cell? ⟨b, i, none⟩) : Rd C w' a v := by
 have s : Step C (fun _ => none) [] w C (fun _ => none) [] { w with heap := w.heap } := Step.refl
 induction h with
 | junk v h => exact .junk v h
 | bool b => exact .bool b
 | int k n => exact .int k n
 | str s => exact .str s
 | nil => exact .nil
 | list0 x sz a cap hx => exact .list0 x sz a cap hx
 | list x sz es b off cap vs hx hcap hsz hC hcell hp hrd ih =>
  refine .list x sz es b off cap vs hx hcap hsz hC (fun i j hi hj => ?_) hp fun i j e d he hd => ih i j e d he hd
  rw [hc b _ ?_, hcell i j hi hj]
  have : i * sz + sz ≤ es.length * sz := by
   have := Nat.mul_le_mul_right sz (show i + 1 ≤ es.length by omega)
   rwa [Nat.add_mul, Nat.one_mul] at this
  omega
 | cptr cs fld b off vs hC hcell hp hrd ih =>
  refine .cptr cs fld b off vs hC (fun j hj => ?_) hp fun j d hd => ih j d hd
  rw [hc b _ (by omega), hcell j hj]
 | fn f => exact .fn f

abbrev upD : Draws := ⟨True⟩

omit [Draws] in
attribute [local instance] upD in

theorem cmpLays_of {C : Nat → Nat} {w : World} {k : Nat} {cells : β → List AVal} (hk : ∀ x, (cells x).length = k) [Inhabited (El C w k cells)] {cmp : β → β → Int} {g : FuncId}
  (eg : ∀ args w, (callFunc g args).run P w = .ok (.enter g args) w)
  (hg : ∀ x y, @ACalls upD P g [.agg (cells x), .agg (cells y)] [] (fun r _ => r = .int .i64 (cmp x y)))
  {blk off size : Nat} (hlt : ∀ b, 0 < C b → b < w.heap.size) (hblk : C blk = 0) :
  Go.Proofs.CmpLays P g #[] (fun e : El C w k cells => e.vs) k (fun a b => cmp a.x b.x) blk off size w := by
 intro m os dk hs x y
 obtain ⟨W, hW⟩ : ∃ W, Go.Proofs.sortWorldK (fun e : El C w k cells => e.vs) k w blk off m dk os = W := ⟨_, rfl⟩
 rw [hW]
 have hcell : ∀ b i, i < C b → W.cell? ⟨b, i, none⟩ = w.cell? ⟨b, i, none⟩ := by
  intro b i hi
  have hb : b < w.heap.size := hlt b (by omega)
  have hbb : b ≠ blk := fun e => by rw [e, hblk] at hi; omega
  refine cell_heap ?_
  rw [← hW]
  unfold Go.Proofs.sortWorldK Go.Sort.putRowK putRow mapBlock grow Go.Sort.ahead
  simp only []
  rw [Array.getElem?_append_left (by simp; exact hb), Array.getElem?_modify, if_neg (Ne.symm hbb)]
 have hsz : w.heap.size ≤ W.heap.size := by rw [← hW]; exact Go.Proofs.size_sortWorldK_c _ _ _ _ _ _ _ _
 have hwf : WF C (fun _ => none) [] W := ⟨fun id o h => by simp at h, fun id o h => by simp at h, fun id o l h => by simp at h, fun id l h => by simp at h, fun i j li lj h => by simp at h, fun b hb => Nat.lt_of_lt_of_le (hlt b hb) hsz⟩
 have hrel : ∀ e : El C w k cells, Rel C W (fun _ => none) [] (.agg (cells e.x)) (.agg e.vs.toArray) := fun e => by
  refine .agg _ _ (by simp [hk, e.len]) fun i c v hc hv => .rd ((e.rd i c v hc ?_).later hcell)
  simpa using hv
 have h := hg x.x y.x C (fun _ => none) W #[.agg x.vs.toArray, .agg y.vs.toArray] hwf rfl fun i a v ha hv => by
  rcases i with _ | _ | i
  ·cases ha; cases hv; exact hrel x
  ·cases ha; cases hv; exact hrel y
  ·simp at ha
 unfold CallsX at h
 rw [eg] at h
 refine Calls.mono h fun e w' => ?_
 rintro ⟨v, r, C', τ', H', rfl, rfl, hrv, hst, _⟩
 refine ⟨?_, w'.drawn - W.drawn, w'.heap.extract W.heap.size w'.heap.size, ?_⟩
 ·cases hrv with
  | rd h => cases h; rfl
 ·have f := hst.fr
  have hp : ∀ b, b < W.heap.size → w'.heap[b]? = W.heap[b]? := fun b hb => f.prot b ⟨hb, by rintro ⟨id, l, h, _⟩; simp at h⟩
  have hh : w'.heap = W.heap ++ w'.heap.extract W.heap.size w'.heap.size := by
   refine Array.ext_getElem? fun i => ?_
   by_cases hi : i < W.heap.size
   ·rw [Array.getElem?_append_left hi]; exact hp i hi
   ·rw [Array.getElem?_append_right (by omega), Array.getElem?_extract]
    by_cases hi2 : i < w'.heap.size
    ·rw [if_pos (by omega)]; congr 1; omega
    ·rw [if_neg (by omega)]; exact Array.getElem?_eq_none (by omega)
  have hd : w'.drawn = W.drawn + (w'.drawn - W.drawn) := by have := f.drawn trivial; omega
  obtain ⟨h1, h2, h3, h4, h5⟩ := w'
  unfold grow World.drewN
  simp only [World.mk.injEq]
  exact ⟨hh, f.tape, hd, f.os, f.output⟩

theorem St.grow {w0 w : World} {Pr : Nat → Prop} {C : Nat → Nat} {τ : Nat → Option Loc} {H : List AObj} (h : St w0 Pr C τ H w) : ∀ (os : List Obj), St w0 Pr C τ H (Go.Sort.grow w os.toArray) ∧ Step C τ H w C τ H (Go.Sort.grow w os.toArray) := by
 intro os
 induction os generalizing w with
 | nil => simpa using ⟨h, Step.refl⟩
 | cons o os ih =>
  obtain ⟨st, s⟩ := h.alloc_comm o 0
  have hCC : updF C w.heap.size (C w.heap.size + 0) = C := by
   funext b
   by_cases e : b = w.heap.size
   ·subst e; rw [updF_same]; rfl
   ·rw [updF_other _ _ e]
  rw [hCC] at st s
  obtain ⟨st2, s2⟩ := ih st
  have e : Go.Sort.grow (w.alloc o) os.toArray = Go.Sort.grow w (o :: os).toArray := by
   rw [alloc_eq_grow, grow_grow]
   congr 1
   simp
  rw [e] at st2 s2
  exact ⟨st2, s.trans s2⟩

theorem St.putRow {w0 w : World} {Pr : Nat → Prop} {C : Nat → Nat} {τ : Nat → Option Loc} {H : List AObj} {k : Nat} {cells : β → List AVal} (hk : ∀ x, (cells x).length = k) (hk0 : 0 < k) (hcl : ∀ x, ∀ c ∈ cells x, c.isCell = true) [Inhabited (El C w k cells)]
  (h : St w0 Pr C τ H w) {i0 : Nat} {es : List β} {l : Loc} (ho : H[i0]? = some (.arr k (es.map cells))) (hl : τ i0 = some l) (d : Array (El C w k cells)) (hd : d.size = es.length) :
  St w0 Pr C τ (H.set i0 (.arr k (d.toList.map fun e => cells e.x))) (putRowK (fun e : El C w k cells => e.vs) k w l.b 0 d) ∧ Step C τ H w C τ (H.set i0 (.arr k (d.toList.map fun e => cells e.x))) (putRowK (fun e : El C w k cells => e.vs) k w l.b 0 d) := by
 obtain ⟨hcap, cs, elem, fz, h1, h2, h3, _⟩ := h.wf.objs i0 _ l ho hl
 rw [List.length_map] at hcap
 have hw : (putRowK (fun e : El C w k cells => e.vs) k w l.b 0 d).heap[l.b]? = some (.cells (Go.Sort.putCells id 0 (flatK (fun e : El C w k cells => e.vs) k d) cs) elem fz) := by
  unfold putRowK Go.Sort.putRow mapBlock
  simp only [Array.getElem?_modify, if_true, h1, Option.map_some, onCells]
 refine h.set_obj (w' := putRowK (fun e : El C w k cells => e.vs) k w l.b 0 d) (o' := .arr k (d.toList.map fun e => cells e.x)) ho hl (fun b hb => ?_) (by simp [putRowK]) rfl rfl rfl rfl ⟨rfl, by simp; omega, fun _ => rfl⟩ (fun e he => ?_) fun C' τ' H' s => ?_
 ·unfold putRowK Go.Sort.putRow mapBlock
  simp only [Array.getElem?_modify]
  rw [if_neg (Ne.symm hb)]
 ·obtain ⟨x, _, rfl⟩ := List.mem_map.1 he
  exact ⟨hk x.x, hcl x.x⟩
 ·refine ⟨by simp; omega, _, elem, fz, hw, by simp [Go.Sort.putCells, h2], by simpa [Go.Sort.putCells] using h3, fun i j e c he hc => ?_⟩
  rw [List.getElem?_map] at he
  obtain ⟨x, hx, rfl⟩ := Option.map_eq_some_iff.1 he
  have hi : i < d.size := by have := (List.getElem?_eq_some_iff.1 hx).1; simpa using this
  have hj : j < k := by have := (List.getElem?_eq_some_iff.1 hc).1; rwa [hk] at this
  have hxd : d[i]! = x := by
   rw [getElem!_pos d i hi]
   have := (List.getElem?_eq_some_iff.1 hx).2
   simpa using this
  have ht : i * k + j < d.size * k := by
   have := Nat.mul_le_mul_right k (show i + 1 ≤ d.size by omega)
   rw [Nat.add_mul, Nat.one_mul] at this
   omega
  have htc : i * k + j < cs.size := by
   have := Nat.mul_le_mul_right k (show d.size ≤ l.cap by omega)
   omega
  have hjv : j < x.vs.length := by rw [x.len]; exact hj
  refine ⟨x.vs[j], ?_, ?_⟩
  ·unfold Go.Sort.putCells
   rw [Array.getElem?_mapIdx, Array.getElem?_eq_getElem htc]
   have hf := get_flatK (fun e : El C w k cells => e.vs) k d (i * k + j) ht
   have e1 : (i * k + j) / k = i := by rw [Nat.mul_comm, Nat.mul_add_div hk0, Nat.div_eq_of_lt hj, Nat.add_zero]
   have e2 : (i * k + j) % k = j := by rw [Nat.mul_comm, Nat.mul_add_mod, Nat.mod_eq_of_lt hj]
   rw [e1, e2, hxd] at hf
   simp only [Option.map_some, size_flatK, Nat.zero_le, true_and, Nat.zero_add, ht, if_true, Nat.sub_zero, hf]
   rw [getElem!_pos x.vs j hjv]
   rfl
  ·exact (Rel.rd (x.rd j c _ hc (List.getElem?_eq_getElem hjv))).mono s

theorem row_of {w0 w : World} {Pr : Nat → Prop} {C : Nat → Nat} {τ : Nat → Option Loc} {H : List AObj} {k : Nat} {cells : β → List AVal} (hk : ∀ x, (cells x).length = k) (hk0 : 0 < k) (hpu : ∀ x, ∀ c ∈ cells x, c.isPure = true)
  (h : St w0 Pr C τ H w) {i0 : Nat} {es : List β} {l : Loc} (ho : H[i0]? = some (.arr k (es.map cells))) (hl : τ i0 = some l) :
  ∃ d : Array (El C w k cells), d.size = es.length ∧ d.toList.map (fun e => e.x) = es ∧ ∀ [Inhabited (El C w k cells)], HoldsK (fun e : El C w k cells => e.vs) k w l.b 0 d := by
 obtain ⟨hcap, cs, elem, fz, h1, h2, h3, h4⟩ := h.wf.objs i0 _ l ho hl
 rw [List.length_map] at hcap
 have hroom : es.length * k ≤ cs.size := by rw [h2]; exact Nat.mul_le_mul_right k hcap
 have get : ∀ (i j : Nat) (hi : i < es.length) (hj : j < k), i * k + j < cs.size := fun i j hi hj => by
  have := Nat.mul_le_mul_right k (show i + 1 ≤ es.length by omega)
  rw [Nat.add_mul, Nat.one_mul] at this
  omega
 have rel : ∀ (i j : Nat) (hi : i < es.length) (c : AVal) (v : Value), (cells es[i])[j]? = some c → cs[i * k + j]? = some v → Rd C w c v := fun i j hi c v hc hv => by
  obtain ⟨v', hv', hr⟩ := h4 i j (cells es[i]) c (by rw [List.getElem?_map, List.getElem?_eq_getElem hi]; rfl) hc
  rw [hv] at hv'
  cases hv'
  exact hr.pure (hpu _ c (List.mem_of_getElem? hc))
 have vget : ∀ (i j : Nat), ((cs.extract (i * k) (i * k + k)).toList)[j]? = if j < min (i * k + k) cs.size - i * k then cs[i * k + j]? else none := fun i j => by
  rw [Array.getElem?_toList, Array.getElem?_extract]
 have mk : ∀ i : Fin es.length, ∃ e : El C w k cells, e.vs = (cs.extract (i.1 * k) (i.1 * k + k)).toList ∧ e.x = es[i.1] := fun ⟨i, hi⟩ => by
  have hik := get i (k - 1) hi (by omega)
  have hlen : (cs.extract (i * k) (i * k + k)).size = k := by rw [Array.size_extract]; omega
  refine ⟨⟨(cs.extract (i * k) (i * k + k)).toList, es[i], by rw [Array.length_toList]; exact hlen, ?_, fun j c v hc hv => ?_⟩, rfl, rfl⟩
  ·refine rel_cellsPlain (C := C) (w := w) (τ := τ) (H := H) (cs := cells es[i]) (by rw [hk, hlen]) (fun j c v hc hv => ?_) (List.all_eq_true.2 fun c hc => AVal.isCell_of_isPure (hpu _ c hc))
   have := vget i j
   rw [Array.getElem?_toList, hv] at this
   split at this
   ·exact .rd (rel i j hi c v hc this.symm)
   ·cases this
  ·have := vget i j
   rw [hv] at this
   split at this
   ·exact rel i j hi c v hc this.symm
   ·cases this
 refine ⟨Array.ofFn fun i => (mk i).choose, by simp, ?_, ?_⟩
 ·refine List.ext_getElem? fun i => ?_
  by_cases hi : i < es.length
  ·rw [List.getElem?_map, Array.getElem?_toList, Array.getElem?_ofFn, dif_pos hi, List.getElem?_eq_getElem hi]
   show some ((mk ⟨i, hi⟩).choose).x = _
   rw [(mk ⟨i, hi⟩).choose_spec.2]
  ·rw [List.getElem?_eq_none (by simp; omega), List.getElem?_eq_none (by omega)]
 ·intro _ t ht
  rw [size_flatK, Array.size_ofFn] at ht
  have hi : t / k < es.length := Nat.div_lt_of_lt_mul (by rwa [Nat.mul_comm] at ht)
  have hj : t % k < k := Nat.mod_lt _ hk0
  have htk : t / k * k + t % k = t := by rw [Nat.mul_comm]; exact Nat.div_add_mod t k
  have htc := get _ _ hi hj
  rw [htk] at htc
  rw [get_flatK _ _ _ t (by rw [Array.size_ofFn]; exact ht), getElem!_pos _ (t / k) (by rw [Array.size_ofFn]; exact hi), Array.getElem_ofFn]
  have hv := vget (t / k) (t % k)
  rw [if_pos (by have := get (t / k) (k - 1) hi (by omega); omega), htk, Array.getElem?_eq_getElem htc, ← (mk ⟨t / k, hi⟩).choose_spec.1] at hv
  have hb := (List.getElem?_eq_some_iff.1 hv).1
  have hv2 := (List.getElem?_eq_some_iff.1 hv).2
  rw [getElem!_pos _ (t % k) hb]
  refine ⟨?_, ?_⟩
  ·simp only [World.cell?, h1, Nat.zero_add]
   simp [Array.getElem?_eq_getElem htc, ← hv2]
  ·simp only [World.frozen?, h1, Nat.zero_add]
   simp only [Bool.and_eq_false_iff, decide_eq_false_iff_not]
   omega

def Sorted (cmp : β → β → Int) (es es' : List β) : Prop := es'.Perm es ∧ ∀ (i j : Nat) (x y : β), i < j → es'[i]? = some x → es'[j]? = some y → 0 ≤ cmp y x

theorem sort_spec {ρ : Go.Shelf.Ren} (L : Go.Proofs.SlLaysF0.n6 P ρ) {k : Nat} (hk0 : 0 < k) (aE : ∀ w, (isAgg (ρ.t 24)).run P w = .ok true w) (zE : ∀ w, (Go.sizeOf (ρ.t 24)).run P w = .ok k w)
  {cells : β → List AVal} (hk : ∀ x, (cells x).length = k) (hpu : ∀ x, ∀ c ∈ cells x, c.isPure = true) {cmp : β → β → Int} (hO : SWO (Go.Proofs.ltOf cmp)) {g : FuncId}
  (eg : ∀ args w, (callFunc g args).run P w = .ok (.enter g args) w)
  (hg : ∀ x y, @ACalls upD P g [.agg (cells x), .agg (cells y)] [] (fun r _ => r = .int .i64 (cmp x y)))
  {es : List β} (hne : es ≠ []) (hlen : es.length ≤ 1000000) {H : List AObj} {i0 : Nat} (ho : H[i0]? = some (.arr k (es.map cells))) :
  ACalls P (ρ.f 6) [.sl i0 es.length 0 es.length, .fn g []] H (fun r H' => r = .tuple [] ∧ ∃ es', Sorted cmp es es' ∧ H' = H.set i0 (.arr k (es'.map cells))) := by
 intro C τ w vs hw hl hr
 obtain ⟨v0, v1, rfl⟩ : ∃ v0 v1, vs = #[v0, v1] := by
  obtain ⟨m⟩ := vs
  match m, hl with
  | [v0, v1], _ => exact ⟨v0, v1, rfl⟩
 have r0 := hr 0 _ v0 rfl rfl
 have r1 := hr 1 _ v1 rfl rfl
 have e1 : v1 = .func (.func g) #[] #[] := by
  cases r1 with
  | rd h => cases h; rfl
  | fn _ _ vs hl2 h =>
   have : vs = #[] := Array.eq_empty_of_size_eq_zero hl2.symm
   rw [this]
 subst e1
 have hpos : 0 < es.length := List.length_pos_iff.2 hne
 cases r0 with
 | rd h => cases h
 | sl _ _ _ _ a cap esz es0 ho' hep hcur =>
 rw [ho] at ho'
 cases ho'
 obtain ⟨_, hcap, hor⟩ := hcur (by simp)
 rcases hor with ⟨_, h0⟩ | ⟨l, hlt, hlc, ha⟩
 ·omega
 have ha2 : a = some ⟨l.b, 0, none⟩ := by
  rcases ha with h0 | h0
  ·omega
  ·rw [h0, Nat.zero_mul]
 subst ha2
 have st := St.start hw
 obtain ⟨d, hd, hdx, hH⟩ := row_of hk hk0 hpu st ho hlt
 haveI : Inhabited (El C w k cells) := ⟨d[0]'(by omega)⟩
 have hid := (List.getElem?_eq_some_iff.1 ho).1
 have hcmp := cmpLays_of (P := P) (C := C) (w := w) hk eg hg (blk := l.b) (off := 0) (size := d.size) hw.lt (hw.comm i0 l hid hlt)
 have hO2 : SWO (Go.Proofs.ltOf fun a b : El C w k cells => cmp a.x b.x) := ⟨fun x => hO.irrefl x.x, fun x y z => hO.trans x.x y.x z.x, fun x y z => hO.ntrans x.x y.x z.x⟩
 have main := Go.Proofs.AnyQ.slices_SortFunc L k aE zE (fun e : El C w k cells => e.vs) (fun x => x.len) (fun x => x.one) (fun a b => cmp a.x b.x) hO2 g #[] l.b 0 cap d w eg hcmp hH (hw.locLt hid hlt) (by omega)
 rw [hd] at main
 unfold CallsX
 have en : ∀ args w, (callFunc (ρ.f 6) args).run P w = .ok (.enter (ρ.f 6) args) w := L.f6.enters rfl
 rw [en]
 refine Calls.mono main fun e w' => ?_
 rintro ⟨rfl, d', n, os, hp, hs, rfl⟩
 have hd's : d'.size = es.length := by have := hp.1; omega
 obtain ⟨st1, s1⟩ := st.putRow hk hk0 (fun x c hc => AVal.isCell_of_isPure (hpu x c hc)) ho hlt d' hd's
 obtain ⟨st2, s2⟩ := st1.same (w' := Go.Sort.ahead (putRowK (fun e : El C w k cells => e.vs) k w l.b 0 d') n) rfl rfl rfl rfl (Nat.le_add_right _ _)
 obtain ⟨st3, s3⟩ := st2.grow os.toList
 have ew : Go.Sort.grow (Go.Sort.ahead (putRowK (fun e : El C w k cells => e.vs) k w l.b 0 d') n) os.toList.toArray = Go.Proofs.sortWorldK (fun e : El C w k cells => e.vs) k w l.b 0 n d' os := by
  rw [Array.toArray_toList]; rfl
 rw [ew] at st3 s3
 refine ⟨.tuple #[], .tuple [], C, τ, _, rfl, ⟨rfl, d'.toList.map (fun e => e.x), ⟨?_, fun i j x y hij hx hy => ?_⟩, by rw [List.map_map]; rfl⟩, .tuple _ _ rfl fun i c v h => by simp at h, st3, (s1.trans s2).trans s3⟩
 ·have h3 := hp.2.2
  have a1 : d'.extract 0 es.length = d' := by rw [← hd's]; simp
  have a2 : d.extract 0 es.length = d := by rw [← hd]; simp
  rw [a1, a2] at h3
  have := h3.map (fun e : El C w k cells => e.x)
  rwa [hdx] at this
 ·rw [List.getElem?_map] at hx hy
  obtain ⟨ex, hx1, rfl⟩ := Option.map_eq_some_iff.1 hx
  obtain ⟨ey, hy1, rfl⟩ := Option.map_eq_some_iff.1 hy
  clear hx hy
  have hj := (List.getElem?_eq_some_iff.1 hy1).1
  rw [Array.length_toList, hd's] at hj
  have h4 := hs i j (Nat.zero_le _) hij hj
  have b1 : d'[i]! = ex := by
   rw [getElem!_pos d' i (by omega)]
   have := (List.getElem?_eq_some_iff.1 hx1).2
   simpa using this
  have b2 : d'[j]! = ey := by
   rw [getElem!_pos d' j (by omega)]
   have := (List.getElem?_eq_some_iff.1 hy1).2
   simpa using this
  rw [b1, b2] at h4
  unfold Go.Proofs.ltOf at h4
  simp at h4
  exact h4

end
end Go.AW

namespace Go.AW
variable [Draws]
open Go.Sort
attribute [local irreducible] ACalls
abbrev EntS := {e : Ent // e.row.length ≤ 1000}

def subL : (l : List Ent) → (∀ e ∈ l, e.row.length ≤ 1000) → List EntS
 | [], _ => []
 | e :: l, h => ⟨e, h e (List.mem_cons_self ..)⟩ :: subL l fun e he => h e (List.mem_cons_of_mem _ he)

theorem subL_map : ∀ (l : List Ent) (h : ∀ e ∈ l, e.row.length ≤ 1000), (subL l h).map (fun e => e.1) = l
 | [], _ => rfl
 | e :: l, h => by rw [subL, List.map_cons, subL_map l]

theorem swo_rows : SWO (Go.Proofs.ltOf fun a b : EntS => rowsCmp a.1.row b.1.row) where
 irrefl x := by simp [Go.Proofs.ltOf, (rowsCmp_zero x.1.row x.1.row).2 rfl]
 trans x y z h1 h2 := by
  simp [Go.Proofs.ltOf] at h1 h2 ⊢
  exact rowsCmp_trans _ _ _ h1 h2
 ntrans x y z h1 h2 := by
  simp [Go.Proofs.ltOf] at h1 h2 ⊢
  refine Int.not_lt.1 fun hn => ?_
  by_cases hz : rowsCmp y.1.row z.1.row = 0
  ·rw [(rowsCmp_zero _ _).1 hz] at h1
   omega
  ·have h3 : rowsCmp z.1.row y.1.row < 0 := by rw [rowsCmp_anti]; omega
   have := rowsCmp_trans _ _ _ hn h3
   omega

theorem sortE_of {P : Program} {ρ : Go.Shelf.Ren} (L : Go.Proofs.SlLaysF0.n6 P ρ) (aE : ∀ w, (isAgg (ρ.t 24)).run P w = .ok true w) (zE : ∀ w, (Go.sizeOf (ρ.t 24)).run P w = .ok 2 w) (F : F_z06 P) :
  SortE P (ρ.f 6) F.id := by
 intro l hne hl hr H i0 ho
 have eg : ∀ args w, (callFunc F.id args).run P w = .ok (.enter F.id args) w := by
  obtain ⟨fn, c, h1, h2, h3, _⟩ := F.has
  exact Go.Proofs.enters_of h1 h2 h3
 have hm := subL_map l hr
 have hcells : (subL l hr).map (fun e => entC e.1) = eC l := by
  have := congrArg (List.map entC) hm
  rw [List.map_map] at this
  exact this
 have hlen : (subL l hr).length = l.length := by rw [← List.length_map (f := fun e : EntS => e.1), hm]
 have main := sort_spec (P := P) L (k := 2) (by decide) aE zE (cells := fun e : EntS => entC e.1) (fun _ => rfl) (fun x c hc => by
  simp [entC] at hc
  rcases hc with rfl | rfl
  ·simp [AVal.isPure]
  ·rfl) (cmp := fun a b => rowsCmp a.1.row b.1.row) swo_rows (g := F.id) eg (fun x y => by letI : Draws := upD; exact (bag_sum_1_spec F x.1 y.1 (by have := x.2; omega) []).mono fun _ _ h => h.1)
  (es := subL l hr) (fun h => by rw [h] at hm; exact hne hm.symm) (by omega) (i0 := i0) (by rw [hcells]; exact ho)
 rw [hlen] at main
 refine main.mono ?_
 rintro r H' ⟨rfl, es', ⟨hp, hs⟩, rfl⟩
 refine ⟨rfl, es'.map (fun e => e.1), by have := hp.map (fun e : EntS => e.1); rwa [hm] at this, ?_, ?_⟩
 ·refine List.pairwise_iff_getElem.2 fun i j hi hj hij => ?_
  rw [List.length_map] at hi hj
  have := hs i j es'[i] es'[j] hij (List.getElem?_eq_getElem hi) (List.getElem?_eq_getElem hj)
  replace this : 0 ≤ rowsCmp (es'[j]).1.row (es'[i]).1.row := this
  rw [rowsCmp_anti] at this
  simp only [List.getElem_map]
  omega
 ·rw [eC, List.map_map]; rfl

end Go.AW

