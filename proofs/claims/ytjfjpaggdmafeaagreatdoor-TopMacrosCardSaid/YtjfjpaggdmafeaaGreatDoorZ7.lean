/-
  An abstract machine over the model, the code of functions on it, and their contracts: what the claim needs.
  No condition: definitions, plain laws, contracts over any program that has this code.
-/
import Derived.Test.YtjfjpaggdmafeaaGreatDoorZ6
set_option linter.all false
namespace Go.AW
variable [Draws]
attribute [local irreducible] ACalls
set_option maxRecDepth 100000
set_option maxHeartbeats 4000000
theorem mE {a : Nat} {l : List Nat} (h : List.elem a l = true) : a ∈ l := List.mem_of_elem_eq_true h
theorem mf_yield {f : FuncId} {caps : List AOpd} {ρ : List AVal} {H : List AObj} : YieldsO pr (.makeFunc f caps) ρ H (.fn f (caps.map (ev ρ))) H := fun K hK => by
 show evsK ρ caps _
 rw [evsK_eq]; exact hK
theorem mfb_yield {f : FuncId} {caps : List AOpd} {ρ : List AVal} {H : List AObj} : YieldsO pr (.makeFuncB f caps) ρ H (.fnb f (caps.map (ev ρ))) H := fun K hK => by
 show evsK ρ caps _
 rw [evsK_eq]; exact hK
theorem mv_yield {x : AOpd} {ρ : List AVal} {H : List AObj} : YieldsO pr (.move x) ρ H (ev ρ x) H := fun K hK => by
 show evK ρ x _
 rw [evK_eq]; exact hK
theorem ld_yield {ρ : List AVal} {o : AObj} {G : List AObj} (h1 : getT ρ 1 = .ptr 1 1 0 0) : YieldsO pr (.load false 1 (.t 1)) ρ (o :: .arr 1 [[.ptr 0 1 0 0]] :: G) (.ptr 0 1 0 0) (o :: .arr 1 [[.ptr 0 1 0 0]] :: G) := fun K hK => by
 show evK ρ (.t 1) _
 rw [evK_eq, show ev ρ (.t 1) = .ptr 1 1 0 0 from h1]
 exact hK
theorem mk_yield {ρ : List AVal} {H : List AObj} : YieldsO pr .mkMap ρ H (.mp H.length) (H ++ [.map []]) := fun K hK => by
 refine snocI (H := H) (o := .map []) (n := 0) (k := fun id H' => K (.mp id) H') ?_
 rw [Nat.zero_add]; exact hK
theorem cv_yield {n : Int} {s : Nat} {ρ : List AVal} {H : List AObj} (hs : getT ρ s = stF) : YieldsO pr (.callvE (.t s) [.c (.int .i64 n)]) ρ H (.fn 160 [.ptr H.length 1 0 0, .ptr 1 1 0 0]) (H ++ [.arr 1 [[.int .i64 n]]]) := fun K hK => by
 show evK ρ (.t s) _
 rw [evK_eq, show ev ρ (.t s) = stF from hs]
 show evsK ρ _ _
 rw [evsK_eq]
 refine (fq127_t n H).mono ?_
 rintro r H' ⟨rfl, rfl⟩
 exact hK
theorem InvS.snoc {o : AObj} {p : AVal} {L : Nat → Bool} {ρ : List AVal} {H : List AObj} (h : InvS o p L ρ H) (j d : Nat) (v : AVal) (x : AObj) (hj : j = 17 ∧ d = 15 ∨ j = 20 ∧ d = 17) (hL : L j = false) :
  InvS o p (fun k => if k = j then true else L k) (putV ρ (some d) v) (H ++ [x]) := by
 have g : ∀ t, d ≠ t → getT (putV ρ (some d) v) t = getT ρ t := fun t ht => getT_putV (by simpa using ht)
 have l : ∀ k, j ≠ k → (if k = j then true else L k) = L k := fun k hk => if_neg (Ne.symm hk)
 obtain ⟨G, h1, h2, h3⟩ := h.hp
 refine ⟨by rw [putV_length]; exact h.len, ?_, ?_, ?_, ?_, ?_, ?_, ?_, ?_, G ++ [x], by rw [h1]; rfl, ?_, ?_⟩
 ·rw [g _ (by omega)]; exact h.s1
 ·rw [g _ (by omega)]; exact h.s3
 ·rw [g _ (by omega), l _ (by omega)]; exact h.s6
 ·rw [g _ (by omega), l _ (by omega)]; exact h.s14
 ·rw [g _ (by omega), l _ (by omega)]; exact h.s16
 ·rw [g _ (by omega), g _ (by omega), l _ (by omega)]; exact h.s22
 ·rw [g _ (by omega), g _ (by omega), l _ (by omega)]; exact h.s2
 ·rw [l _ (by omega), l _ (by omega), l _ (by omega), l _ (by omega)]; exact h.c0
 ·rcases hj with ⟨rfl, rfl⟩ | ⟨rfl, rfl⟩
  ·rw [hL] at h2; rw [List.length_append, h2]; simp [b2n]; omega
  ·rw [hL] at h2; rw [List.length_append, h2]; simp [b2n]
 ·rw [g _ (by omega), l _ (by omega), l _ (by omega)]
  intro h0
  obtain ⟨m, es, g1, g2, g3⟩ := h3 h0
  exact ⟨m, es, g1, by rw [List.getElem?_append_left (List.getElem?_eq_some_iff.1 g2).1]; exact g2, g3⟩
theorem steps_t (o : AObj) : ACalls pr 132 [.ptr 0 1 0 0] [o] (fun r H' => ∃ G m es, H' = o :: .arr 1 [[.ptr 0 1 0 0]] :: G ∧ G.length = 3 ∧ G[m]? = some (.map es) ∧ r = .mp (m + 2) ∧ Sk es ∧ mfind 2 (.str whB) es = some stV) := by
 refine k132.ok _ _ _ ?_
 conv => whnf
 refine ⟨InvS o (.ptr 0 1 0 0), ?_, ?_, ?_⟩
 ·exact ⟨rfl, rfl, rfl, fun h => (by cases h), fun h => (by cases h), fun h => (by cases h), fun h => (by cases h), fun h => (by cases h), fun h => (by simp at h), [], rfl, rfl, fun h => (by cases h)⟩
 ·intro L ρ H j i hL hq hi hI
  have gp : ∀ (d : Nat) (v : AVal) t, d ≠ t → getT (putV ρ (some d) v) t = getT ρ t := fun d v t ht => getT_putV (by simpa using ht)
  obtain ⟨G, h1, h2, h3⟩ := hI.hp
  rcases j with _ | _ | _ | _ | _ | _ | _ | _ | _ | _ | _ | _ | _ | _ | _ | _ | _ | _ | _ | _ | _ | _ | _ | _ | _ | _ | _ | _ | _ | _ | _ | j
  all_goals ((conv at hi => lhs; whnf); cases hi)
  ·have hG : ∃ G1, G1 = G ++ [.map []] := ⟨_, rfl⟩
   refine ⟨_, _, .inl ⟨rfl, mk_yield⟩, by rw [putV_length]; exact hI.len, ?_, ?_, ?_, ?_, ?_, ?_, ?_, ?_, G ++ [.map []], by rw [h1]; rfl, ?_, ?_⟩
   ·rw [gp _ _ _ (by decide)]; exact hI.s1
   ·rw [gp _ _ _ (by decide)]; exact hI.s3
   ·rw [gp _ _ _ (by decide)]; exact hI.s6
   ·rw [gp _ _ _ (by decide)]; exact hI.s14
   ·rw [gp _ _ _ (by decide)]; exact hI.s16
   ·intro h; have := hI.c0 (.inr (.inl h)); rw [hL] at this; cases this
   ·intro h; have := hI.c0 (.inr (.inr h)); rw [hL] at this; cases this
   ·intro _; rfl
   ·rw [hL] at h2; rw [List.length_append, h2]; simp [b2n]; omega
   ·intro _
    refine ⟨G.length, [], ?_, by simp, fun kv hk => (by cases hk), ?_⟩
    ·rw [getT_put (by rw [hI.len]; decide), h1]; rfl
    ·intro h; have := hI.c0 (.inl h); rw [hL] at this; cases this
  ·refine ⟨_, _, .inl ⟨rfl, mf_yield⟩, by rw [putV_length]; exact hI.len, ?_, ?_, ?_, ?_, ?_, ?_, ?_, ?_, G, h1, h2, ?_⟩
   ·rw [gp _ _ _ (by decide)]; exact hI.s1
   ·rw [gp _ _ _ (by decide)]; exact hI.s3
   ·intro _; rw [getT_put (by rw [hI.len]; decide)]; exact congrArg (fun x => AVal.fn 161 [x]) hI.s1
   ·rw [gp _ _ _ (by decide)]; exact hI.s14
   ·rw [gp _ _ _ (by decide)]; exact hI.s16
   ·rw [gp _ _ _ (by decide), gp _ _ _ (by decide)]; exact hI.s22
   ·rw [gp _ _ _ (by decide), gp _ _ _ (by decide)]; exact hI.s2
   ·exact hI.c0
   ·rw [gp _ _ _ (by decide)]; exact h3
  ·obtain ⟨m, es, g1, g2, g3, g4⟩ := h3 (hq 0 (mE rfl))
   refine ⟨_, _, .inl ⟨rfl, ms_yield g1 (by rw [h1]; exact g2) g3 _⟩, hI.len, hI.s1, hI.s3, hI.s6, hI.s14, hI.s16, hI.s22, hI.s2, fun _ => hq 0 (mE rfl), G.set m (.map (mput 2 (.str whB) (ev ρ (.t 6)) es)), by rw [h1]; rfl, ?_, ?_⟩
   ·rw [List.length_set]; exact h2
   ·intro _
    refine ⟨m, _, g1, List.getElem?_set_self (List.getElem?_eq_some_iff.1 g2).1, g3.put _ _, fun _ => ?_⟩
    rw [g3.find]
    exact congrArg some (hI.s6 (hq 1 (mE rfl)))
  ·subst h1
   exact ⟨_, _, .inl ⟨rfl, ld_yield hI.s1⟩, hI.pure 3 7 _ (by decide) (by decide)⟩
  ·exact ⟨_, _, .inl ⟨rfl, mfb_yield⟩, hI.pure 4 8 _ (by decide) (by decide)⟩
  ·exact hI.put 5 (hq 0 (mE rfl)) _ _ (by decide) (by decide)
  ·exact ⟨_, _, .inl ⟨rfl, mf_yield⟩, hI.pure 6 9 _ (by decide) (by decide)⟩
  ·exact hI.put 7 (hq 0 (mE rfl)) _ _ (by decide) (by decide)
  ·exact ⟨_, _, .inl ⟨rfl, mf_yield⟩, hI.pure 8 10 _ (by decide) (by decide)⟩
  ·exact hI.put 9 (hq 0 (mE rfl)) _ _ (by decide) (by decide)
  ·exact ⟨_, _, .inl ⟨rfl, mf_yield⟩, hI.pure 10 11 _ (by decide) (by decide)⟩
  ·exact hI.put 11 (hq 0 (mE rfl)) _ _ (by decide) (by decide)
  ·exact ⟨_, _, .inl ⟨rfl, mf_yield⟩, hI.pure 12 12 _ (by decide) (by decide)⟩
  ·exact hI.put 13 (hq 0 (mE rfl)) _ _ (by decide) (by decide)
  ·exact ⟨_, _, .inl ⟨rfl, mf_yield⟩, hI.pure 14 13 _ (by decide) (by decide)⟩
  ·exact hI.put 15 (hq 0 (mE rfl)) _ _ (by decide) (by decide)
  ·refine ⟨_, _, .inl ⟨rfl, mv_yield⟩, by rw [putV_length]; exact hI.len, ?_, ?_, ?_, ?_, ?_, ?_, ?_, ?_, G, h1, h2, ?_⟩
   ·rw [gp _ _ _ (by decide)]; exact hI.s1
   ·rw [gp _ _ _ (by decide)]; exact hI.s3
   ·rw [gp _ _ _ (by decide)]; exact hI.s6
   ·intro _; rw [getT_put (by rw [hI.len]; decide)]; exact hI.s3
   ·rw [gp _ _ _ (by decide)]; exact hI.s16
   ·rw [gp _ _ _ (by decide), gp _ _ _ (by decide)]; exact hI.s22
   ·rw [gp _ _ _ (by decide), gp _ _ _ (by decide)]; exact hI.s2
   ·exact hI.c0
   ·rw [gp _ _ _ (by decide)]; exact h3
  ·exact ⟨_, _, .inl ⟨rfl, cv_yield (hI.s14 (hq 16 (mE rfl)))⟩, hI.snoc 17 15 _ _ (by decide) hL⟩
  ·exact hI.put 18 (hq 0 (mE rfl)) _ _ (by decide) (by decide)
  ·refine ⟨_, _, .inl ⟨rfl, mv_yield⟩, by rw [putV_length]; exact hI.len, ?_, ?_, ?_, ?_, ?_, ?_, ?_, ?_, G, h1, h2, ?_⟩
   ·rw [gp _ _ _ (by decide)]; exact hI.s1
   ·rw [gp _ _ _ (by decide)]; exact hI.s3
   ·rw [gp _ _ _ (by decide)]; exact hI.s6
   ·rw [gp _ _ _ (by decide)]; exact hI.s14
   ·intro _; rw [getT_put (by rw [hI.len]; decide)]; exact hI.s3
   ·rw [gp _ _ _ (by decide), gp _ _ _ (by decide)]; exact hI.s22
   ·rw [gp _ _ _ (by decide), gp _ _ _ (by decide)]; exact hI.s2
   ·exact hI.c0
   ·rw [gp _ _ _ (by decide)]; exact h3
  ·exact ⟨_, _, .inl ⟨rfl, cv_yield (hI.s16 (hq 19 (mE rfl)))⟩, hI.snoc 20 17 _ _ (by decide) hL⟩
  ·exact hI.put 21 (hq 0 (mE rfl)) _ _ (by decide) (by decide)
  ·exact hI.put 22 (hq 0 (mE rfl)) _ _ (by decide) (by decide)
  ·subst h1
   exact ⟨_, _, .inl ⟨rfl, ld_yield hI.s1⟩, hI.pure 23 18 _ (by decide) (by decide)⟩
  ·exact ⟨_, _, .inl ⟨rfl, mfb_yield⟩, hI.pure 24 19 _ (by decide) (by decide)⟩
  ·exact hI.put 25 (hq 0 (mE rfl)) _ _ (by decide) (by decide)
  ·subst h1
   exact ⟨_, _, .inl ⟨rfl, ld_yield hI.s1⟩, hI.pure 26 20 _ (by decide) (by decide)⟩
  ·exact ⟨_, _, .inl ⟨rfl, mfb_yield⟩, hI.pure 27 21 _ (by decide) (by decide)⟩
  ·exact hI.put 28 (hq 0 (mE rfl)) _ _ (by decide) (by decide)
  ·refine ⟨_, _, .inl ⟨rfl, mv_yield⟩, by rw [putV_length]; exact hI.len, ?_, ?_, ?_, ?_, ?_, ?_, ?_, ?_, G, h1, h2, ?_⟩
   ·rw [gp _ _ _ (by decide)]; exact hI.s1
   ·rw [gp _ _ _ (by decide)]; exact hI.s3
   ·rw [gp _ _ _ (by decide)]; exact hI.s6
   ·rw [gp _ _ _ (by decide)]; exact hI.s14
   ·rw [gp _ _ _ (by decide)]; exact hI.s16
   ·intro _; rw [getT_put (by rw [hI.len]; decide), gp _ _ _ (by decide)]; rfl
   ·rw [gp _ _ _ (by decide), gp _ _ _ (by decide)]; exact hI.s2
   ·intro _; exact hq 0 (mE rfl)
   ·rw [gp _ _ _ (by decide)]; exact h3
  ·refine ⟨_, _, .inl ⟨rfl, mv_yield⟩, by rw [putV_length]; exact hI.len, ?_, ?_, ?_, ?_, ?_, ?_, ?_, ?_, G, h1, h2, ?_⟩
   ·rw [gp _ _ _ (by decide)]; exact hI.s1
   ·rw [gp _ _ _ (by decide)]; exact hI.s3
   ·rw [gp _ _ _ (by decide)]; exact hI.s6
   ·rw [gp _ _ _ (by decide)]; exact hI.s14
   ·rw [gp _ _ _ (by decide)]; exact hI.s16
   ·rw [gp _ _ _ (by decide), gp _ _ _ (by decide)]; exact hI.s22
   ·intro _; rw [getT_put (by rw [hI.len]; decide), gp _ _ _ (by decide)]; exact hI.s22 (hq 29 (mE rfl))
   ·intro _; exact hI.c0 (.inr (.inl (hq 29 (mE rfl))))
   ·rw [gp _ _ _ (by decide)]; exact h3
 ·intro L ρ H hL hI
  have hL : ∀ j, j < 31 → L j = true := hL
  obtain ⟨G, h1, h2, h3⟩ := hI.hp
  obtain ⟨m, es, g1, g2, g3, g4⟩ := h3 (hL 0 (by decide))
  have e2 : getT ρ 2 = .mp (m + 2) := (hI.s2 (hL 30 (by decide))).trans g1
  show getK ρ 2 _
  rw [getK_eq, e2]
  exact ⟨G, m, es, h1, by rw [h2, hL 0 (by decide), hL 17 (by decide), hL 20 (by decide)]; rfl, g2, rfl, g3, g4 (hL 2 (by decide))⟩
end Go.AW

namespace Go.AW
variable [Draws]
attribute [local irreducible] ACalls
section
variable (F : (AExit → List AVal → List AObj → Prop) → List AVal → List AObj → Prop) (n0 : List Nat) (Qe : Nat → List AVal → List AObj → Prop) (Qr : List AVal → List AObj → Prop)
def lpR (I : Nat → List AVal → List AObj → Prop) (n : Nat) (ρ : List AVal) (H : List AObj) : Prop :=
 forceK ρ fun ρ1 => F (fun e ρ' H' => match e with
  | .normal => ∃ m, m < n ∧ Gp n0 ρ' H' (I m)
  | .exit id => Qe id ρ' H'
  | .ret => Qr ρ' H') ρ1 H
def lpT : Nat → Nat → List AVal → List AObj → Prop
 | 0, _ => fun _ _ => False
 | k + 1, m => if m < k then lpT k m else lpR F n0 Qe Qr (lpT k) m
def lpI (m : Nat) : List AVal → List AObj → Prop := lpT F n0 Qe Qr (m + 1) m
theorem lpT_le : ∀ (k m : Nat), m < k → lpT F n0 Qe Qr k m = lpI F n0 Qe Qr m
 | 0, m, h => absurd h (Nat.not_lt_zero _)
 | k + 1, m, h => by
  by_cases e : m < k
  ·rw [lpT, if_pos e]; exact lpT_le k m e
  ·have : m = k := by omega
   subst this; rfl
theorem lpI_eq (m : Nat) : lpI F n0 Qe Qr m = lpR F n0 Qe Qr (lpI F n0 Qe Qr) m := by
 rw [lpI, lpT, if_neg (Nat.lt_irrefl m)]
 funext ρ H
 unfold lpR
 congr; funext ρ1; congr; funext e ρ' H'
 cases e <;> try rfl
 refine propext ⟨fun ⟨k, h, g⟩ => ⟨k, h, by rwa [lpT_le F n0 Qe Qr m k h] at g⟩, fun ⟨k, h, g⟩ => ⟨k, h, by rwa [lpT_le F n0 Qe Qr m k h]⟩⟩
theorem lpU (N : Nat) {ρ : List AVal} {H : List AObj} (h : lpI F n0 Qe Qr N ρ H) : ∃ (I : Nat → List AVal → List AObj → Prop) (n : Nat) (vs : List (Nat × Nat)), nvK vs ρ H (I n) ∧ ∀ n1 ρ1 H1, I n1 ρ1 H1 →
  forceK ρ1 fun ρ1 => F (fun e ρ' H' => match e with
   | .normal => ∃ m, m < n1 ∧ Gp n0 ρ' H' (I m)
   | .exit id => Qe id ρ' H'
   | .ret => Qr ρ' H') ρ1 H1 :=
 ⟨lpI F n0 Qe Qr, N, [], h, fun n1 ρ1 H1 h1 => by rw [lpI_eq] at h1; exact h1⟩
theorem lpS {m : Nat} {ρ : List AVal} {H : List AObj} (h : forceK ρ fun ρ1 => F (fun e ρ' H' => match e with
   | .normal => ∃ k, k < m ∧ Gp n0 ρ' H' (lpI F n0 Qe Qr k)
   | .exit id => Qe id ρ' H'
   | .ret => Qr ρ' H') ρ1 H) : lpI F n0 Qe Qr m ρ H := by rw [lpI_eq]; exact h
theorem lpE {m : Nat} {ρ : List AVal} {H : List AObj} (h : lpI F n0 Qe Qr m ρ H) : ∃ k, k < m + 1 ∧ Gp n0 ρ H (lpI F n0 Qe Qr k) := ⟨m, Nat.lt_succ_self m, .inl h⟩
end
theorem drP {P : Program} {f : FuncId} {args : List AVal} {H : List AObj} {R : AVal} {k : AVal → Prop} (ha : args.all AVal.closed = true) (h : ACalls P f args [] (fun r H1 => Pub H1 0 [] r R)) (hk : k R) : ∃ r, ACalls P f args H (fun r' H' => r' = r ∧ H' = H) ∧ k r := ⟨R, ACalls.pure ha h, hk⟩
theorem drQ {P : Program} {f : FuncId} {args args' : List AVal} {H : List AObj} {R : AVal} {k : AVal → Prop} (e : args = args') (h : ACalls P f args' H (fun r' H' => r' = R ∧ H' = H)) (hk : k R) : ∃ r, ACalls P f args H (fun r' H' => r' = r ∧ H' = H) ∧ k r := by subst e; exact ⟨R, h, hk⟩
theorem usQ {P : Program} {f : FuncId} {args args' : List AVal} {H : List AObj} {R : AVal} {k : AVal → List AObj → Prop} (e : args = args') (h : ACalls P f args' H (fun r' H' => r' = R ∧ H' = H)) (hk : k R H) : ACalls P f args H k := by subst e; exact ACalls.use h hk
theorem ceA {P : Program} {f : FuncId} {vs : List AVal} {H H1 : List AObj} {R : AVal} {k : AVal → List AObj → Prop} (h : ACalls P f vs H (fun r' H' => r' = R ∧ H' = H1)) (hk : k R H1) : ∃ r H1, ACalls P f vs H (fun r' H' => r' = r ∧ H' = H1) ∧ k r H1 := ⟨R, H1, h, hk⟩
theorem ceB {P : Program} {f : FuncId} {vs : List AVal} {H H1 : List AObj} {R : AVal} {k : AVal → List AObj → Prop} (h : ACalls P f vs H (fun r' H' => r' = R ∧ H' = H1)) (hk : k R H1) : ∃ r H1, k r H1 ∧ ACalls P f vs H (fun r' H' => r' = r ∧ H' = H1) := ⟨R, H1, hk, h⟩
end Go.AW

namespace Go.AW
variable [Draws]
attribute [local irreducible] ACalls CallE CallS Gp
set_option maxRecDepth 20000
set_option maxHeartbeats 4000000
theorem expr_t2 (f g : Bool) {cs : List Col} (hcs : CzK cs) (hv : vldC cs = 0) (l : List Int) : EgOk 5 f g cs l 2 600000 13 3 := by
 have e0 := expr_zero f g hcs l
 have e1 : EgOk 5 f g cs l 1 8000000 4 2 := expr_step f g hcs hv l (d := 1) (A := 100000000) (N := 1) (zz := 1) (by decide) (by decide) (by decide) (by decide) (by rw [show IntKind.i64.wrap (1 - 1) = 0 by decide]; exact e0) (by decide) (by decide)
 exact expr_step f g hcs hv l (d := 2) (A := 8000000) (N := 4) (zz := 2) (by decide) (by decide) (by decide) (by decide) (by rw [show IntKind.i64.wrap (2 - 1) = 1 by decide]; exact e1) (by decide) (by decide)
theorem oCz : CzK ordC := by
 refine ⟨by decide, fun c hc => ?_, fun a ha b hb h => ?_⟩
 ·simp only [ordC, List.mem_cons, List.not_mem_nil, or_false] at hc
  rcases hc with rfl | rfl | rfl | rfl <;> decide
 ·simp only [ordC, List.mem_cons, List.not_mem_nil, or_false] at ha hb
  rcases ha with rfl | rfl | rfl | rfl <;> rcases hb with rfl | rfl | rfl | rfl <;> first | rfl | (exact absurd h (by decide))
theorem oOk : CsOk ordC := ⟨by decide, by decide, by decide⟩
theorem par4 {kb : Int} (h : 1 ≤ kb ∧ kb ≤ 4) : kb = 1 ∨ kb = 2 ∨ kb = 3 ∨ kb = 4 := by omega
theorem parCz {kb : Int} (h : 1 ≤ kb ∧ kb ≤ 4) : CzK (parC kb) := by
 refine ⟨(by decide : (2 : Nat) ≤ 1000), fun c hc => ?_, fun a ha b hb h => ?_⟩
 ·simp only [parC, List.mem_cons, List.not_mem_nil, or_false] at hc
  rcases hc with rfl | rfl
  ·decide
  ·rcases par4 h with rfl | rfl | rfl | rfl <;> decide
 ·simp only [parC, List.mem_cons, List.not_mem_nil, or_false] at ha hb
  rcases ha with rfl | rfl <;> rcases hb with rfl | rfl <;> first | rfl | (exact absurd h (by decide : ¬ named (bs [120, 98]) ⟨bs [120, 97], 2, true⟩ = true)) | (exfalso; revert h; exact (by decide : ¬ (named (bs [120, 97]) ⟨bs [120, 98], 0, true⟩ = true)))
theorem parOk {kb : Int} (h : 1 ≤ kb ∧ kb ≤ 4) : CsOk (parC kb) := by
 rcases par4 h with rfl | rfl | rfl | rfl <;> exact ⟨by decide, by decide, by decide⟩
theorem oRow (l : List Int) (i : Int) : chkRow ordC (rowC ordC l i) = 0 := by
 rw [chkRow, if_pos (rowC_length _ _ _)]
 exact rowC_chk ordC l i fun c hc => (oCz.2.1 c hc).2.2.2
theorem ExK.ety4 {cs : List Col} {kind : Int} {N : Nat} {h : Int} {e : List Nod} (x : ExK cs kind N h e) (hN : N ≤ 256) : ∃ kf, ETy cs zsV e kf ∧ (kf.1 = kind ∨ kf.1 = 0) ∧ ∃ y, (1 ≤ y ∧ y ≤ h) ∧ stk fH e [] = some [y] := by
 obtain ⟨k, hk, x⟩ := x
 obtain ⟨hf, hh1, hh2, hh⟩ := x.hh
 exact ⟨k, ⟨Nat.le_trans x.len hN, ⟨hf, hh []⟩, x.gd, fun n hn h20 => zsV_has _ ((x.gd n hn).day h20), x.kk []⟩, hk, hf, ⟨hh1, hh2⟩, hh []⟩
theorem col_in0 {s : ByteArray} (h : 0 ≤ colIdx ordC s) : s = bs [105, 100] ∨ s = bs [99] ∨ s = bs [97, 116] ∨ s = bs [118] := by
 unfold colIdx ordC at h
 simp only [idxOf] at h
 split at h
 ·rename_i h1; exact .inl (eqB h1)
 split at h
 ·rename_i h1; exact .inr (.inl (eqB h1))
 split at h
 ·rename_i h1; exact .inr (.inr (.inl (eqB h1)))
 split at h
 ·rename_i h1; exact .inr (.inr (.inr (eqB h1)))
 ·omega
theorem ordCz : CzK ordC := oCz
theorem ordOk : CsOk ordC := oOk
theorem ExK.ety {cs : List Col} {N : Nat} {h : Int} {e : List Nod} (x : ExK cs 1 N h e) (hN : N ≤ 256) : ∃ kf, ETy cs zsV e kf ∧ (kf.1 = 1 ∨ kf.1 = 0) := by
 obtain ⟨kf, h1, h2, _⟩ := x.ety4 hN
 exact ⟨kf, h1, h2⟩
theorem ord_vk {row : List V} (h : chkRow ordC row = 0) : ∀ (n : Nod) (l : List Kd) (k : Kd), n.op = 1 → fK ordC n l = some k → VK k.1 (nmV (mpR (ordC.zip row)) n.name) := by
 obtain ⟨hl, hv⟩ := chkRow_ok h
 match row, hl with
 | [a, b, c, d], _ =>
  intro n l k ho hk
  have hb : ∀ (q : Col) (v : V), badB q v = false → v.kind = q.kind ∨ v.kind = 0 := fun q v h => by
   unfold badB at h
   simp at h
   by_cases h0 : v.kind = 0
   ·exact .inr h0
   ·exact .inl (h.2 h0)
  have hg : chkGo ordC [a, b, c, d] = 0 := by
   unfold chkRow at h
   rwa [if_pos (show [a, b, c, d].length = ordC.length from rfl)] at h
  unfold ordC at hg
  rw [chkGo] at hg
  split at hg
  ·cases hg
  split at hg
  ·cases hg
  rename_i va ba
  rw [chkGo] at hg
  split at hg
  ·cases hg
  split at hg
  ·cases hg
  rename_i vb bb
  rw [chkGo] at hg
  split at hg
  ·cases hg
  split at hg
  ·cases hg
  rename_i vc bc
  rw [chkGo] at hg
  split at hg
  ·cases hg
  split at hg
  ·cases hg
  rename_i vd bd
  have e : ∀ {q : Col} {v : V}, ¬ validB v = false → ¬ badB q v = true → VK q.kind v := fun h1 h2 => ⟨by simpa using h1, hb _ _ (by simpa using h2)⟩
  have kv := fun s : ByteArray => (show nmV (mpR (ordC.zip [a, b, c, d])) s = nmV (mpR (ordC.zip [a, b, c, d])) s from rfl)
  unfold fK at hk
  rw [if_neg (by omega), if_pos ho] at hk
  split at hk
  case isFalse => cases hk
  rename_i hi
  have hin := col_in0 hi
  rcases hin with h0 | h0 | h0 | h0 <;> rw [h0] at hk ⊢ <;> cases hk
  ·exact e va ba
  ·exact e vb bb
  ·exact e vc bc
  ·exact e vd bd
end Go.AW

namespace Go.AW
variable [Draws]
attribute [local irreducible] ACalls CallE CallS Gp lpI
set_option maxRecDepth 100000
set_option maxHeartbeats 4000000
def fB : ByteArray := bs [102]
def mcC (body : List Nod) : List AVal := [.str fB, .list true 1 (sC parN), .list false 6 (mC nodC body)]
def callN : Nod := ⟨21, ⟨0, 0, bs []⟩, fB, 2⟩
theorem find_m (body : List Nod) (H : List AObj) : ACalls pr 41 [.list true 3 [mcC body], .str fB] H (fun r H' => r = .int .i64 0 ∧ H' = H) := by
 refine ACalls.pure rfl (acalls_of_body k41.has ?_)
 repeat' (first | refine lpS _ _ _ _ ?_ | refine lpE _ _ _ _ ?_ | ((conv => whnf); first | exact .closed _ rfl | exact ⟨rfl, rfl⟩ | apply ceA | refine acalls_of_body k79.has ?_ | refine acalls_of_body k80.has ?_ | refine recT (by decide) ?_ | refine recF (by decide) ?_ | refine And.intro (by first | exact rfl | decide | omega | ((conv => whnf); exact ⟨by decide, rfl⟩)) ?_ | refine lpU _ _ _ _ 60 ?_))
theorem isb_m [Gls] (s : ByteArray) : DetS pr 39 [.str s] (fun r => r = .bool (mbW.any (eqS s))) := by
 refine dets_of_body k39.has rfl ?_
 (conv => whnf); refine recO Gls.mb ?_
 (conv => whnf); refine CallE.of (Contains_spec false mbW (by decide) s _) ?_
 conv => whnf
 exact retB rfl
theorem calls_m (x : Bool) (body e : List Nod) (hl : e.length ≤ 1000) (hc : ∀ n ∈ e, n.op = 21 → n = callN) (H : List AObj) : ACalls pr 20 [.list x 6 (mC nodC e), .list true 3 [mcC body]] H (fun r H' => r = .int .i64 0 ∧ H' = H) := by
 refine ACalls.pure rfl (acalls_of_body k20.has ?_)
 conv => whnf
 refine ⟨fun m ρ H1 => ∃ k : Nat, k + m = e.length ∧ H1 = [] ∧ Sv 33 [(1, .list true 3 [mcC body]), (8, .list x 6 (mC nodC e)), (9, .int .i64 e.length), (10, .int .i64 k)] ρ, e.length, [], ?_, ?_⟩
 ·exact ⟨0, Nat.zero_add _, rfl, Sv.intro rfl ⟨rfl, rfl, intEq (by rw [mC_length]), rfl, trivial⟩⟩
 rintro m ρ H1 ⟨k, hk, rfl, d, rfl⟩
 (conv => whnf); refine recA (fun hlt => ?_) (fun hlt => ?_)
 ·simp at hlt
  obtain ⟨n, hnk, hd, hm⟩ := get_drop (l := e) (k := k) (by omega)
  (conv => whnf); refine And.intro (by omega) ?_
  (conv => whnf); refine recO (mC_at hnk) ?_
  (conv => whnf); refine recA (fun h1 => ?_) (fun h1 => ?_)
  ·conv => whnf
   refine ⟨m - 1, by omega, Gp.cut (H := []) rfl trivial rfl rfl ?_ fun ρ1 h => ⟨k + 1, by omega, rfl, h⟩⟩
   exact ⟨rfl, rfl, rfl, intEq (nx1 (by omega)), trivial⟩
  simp at h1
  have hn := hc n hm h1
  subst hn
  (conv => whnf); refine ACalls.use (find_m body _) ?_
  (conv => whnf); refine And.intro (by decide) ?_
  conv => whnf
  refine ⟨m - 1, by omega, Gp.cut (H := []) rfl trivial rfl rfl ?_ fun ρ1 h => ⟨k + 1, by omega, rfl, h⟩⟩
  exact ⟨rfl, rfl, rfl, intEq (nx1 (by omega)), trivial⟩
 ·conv => whnf
  exact pubI rfl
theorem pubFI {H1 : List AObj} {n : Nat} {ids : List Nat} {id ep len sz : Nat} {es : List (List AVal)} (hid : id ∉ ids) (ho : H1[id]? = some (.arr sz es)) (he : ep = es.length) (hl : len = es.length) (hp : pureEs es = true) : Pub H1 n ids (.sl id ep 0 len) (.list false sz es) := by
 subst hl he
 have := Pub.frz (n := n) (ids := ids) id es.length 0 es.length sz es ho rfl hp hid
 rwa [List.drop_zero, List.take_length] at this
theorem pubG2 {H1 : List AObj} {n : Nat} {ids : List Nat} {a b r s : AVal} (h1 : Pub H1 n ids a r) (h2 : Pub H1 n ids b s) : Pub H1 n ids (.agg [a, b]) (.agg [r, s]) :=
 .agg _ _ rfl fun i v q g1 g2 => by
  match i, g1, g2 with
  | 0, rfl, rfl => exact h1
  | 1, rfl, rfl => exact h2
  | i + 2, g1, _ => cases g1
theorem obp2 {H : List AObj} {ids : List Nat} {a b a1 b1 : AVal} (h1 : Pub H 0 ids a a1 ∧ a1.isCell = true) (h2 : Pub H 0 ids b b1 ∧ b1.isCell = true) : ObP H ids (.arr 2 [[a, b]]) (.arr 2 [[a1, b1]]) :=
 .map 2 _ _ rfl (fun i e e1 g1 g2 => by
  match i, g1, g2 with
  | 0, rfl, rfl => rfl
  | i + 1, g1, _ => cases g1) fun i j e e1 x x1 g1 g2 g3 g4 => by
  match i, g1, g2 with
  | 0, rfl, rfl =>
   match j, g3, g4 with
   | 0, rfl, rfl => exact h1
   | 1, rfl, rfl => exact h2
   | j + 2, g3, _ => cases g3
  | i + 1, g1, _ => cases g1
def pH (n : Nod) : List Trm → List AObj
 | [] => [.arr 6 [nodC n], .arr 2 [[.nil, .int .i64 0]], .arr 2 [[.nil, .int .i64 1]]]
 | t :: T => [.arr 6 [nodC n], .arr 2 [[.nil, .int .i64 0]], .arr 2 [[.sl 3 (trN (t :: T)).length 0 (trN (t :: T)).length, .int .i64 (hgt ((t :: T).map Trm.h))]], .arr 6 (mC nodC (trN (t :: T)))]
theorem pH_low (n : Nod) (T : List Trm) : LowH (pH n T).length (pH n T) := by
 cases T with
 | nil => exact ⟨rfl, rfl, rfl, trivial⟩
 | cons t T => exact ⟨rfl, rfl, rfl, lowP (mC_pure nod_pure _), trivial⟩
theorem pH_len (n : Nod) (T : List Trm) : 3 ≤ (pH n T).length := by cases T <;> simp [pH]
theorem trN_take (l : List Trm) (k : Nat) : (trN (l.take k)).length ≤ (trN l).length := by
 have := congrArg List.length (trN_append (l.take k) (l.drop k))
 rw [List.take_append_drop, List.length_append] at this
 omega
theorem put_raw (n : Nod) (x : Bool) (l : List Trm) (hl : (trN l).length ≤ 1000) (h3 : l.length ≤ 1000) (hh : ∀ t ∈ l, 1 ≤ t.h ∧ t.h ≤ 1000 ∧ t.nodes.length ≤ 256) :
  ACalls pr 47 [.agg (nodC n), .list x 2 (mC trC l)] [] (fun r H' => r = .agg [.sl 3 (putT n l).nodes.length 0 (putT n l).nodes.length, .int .i64 (putT n l).h] ∧
   H' = [.arr 6 [nodC n], .arr 2 [[.sl 3 (putT n l).nodes.length 0 (putT n l).nodes.length, .int .i64 (putT n l).h]], .arr 2 [[.sl 3 (putT n l).nodes.length 0 (putT n l).nodes.length, .int .i64 (putT n l).h]], .arr 6 (mC nodC (putT n l).nodes)]) := by
 refine acalls_of_body k47.has ?_
 conv => whnf
 refine ⟨fun m ρ H1 => ∃ k : Nat, k + m = l.length ∧ H1 = pH n (l.take k) ∧ Sv 36 [(2, .ptr 0 1 0 0), (4, .ptr 1 1 0 0), (5, .ptr 2 1 0 0), (9, .list x 2 (mC trC l)), (10, .int .i64 l.length), (11, .int .i64 k)] ρ, l.length, [], ?_, ?_⟩
 ·exact ⟨0, Nat.zero_add _, rfl, Sv.intro rfl ⟨rfl, rfl, rfl, rfl, intEq (by rw [mC_length]), rfl, trivial⟩⟩
 rintro m ρ H1 ⟨k, hk, rfl, d, rfl⟩
 (conv => whnf); refine recA (fun hlt => ?_) (fun hlt => ?_)
 ·simp at hlt
  obtain ⟨t, htk, hd, hm⟩ := get_drop (l := l) (k := k) (by omega)
  have htk1 : l.take (k + 1) = l.take k ++ [t] := take_succ' htk
  obtain ⟨ht1, ht2, ht3⟩ := hh t hm
  cases hT : l.take k with
  | nil =>
   (conv => whnf); refine And.intro (by omega) ?_
   (conv => whnf); refine recO (mC_at htk) ?_
   (conv => whnf); refine And.intro (⟨by simp [roomB]; omega, by simp [roomB]; omega⟩) ?_
   conv => whnf
   have e2 : (if IntKind.i64.wrap (1 + t.h) > 1 then IntKind.i64.wrap (1 + t.h) else 1) = hgt [t.h] := by
    rw [wrapI _ (by omega) (by omega)]
    show _ = max 1 (1 + t.h)
    split <;> omega
   have e1 : pH n (l.take (k + 1)) = [.arr 6 [nodC n], .arr 2 [[.nil, .int .i64 0]], .arr 2 [[.sl 3 (mC nodC t.nodes).length 0 (mC nodC t.nodes).length, .int .i64 (hgt [t.h])]], .arr 6 (mC nodC t.nodes)] := by
    rw [htk1, hT]
    show pH n [t] = _
    have : trN [t] = t.nodes := by simp [trN]
    rw [pH, this, mC_length]; rfl
   refine ⟨m - 1, by omega, Gp.some (n := 36) (live := [(2, .ptr 0 1 0 0), (4, .ptr 1 1 0 0), (5, .ptr 2 1 0 0), (9, .list x 2 (mC trC l)), (10, .int .i64 l.length), (11, .int .i64 (k + 1 : Nat))]) (H1 := pH n (l.take (k + 1))) [0, 1, 2, 4] (by decide) ?_ rfl ⟨.keepP 0 1 0 0 0 rfl, .keepP 1 1 0 0 1 rfl, .keepP 2 1 0 0 2 rfl, .closed _ rfl, .closed _ rfl, pubI (nx1 (by omega)), trivial⟩ fun ρ1 h => ⟨k + 1, by omega, rfl, h⟩⟩
   rw [e1]
   exact ⟨⟨_, rfl, .same _ _ rfl⟩, ⟨_, rfl, .same _ _ rfl⟩, ⟨_, rfl, obp2 ⟨.keep 4 _ 0 _ 3 rfl, rfl⟩ ⟨pubI e2, rfl⟩⟩, ⟨_, rfl, .same _ _ (mC_pure nod_pure _)⟩, trivial⟩
  | cons t0 T =>
   have hb : Nat.beq (trN (t0 :: T)).length (mC nodC (trN (t0 :: T))).length = true := by rw [mC_length]; exact Nat.beq_refl _
   have hle : (trN (t0 :: T)).length ≤ 1000 := by rw [← hT]; exact Nat.le_trans (trN_take l k) hl
   (conv => whnf); refine And.intro (by omega) ?_
   (conv => whnf); refine recO (mC_at htk) ?_
   (conv => whnf); refine recT hb ?_
   (conv => whnf); refine And.intro (⟨by simp [roomB]; omega, by simp [roomB]; omega, rfl, by rw [mC_length]⟩) ?_
   conv => whnf
   have hg1 := hgt_pos ((t0 :: T).map Trm.h)
   have e2 : (if IntKind.i64.wrap (1 + t.h) > hgt ((t0 :: T).map Trm.h) then IntKind.i64.wrap (1 + t.h) else hgt ((t0 :: T).map Trm.h)) = hgt ((t0 :: (T ++ [t])).map Trm.h) := by
    rw [wrapI _ (by omega) (by omega), show (t0 :: (T ++ [t])).map Trm.h = (t0 :: T).map Trm.h ++ [t.h] by simp, hgt_snoc]
    generalize hgt ((t0 :: T).map Trm.h) = z
    split <;> omega
   have e3 : mC nodC (trN (t0 :: T)) ++ mC nodC t.nodes = mC nodC (trN (t0 :: (T ++ [t]))) := by
    rw [← mC_append]
    congr 1
    simp [trN]
   have e4 : (mC nodC (trN (t0 :: T)) ++ mC nodC t.nodes).length = (trN (t0 :: (T ++ [t]))).length := by rw [e3, mC_length]
   have e1 : l.take (k + 1) = t0 :: (T ++ [t]) := by rw [htk1, hT]; rfl
   refine ⟨m - 1, by omega, Gp.cut (H := pH n (t0 :: (T ++ [t]))) (G := [.arr 2 [trC t]]) ?_ (pH_low _ _) rfl rfl ?_ fun ρ1 h => ⟨k + 1, by omega, by rw [e1], h⟩⟩
   ·show _ = [.arr 6 [nodC n], .arr 2 [[.nil, .int .i64 0]], .arr 2 [[.sl 3 (trN (t0 :: (T ++ [t]))).length 0 (trN (t0 :: (T ++ [t]))).length, .int .i64 (hgt ((t0 :: (T ++ [t])).map Trm.h))]], .arr 6 (mC nodC (trN (t0 :: (T ++ [t]))))] ++ [AObj.arr 2 [trC t]]
    rw [← e4, ← e3, ← e2]
    rfl
   ·exact ⟨rfl, rfl, rfl, rfl, rfl, intEq (nx1 (by omega)), trivial⟩
 ·simp at hlt
  obtain rfl : k = l.length := by omega
  rw [List.take_length]
  have hP : (putT n l).nodes = trN l ++ [n] := rfl
  have hN1 : [[AVal.int .i64 n.op, .int .i64 n.v.kind, .int .i64 n.v.num, .str n.v.str, .str n.name, .int .i64 n.ar]] = mC nodC [n] := rfl
  cases hT : l with
  | nil =>
   (conv => whnf); refine And.intro (⟨(by decide : (1 : Nat) * 64 ≤ roomB), (by decide : (1 : Nat) ≤ roomB)⟩) ?_
   conv => whnf
   exact ⟨rfl, rfl⟩
  | cons t0 T =>
   rw [hT] at hl
   have hb : Nat.beq (trN (t0 :: T)).length (mC nodC (trN (t0 :: T))).length = true := by rw [mC_length]; exact Nat.beq_refl _
   (conv => whnf); refine recT hb ?_
   (conv => whnf); refine And.intro (⟨by simp [roomB]; omega, by simp [roomB]; omega, rfl, by rw [mC_length]⟩) ?_
   conv => whnf
   have e3 : mC nodC (trN (t0 :: T)) ++ [[AVal.int .i64 n.op, .int .i64 n.v.kind, .int .i64 n.v.num, .str n.v.str, .str n.name, .int .i64 n.ar]] = mC nodC (putT n (t0 :: T)).nodes := by
    rw [hN1, ← mC_append]; rfl
   have e4 : (mC nodC (trN (t0 :: T)) ++ [[AVal.int .i64 n.op, .int .i64 n.v.kind, .int .i64 n.v.num, .str n.v.str, .str n.name, .int .i64 n.ar]]).length = (putT n (t0 :: T)).nodes.length := by rw [e3, mC_length]
   rw [← e4, ← e3]
   exact ⟨rfl, rfl⟩
theorem put_own (n : Nod) (x : Bool) (l : List Trm) (hl : (trN l).length ≤ 1000) (h3 : l.length ≤ 1000) (hh : ∀ t ∈ l, 1 ≤ t.h ∧ t.h ≤ 1000 ∧ t.nodes.length ≤ 256) :
  ACalls pr 47 [.agg (nodC n), .list x 2 (mC trC l)] [] (fun r H' => r = .agg [.sl 0 (putT n l).nodes.length 0 (putT n l).nodes.length, .int .i64 (putT n l).h] ∧ H' = [.arr 6 (mC nodC (putT n l).nodes)]) :=
 ACalls.gpI (put_raw n x l hl h3 hh) [3] (by decide) (fun k m h => by simp at h) ⟨⟨_, rfl, .same _ _ (mC_pure nod_pure _)⟩, trivial⟩ (pubG2 (.keep 3 _ 0 _ 0 rfl) (.closed _ rfl))
theorem flat_nod (l : List Nod) : ∀ e ∈ mC nodC l, ∀ d ∈ e, flatC d = true := by
 intro e he d hd
 obtain ⟨n, _, rfl⟩ := List.mem_map.1 he
 simp only [nodC, List.mem_cons, List.not_mem_nil, or_false] at hd
 rcases hd with rfl | rfl | rfl | rfl | rfl | rfl <;> rfl
theorem nol2 {id a b c : Nat} {v : AVal} (h : Nol v) : Nol (.agg [.sl id a b c, v]) := .agg _ fun x hx => by
 simp only [List.mem_cons, List.not_mem_nil, or_false] at hx
 rcases hx with rfl | rfl
 ·exact .sl _ _ _ _
 ·exact h
theorem put_l (n : Nod) (x : Bool) (l : List Trm) (hl : (trN l).length ≤ 1000) (h3 : l.length ≤ 1000) (hh : ∀ t ∈ l, 1 ≤ t.h ∧ t.h ≤ 1000 ∧ t.nodes.length ≤ 256) {H : List AObj} {a : AVal} (hx : Lent H a (.list x 2 (mC trC l))) :
  ACalls pr 47 [.agg (nodC n), a] H (fun r H' => r = .agg (trC (putT n l)) ∧ H' = H) :=
 ACalls.lendF (flat_nod _) (pubG2 (pubFI (by simp) rfl (by rw [mC_length]) (by rw [mC_length]) (mC_pure nod_pure _)) (.closed _ rfl)) (nol2 (.int _ _)) (put_own n x l hl h3 hh) (Lents.cons (.same _ rfl) (Lents.cons hx Lents.nil))
end Go.AW

namespace Go.AW
variable [Draws]
attribute [local irreducible] ACalls CallE CallS Gp lpI
set_option maxRecDepth 100000
set_option maxHeartbeats 8000000
def hgL (h0 : Int) (l : List Int) : Int := l.foldl (fun h x => max h (1 + x)) h0
theorem hgL_snoc (h0 : Int) (l : List Int) (x : Int) : hgL h0 (l ++ [x]) = max (hgL h0 l) (1 + x) := by unfold hgL; rw [List.foldl_append]; rfl
theorem hgL_bd {h0 M : Int} {l : List Int} (h : 1 ≤ h0 ∧ h0 ≤ M + 1) (hl : ∀ x ∈ l, 1 ≤ x ∧ x ≤ M) : 1 ≤ hgL h0 l ∧ hgL h0 l ≤ M + 1 := by
 induction l generalizing h0 with
 | nil => exact h
 | cons y l ih =>
  have hy := hl y (List.mem_cons_self ..)
  exact ih (h0 := max h0 (1 + y)) (by omega) fun x hx => hl x (List.mem_cons_of_mem _ hx)
theorem sbE_le {A B : List Nod} (N : Nat) (hA : A.length ≤ 256) (hB : B.length ≤ 256) (e : List Nod) (he : e.length ≤ N) : (sbE A B e).length ≤ 256 * N := by
 have : ∀ e : List Nod, (sbE A B e).length ≤ 256 * e.length := by
  intro e
  induction e with
  | nil => exact Nat.le_refl _
  | cons n e ih =>
   rw [sbE_cons, List.length_append, List.length_cons]
   have : (sbN A B n).length ≤ 256 := by unfold sbN; (repeat' split) <;> first | assumption | simp
   omega
 have := this e
 omega
def nH (Hh : Int) : List Nod → List AObj
 | [] => [.arr 2 [[.nil, .int .i64 Hh]]]
 | m :: L => [.arr 2 [[.sl 4 (m :: L).length 0 (m :: L).length, .int .i64 Hh]], .arr 6 (mC nodC (m :: L))]
theorem sbE_ne {A B : List Nod} (hA : A ≠ []) (hB : B ≠ []) {e : List Nod} (he : e ≠ []) : sbE A B e ≠ [] := by
 cases e with
 | nil => exact absurd rfl he
 | cons n e =>
  rw [sbE_cons]
  intro h
  have h1 := (List.append_eq_nil_iff.1 h).1
  unfold sbN at h1
  (repeat' split at h1) <;> first | exact hA h1 | exact hB h1 | cases h1
theorem nH_ne {Hh : Int} {L : List Nod} (h : L ≠ []) : nH Hh L = [.arr 2 [[.sl 4 L.length 0 L.length, .int .i64 Hh]], .arr 6 (mC nodC L)] := by
 cases L with
 | nil => exact absurd rfl h
 | cons m L => rfl
theorem keepL {H1 : List AObj} {ids : List Nat} {id a b k : Nat} (e : a = b) (hk : ids[k]? = some id := by rfl) : Pub H1 0 ids (.sl id a 0 a) (.sl (0 + k) b 0 b) := by subst e; exact .keep id a 0 a k hk
theorem nH_low (tb : Trm) (st : List Int) (Hh : Int) (L : List Nod) : LowH ([AObj.arr 2 [trC tb], .arr 2 [[.nil, .int .i64 0]], .arr 1 (iC st)] ++ nH Hh L).length ([AObj.arr 2 [trC tb], .arr 2 [[.nil, .int .i64 0]], .arr 1 (iC st)] ++ nH Hh L) := by
 cases L with
 | nil => exact ⟨rfl, rfl, lowP (pureEs_iC _), rfl, trivial⟩
 | cons m L => exact ⟨rfl, rfl, lowP (pureEs_iC _), rfl, lowP (mC_pure nod_pure _), trivial⟩
def flQ (tb A B : Trm) (Hh : Int) (r : AVal) (H' : List AObj) : Prop :=
 ((sbE A.nodes B.nodes tb.nodes).length ≤ 256 ∧ Hh ≤ 64 → r = .tuple [.agg [.sl 4 (sbE A.nodes B.nodes tb.nodes).length 0 (sbE A.nodes B.nodes tb.nodes).length, .int .i64 Hh], .bool true] ∧ ∃ st : List Int, H' = [.arr 2 [trC tb], .arr 2 [[.sl 4 (sbE A.nodes B.nodes tb.nodes).length 0 (sbE A.nodes B.nodes tb.nodes).length, .int .i64 Hh]], .arr 1 (iC st), .arr 2 [[.sl 4 (sbE A.nodes B.nodes tb.nodes).length 0 (sbE A.nodes B.nodes tb.nodes).length, .int .i64 Hh]], .arr 6 (mC nodC (sbE A.nodes B.nodes tb.nodes))]) ∧
 (¬ ((sbE A.nodes B.nodes tb.nodes).length ≤ 256 ∧ Hh ≤ 64) → r = .tuple [.agg [.nil, .int .i64 0], .bool false])
theorem fill_raw (tb A B : Trm) (z : Bool) {Hh : Int} (hbl : tb.nodes.length ≤ 256) (hAl : A.nodes.length ≤ 256) (hBl : B.nodes.length ≤ 256) (hA0 : A.nodes ≠ []) (hB0 : B.nodes ≠ []) (hAh : 1 ≤ A.h ∧ A.h ≤ 64) (hBh : 1 ≤ B.h ∧ B.h ≤ 64)
  (hgF : stk (gF A.h B.h) tb.nodes [] = some [Hh]) (har : ∀ n ∈ tb.nodes, 0 ≤ arN n ∧ arN n ≤ 3) (hcol : ∀ n ∈ tb.nodes, n.op = 1 → idxOf (eqS n.name) parN 0 = 0 ∨ idxOf (eqS n.name) parN 0 = 1) :
  ACalls pr 46 [.agg (trC tb), .list true 1 (sC parN), .list z 2 (mC trC [A, B])] [] (flQ tb A B Hh) := by
 refine acalls_of_body k46.has ?_
 conv => whnf
 refine ⟨fun m ρ H1 => ∃ (k : Nat) (st : List Int) (D : Nat), k + m = tb.nodes.length ∧ stk (gF A.h B.h) (tb.nodes.drop k) (st.take D) = some [Hh] ∧ D ≤ st.length ∧ st.length ≤ k ∧ (∀ y ∈ st, 1 ≤ y ∧ y ≤ 64 + (k : Int)) ∧ H1 = [.arr 2 [trC tb], .arr 2 [[.nil, .int .i64 0]], .arr 1 (iC st)] ∧ Sv 125 [(1, .list true 1 (sC parN)), (2, .list z 2 (mC trC [A, B])), (3, .ptr 0 1 0 0), (6, .ptr 1 1 0 0), (8, .int .i64 (sbE A.nodes B.nodes (tb.nodes.take k)).length), (9, .sl 2 st.length 0 D), (22, .list false 6 (mC nodC tb.nodes)), (23, .int .i64 tb.nodes.length), (24, .int .i64 k)] ρ, tb.nodes.length, [(9, 1)], ?_, ?_⟩
 ·exact ⟨0, [], 0, by omega, hgF, Nat.le_refl _, Nat.le_refl _, fun y h => by simp at h, rfl, Sv.intro rfl ⟨rfl, rfl, rfl, rfl, rfl, rfl, rfl, intEq (by rw [mC_length]), rfl, trivial⟩⟩
 rintro m ρ H1 ⟨k, st, D, hk, hD, hDl, hst, hpos, rfl, d, rfl⟩
 have hn := iC_length st
 have hb : Nat.beq st.length (iC st).length = true := by rw [hn]; exact Nat.beq_refl _
 (conv => whnf); refine recA (fun hlt => ?_) (fun hlt => ?_)
 ·simp at hlt
  obtain ⟨n, hnk, hdk, hm⟩ := get_drop (l := tb.nodes) (k := k) (by omega)
  rw [hdk] at hD
  obtain ⟨y0, ha, hy, hD2⟩ := stk_inv hD
  have hlD : (st.take D).length = D := by simp; omega
  rw [hlD] at ha hy hD2
  have a0 := har n hm
  obtain ⟨a, hna⟩ : ∃ a : Nat, arN n = a := ⟨(arN n).toNat, by omega⟩
  rw [hna] at ha hy hD2
  simp only [Int.toNat_natCast] at ha hy hD2
  have hw0 : IntKind.i64.wrap ((D : Int) - a) = ((D - a : Nat) : Int) := by rw [wrapI _ (by omega) (by omega)]; omega
  obtain ⟨r, hrr⟩ : ∃ r, r = D - a := ⟨_, rfl⟩
  have hw : IntKind.i64.wrap ((D : Int) - a) = ((r : Nat) : Int) := by rw [hw0, hrr]
  obtain ⟨L, hLL⟩ : ∃ L, L = (st.take D).drop r := ⟨_, rfl⟩
  have hLl : L.length = a := by rw [hLL]; simp; omega
  have hLb : ∀ x ∈ L, 1 ≤ x ∧ x ≤ 64 + (k : Int) := fun x hx => hpos x (by rw [hLL] at hx; exact List.mem_of_mem_take (List.mem_of_mem_drop hx))
  rw [← hrr, ← hLL] at hy
  rw [← hrr] at hD2
  have hszt : sbE A.nodes B.nodes (tb.nodes.take (k + 1)) = sbE A.nodes B.nodes (tb.nodes.take k) ++ sbN A.nodes B.nodes n := by rw [take_succ' hnk]; unfold sbE; rw [List.map_append, List.flatten_append]; simp
  have hszb : (sbE A.nodes B.nodes (tb.nodes.take k)).length ≤ 256 * k := sbE_le _ hAl hBl _ (by simp; omega)
  (conv => whnf); refine And.intro (by omega) ?_
  (conv => whnf); refine recO (mC_at hnk) ?_
  by_cases ho : n.op = 1
  ·have haz0 : arN n = 0 := by unfold arN; rw [if_neg (by omega), if_pos (.inr ho)]
   have haz : a = 0 := by omega
   have hL0 : L = [] := List.length_eq_zero_iff.1 (by omega)
   (conv => whnf); refine recT (by rw [ho]; rfl) ?_
   (conv => whnf); refine ACalls.use (IndexS_spec true parN (by decide) n.name _) ?_
   rcases hcol n hm ho with hi | hi
   ·rw [hi]
    have hy1 : y0 = hgL A.h L := by
     rw [hL0]
     unfold gF at hy
     rw [if_pos ⟨ho, hi⟩] at hy
     exact (Option.some.inj hy).symm
    rw [hy1] at hD2
    have hsz2 : IntKind.i64.wrap (((sbE A.nodes B.nodes (tb.nodes.take k)).length : Int) + (A.nodes.length : Nat)) = ((sbE A.nodes B.nodes (tb.nodes.take (k + 1))).length : Nat) := by
     rw [wrapI _ (by omega) (by omega), hszt, sbN, if_pos ⟨ho, hi⟩, List.length_append]; rfl
    repeat ((conv => whnf); refine And.intro (by decide) ?_)
    (conv => whnf); refine recT (hb) ?_
    (conv => whnf); refine ACalls.use ((arity_t n).a _) ?_
    rw [hna]
    conv => whnf
    rw [hw]
    (conv => whnf); refine recT (hb) ?_
    (conv => whnf); refine And.intro (by omega) ?_
    (conv => whnf); refine recT (hb) ?_
    conv => whnf
    refine ⟨fun m2 ρ H1 => ∃ j : Nat, j + m2 = a ∧ H1 = [.arr 2 [trC tb], .arr 2 [[.nil, .int .i64 0]], .arr 1 (iC st), .arr 6 [nodC n]] ∧ Sv 125 [(1, .list true 1 (sC parN)), (2, .list z 2 (mC trC [A, B])), (3, .ptr 0 1 0 0), (6, .ptr 1 1 0 0), (8, .int .i64 (sbE A.nodes B.nodes (tb.nodes.take (k + 1))).length), (9, .sl 2 st.length 0 D), (12, .int .i64 (hgL A.h (L.take j))), (14, .int .i64 r), (22, .list false 6 (mC nodC tb.nodes)), (23, .int .i64 tb.nodes.length), (24, .int .i64 k), (59, .sl 2 st.length r a), (60, .int .i64 a), (61, .int .i64 j)] ρ, a, [], ?_, ?_⟩
    ·exact ⟨0, by omega, rfl, Sv.intro rfl ⟨rfl, rfl, rfl, rfl, intEq (by rw [mC_length]; exact hsz2), rfl, rfl, rfl, rfl, rfl, rfl, by rw [show 0 + ((r : Int)).toNat = r by omega, show D - ((r : Int)).toNat = a by omega]; rfl, intEq (by omega), rfl, trivial⟩⟩
    rintro m2 ρ H1 ⟨j, hj, rfl, d2, rfl⟩
    (conv => whnf); refine recA (fun hlt2 => ?_) (fun hlt2 => ?_)
    ·simp at hlt2
     (conv => whnf); refine recT (hb) ?_
     (conv => whnf); refine And.intro (by omega) ?_
     (conv => whnf); refine recT (hb) ?_
     obtain ⟨y, hy⟩ : ∃ y, L[j]? = some y := ⟨_, List.getElem?_eq_getElem (by omega)⟩
     have hym : y ∈ L := List.mem_of_getElem? hy
     have hy2 := hLb y hym
     have hg : (iC st)[r + ((j : Nat) : Int).toNat]? = some [.int .i64 y] := by
      rw [hLL, List.getElem?_drop, List.getElem?_take] at hy
      split at hy
      ·rw [iC, List.getElem?_map, show ((j : Int)).toNat = j from rfl, hy]; rfl
      ·cases hy
     (conv => whnf); refine recO (hg) ?_
     conv => whnf
     refine ⟨m2 - 1, by omega, Gp.keep rfl ?_ fun ρ1 hh => ⟨j + 1, by omega, rfl, hh⟩⟩
     refine ⟨rfl, rfl, rfl, rfl, rfl, rfl, intEq ?_, rfl, rfl, rfl, rfl, rfl, rfl, intEq (nx1 (by omega)), trivial⟩
     rw [take_succ' hy, hgL_snoc, wrapI _ (by omega) (by omega)]
     generalize hgL A.h (L.take j) = q
     split <;> omega
    simp at hlt2
    obtain rfl : j = a := by omega
    rw [show L.take j = L from List.take_of_length_le (by omega)]
    obtain ⟨h, hhh⟩ : ∃ h, h = hgL A.h L := ⟨_, rfl⟩
    have hh1 := hgL_bd (h0 := A.h) (M := 64 + k) (l := L) (by omega) hLb
    rw [← hhh] at hD2 hh1
    rw [← hhh]
    (conv => whnf); refine recT (hb) ?_
    (conv => whnf); refine And.intro (by omega) ?_
    (conv => whnf); refine recT (hb) ?_
    obtain ⟨q1, q2, q3⟩ := stP_take (show r ≤ D by omega) hDl h
    have hpos2 : ∀ y ∈ stP st r h, 1 ≤ y ∧ y ≤ 64 + (k + 1 : Nat) := fun y hy => by
     unfold stP at hy
     split at hy
     ·simp only [List.mem_append, List.mem_singleton] at hy
      rcases hy with (hy | rfl) | hy
      ·have := hpos y (List.mem_of_mem_take hy); omega
      ·omega
      ·have := hpos y (List.mem_of_mem_drop hy); omega
     ·simp only [List.mem_append, List.mem_singleton] at hy
      rcases hy with hy | rfl
      ·have := hpos y hy; omega
      ·omega
    (conv => whnf); refine recA (fun hfit => ?_) (fun hfit => ?_)
    ·replace hfit : (Nat.ble (0 + 0 + (((r : Nat) : Int).toNat - 0) + 1) (iC st).length && true) = true := hfit
     rw [hn, Bool.and_true, Nat.ble_eq] at hfit
     have hfit2 : r + 1 ≤ st.length := by omega
     have hcc : (iC st).take (0 + 0 + (((r : Nat) : Int).toNat - 0)) ++ [[AVal.int .i64 h]] ++ (iC st).drop (0 + 0 + (((r : Nat) : Int).toNat - 0) + 1) = iC (stP st r h) := by
      rw [show 0 + 0 + (((r : Nat) : Int).toNat - 0) = r by omega, stP, if_pos hfit2]; simp [iC, List.map_take, List.map_drop]
     have hll : (stP st r h).length = st.length := by rw [stP, if_pos hfit2]; simp; omega
     conv => whnf
     refine ⟨m - 1, by omega, Gp.cut (H := [.arr 2 [trC tb], .arr 2 [[.nil, .int .i64 0]], .arr 1 (iC (stP st r h))]) (by rw [← hcc]; rfl) ⟨rfl, rfl, lowP (pureEs_iC _), trivial⟩ rfl rfl ?_ fun ρ1 hh => ⟨k + 1, stP st r h, r + 1, by omega, by rw [q1]; exact hD2, by omega, by omega, hpos2, rfl, hh⟩⟩
     exact ⟨rfl, rfl, rfl, rfl, rfl, by rw [hll, show r + 1 = ((r : Nat) : Int).toNat - 0 + 1 by omega]; rfl, rfl, rfl, intEq (nx1 (by omega)), trivial⟩
    ·replace hfit : (Nat.ble (0 + 0 + (((r : Nat) : Int).toNat - 0) + 1) (iC st).length && true) = false := hfit
     have hf2 : st.length < r + 1 := by
      rw [Bool.and_true, hn] at hfit
      exact Nat.lt_of_not_le fun hc => by rw [Nat.ble_eq_true_of_le (show 0 + 0 + (((r : Nat) : Int).toNat - 0) + 1 ≤ st.length by omega)] at hfit; cases hfit
     (conv => whnf); refine recT (hb) ?_
     (conv => whnf); refine And.intro (⟨by simp [roomB]; omega, by simp [roomB]; omega, rfl, by rw [hn]; omega⟩) ?_
     conv => whnf
     have hss : stP st r h = st ++ [h] := by rw [stP, if_neg (by omega)]
     have hcc : iC st ++ [[AVal.int .i64 h]] = iC (stP st r h) := by rw [hss]; simp [iC]
     have hll : (stP st r h).length = r + 1 := by rw [hss]; simp; omega
     have hcl : (iC st ++ [[AVal.int .i64 h]]).length = r + 1 := by rw [hcc, iC_length, hll]
     refine ⟨m - 1, by omega, Gp.cut (H := [.arr 2 [trC tb], .arr 2 [[.nil, .int .i64 0]], .arr 1 (iC (stP st r h))]) (by rw [← hcc]; rfl) ⟨rfl, rfl, lowP (pureEs_iC _), trivial⟩ rfl rfl ?_ fun ρ1 hh => ⟨k + 1, stP st r h, r + 1, by omega, by rw [q1]; exact hD2, by omega, by omega, hpos2, rfl, hh⟩⟩
     exact ⟨rfl, rfl, rfl, rfl, rfl, slEq (by rw [hll]; exact hcl) hcl, rfl, rfl, intEq (nx1 (by omega)), trivial⟩
   ·rw [hi]
    have hy1 : y0 = hgL B.h L := by
     rw [hL0]
     unfold gF at hy
     rw [if_neg (by omega), if_pos ⟨ho, hi⟩] at hy
     exact (Option.some.inj hy).symm
    rw [hy1] at hD2
    have hsz2 : IntKind.i64.wrap (((sbE A.nodes B.nodes (tb.nodes.take k)).length : Int) + (B.nodes.length : Nat)) = ((sbE A.nodes B.nodes (tb.nodes.take (k + 1))).length : Nat) := by
     rw [wrapI _ (by omega) (by omega), hszt, sbN, if_neg (by omega), if_pos ⟨ho, hi⟩, List.length_append]; rfl
    repeat ((conv => whnf); refine And.intro (by decide) ?_)
    (conv => whnf); refine recT (hb) ?_
    (conv => whnf); refine ACalls.use ((arity_t n).a _) ?_
    rw [hna]
    conv => whnf
    rw [hw]
    (conv => whnf); refine recT (hb) ?_
    (conv => whnf); refine And.intro (by omega) ?_
    (conv => whnf); refine recT (hb) ?_
    conv => whnf
    refine ⟨fun m2 ρ H1 => ∃ j : Nat, j + m2 = a ∧ H1 = [.arr 2 [trC tb], .arr 2 [[.nil, .int .i64 0]], .arr 1 (iC st), .arr 6 [nodC n]] ∧ Sv 125 [(1, .list true 1 (sC parN)), (2, .list z 2 (mC trC [A, B])), (3, .ptr 0 1 0 0), (6, .ptr 1 1 0 0), (8, .int .i64 (sbE A.nodes B.nodes (tb.nodes.take (k + 1))).length), (9, .sl 2 st.length 0 D), (12, .int .i64 (hgL B.h (L.take j))), (14, .int .i64 r), (22, .list false 6 (mC nodC tb.nodes)), (23, .int .i64 tb.nodes.length), (24, .int .i64 k), (59, .sl 2 st.length r a), (60, .int .i64 a), (61, .int .i64 j)] ρ, a, [], ?_, ?_⟩
    ·exact ⟨0, by omega, rfl, Sv.intro rfl ⟨rfl, rfl, rfl, rfl, intEq (by rw [mC_length]; exact hsz2), rfl, rfl, rfl, rfl, rfl, rfl, by rw [show 0 + ((r : Int)).toNat = r by omega, show D - ((r : Int)).toNat = a by omega]; rfl, intEq (by omega), rfl, trivial⟩⟩
    rintro m2 ρ H1 ⟨j, hj, rfl, d2, rfl⟩
    (conv => whnf); refine recA (fun hlt2 => ?_) (fun hlt2 => ?_)
    ·simp at hlt2
     (conv => whnf); refine recT (hb) ?_
     (conv => whnf); refine And.intro (by omega) ?_
     (conv => whnf); refine recT (hb) ?_
     obtain ⟨y, hy⟩ : ∃ y, L[j]? = some y := ⟨_, List.getElem?_eq_getElem (by omega)⟩
     have hym : y ∈ L := List.mem_of_getElem? hy
     have hy2 := hLb y hym
     have hg : (iC st)[r + ((j : Nat) : Int).toNat]? = some [.int .i64 y] := by
      rw [hLL, List.getElem?_drop, List.getElem?_take] at hy
      split at hy
      ·rw [iC, List.getElem?_map, show ((j : Int)).toNat = j from rfl, hy]; rfl
      ·cases hy
     (conv => whnf); refine recO (hg) ?_
     conv => whnf
     refine ⟨m2 - 1, by omega, Gp.keep rfl ?_ fun ρ1 hh => ⟨j + 1, by omega, rfl, hh⟩⟩
     refine ⟨rfl, rfl, rfl, rfl, rfl, rfl, intEq ?_, rfl, rfl, rfl, rfl, rfl, rfl, intEq (nx1 (by omega)), trivial⟩
     rw [take_succ' hy, hgL_snoc, wrapI _ (by omega) (by omega)]
     generalize hgL B.h (L.take j) = q
     split <;> omega
    simp at hlt2
    obtain rfl : j = a := by omega
    rw [show L.take j = L from List.take_of_length_le (by omega)]
    obtain ⟨h, hhh⟩ : ∃ h, h = hgL B.h L := ⟨_, rfl⟩
    have hh1 := hgL_bd (h0 := B.h) (M := 64 + k) (l := L) (by omega) hLb
    rw [← hhh] at hD2 hh1
    rw [← hhh]
    (conv => whnf); refine recT (hb) ?_
    (conv => whnf); refine And.intro (by omega) ?_
    (conv => whnf); refine recT (hb) ?_
    obtain ⟨q1, q2, q3⟩ := stP_take (show r ≤ D by omega) hDl h
    have hpos2 : ∀ y ∈ stP st r h, 1 ≤ y ∧ y ≤ 64 + (k + 1 : Nat) := fun y hy => by
     unfold stP at hy
     split at hy
     ·simp only [List.mem_append, List.mem_singleton] at hy
      rcases hy with (hy | rfl) | hy
      ·have := hpos y (List.mem_of_mem_take hy); omega
      ·omega
      ·have := hpos y (List.mem_of_mem_drop hy); omega
     ·simp only [List.mem_append, List.mem_singleton] at hy
      rcases hy with hy | rfl
      ·have := hpos y hy; omega
      ·omega
    (conv => whnf); refine recA (fun hfit => ?_) (fun hfit => ?_)
    ·replace hfit : (Nat.ble (0 + 0 + (((r : Nat) : Int).toNat - 0) + 1) (iC st).length && true) = true := hfit
     rw [hn, Bool.and_true, Nat.ble_eq] at hfit
     have hfit2 : r + 1 ≤ st.length := by omega
     have hcc : (iC st).take (0 + 0 + (((r : Nat) : Int).toNat - 0)) ++ [[AVal.int .i64 h]] ++ (iC st).drop (0 + 0 + (((r : Nat) : Int).toNat - 0) + 1) = iC (stP st r h) := by
      rw [show 0 + 0 + (((r : Nat) : Int).toNat - 0) = r by omega, stP, if_pos hfit2]; simp [iC, List.map_take, List.map_drop]
     have hll : (stP st r h).length = st.length := by rw [stP, if_pos hfit2]; simp; omega
     conv => whnf
     refine ⟨m - 1, by omega, Gp.cut (H := [.arr 2 [trC tb], .arr 2 [[.nil, .int .i64 0]], .arr 1 (iC (stP st r h))]) (by rw [← hcc]; rfl) ⟨rfl, rfl, lowP (pureEs_iC _), trivial⟩ rfl rfl ?_ fun ρ1 hh => ⟨k + 1, stP st r h, r + 1, by omega, by rw [q1]; exact hD2, by omega, by omega, hpos2, rfl, hh⟩⟩
     exact ⟨rfl, rfl, rfl, rfl, rfl, by rw [hll, show r + 1 = ((r : Nat) : Int).toNat - 0 + 1 by omega]; rfl, rfl, rfl, intEq (nx1 (by omega)), trivial⟩
    ·replace hfit : (Nat.ble (0 + 0 + (((r : Nat) : Int).toNat - 0) + 1) (iC st).length && true) = false := hfit
     have hf2 : st.length < r + 1 := by
      rw [Bool.and_true, hn] at hfit
      exact Nat.lt_of_not_le fun hc => by rw [Nat.ble_eq_true_of_le (show 0 + 0 + (((r : Nat) : Int).toNat - 0) + 1 ≤ st.length by omega)] at hfit; cases hfit
     (conv => whnf); refine recT (hb) ?_
     (conv => whnf); refine And.intro (⟨by simp [roomB]; omega, by simp [roomB]; omega, rfl, by rw [hn]; omega⟩) ?_
     conv => whnf
     have hss : stP st r h = st ++ [h] := by rw [stP, if_neg (by omega)]
     have hcc : iC st ++ [[AVal.int .i64 h]] = iC (stP st r h) := by rw [hss]; simp [iC]
     have hll : (stP st r h).length = r + 1 := by rw [hss]; simp; omega
     have hcl : (iC st ++ [[AVal.int .i64 h]]).length = r + 1 := by rw [hcc, iC_length, hll]
     refine ⟨m - 1, by omega, Gp.cut (H := [.arr 2 [trC tb], .arr 2 [[.nil, .int .i64 0]], .arr 1 (iC (stP st r h))]) (by rw [← hcc]; rfl) ⟨rfl, rfl, lowP (pureEs_iC _), trivial⟩ rfl rfl ?_ fun ρ1 hh => ⟨k + 1, stP st r h, r + 1, by omega, by rw [q1]; exact hD2, by omega, by omega, hpos2, rfl, hh⟩⟩
     exact ⟨rfl, rfl, rfl, rfl, rfl, slEq (by rw [hll]; exact hcl) hcl, rfl, rfl, intEq (nx1 (by omega)), trivial⟩
  ·(conv => whnf); refine recF (by simpa using ho) ?_
   have hy1 : y0 = hgL 1 L := by
    unfold gF at hy
    rw [if_neg (fun h => ho h.1), if_neg (fun h => ho h.1)] at hy
    exact (Option.some.inj hy).symm
   rw [hy1] at hD2
   have hsz2 : IntKind.i64.wrap (((sbE A.nodes B.nodes (tb.nodes.take k)).length : Int) + 1) = ((sbE A.nodes B.nodes (tb.nodes.take (k + 1))).length : Nat) := by
    rw [wrapI _ (by omega) (by omega), hszt, sbN, if_neg (fun h => ho h.1), if_neg (fun h => ho h.1), List.length_append]; rfl
   (conv => whnf); refine recT (hb) ?_
   (conv => whnf); refine ACalls.use ((arity_t n).a _) ?_
   rw [hna]
   conv => whnf
   rw [hw]
   (conv => whnf); refine recT (hb) ?_
   (conv => whnf); refine And.intro (by omega) ?_
   (conv => whnf); refine recT (hb) ?_
   conv => whnf
   refine ⟨fun m2 ρ H1 => ∃ j : Nat, j + m2 = a ∧ H1 = [.arr 2 [trC tb], .arr 2 [[.nil, .int .i64 0]], .arr 1 (iC st), .arr 6 [nodC n]] ∧ Sv 125 [(1, .list true 1 (sC parN)), (2, .list z 2 (mC trC [A, B])), (3, .ptr 0 1 0 0), (6, .ptr 1 1 0 0), (8, .int .i64 (sbE A.nodes B.nodes (tb.nodes.take (k + 1))).length), (9, .sl 2 st.length 0 D), (12, .int .i64 (hgL 1 (L.take j))), (14, .int .i64 r), (22, .list false 6 (mC nodC tb.nodes)), (23, .int .i64 tb.nodes.length), (24, .int .i64 k), (59, .sl 2 st.length r a), (60, .int .i64 a), (61, .int .i64 j)] ρ, a, [], ?_, ?_⟩
   ·exact ⟨0, by omega, rfl, Sv.intro rfl ⟨rfl, rfl, rfl, rfl, intEq (by exact hsz2), rfl, rfl, rfl, rfl, rfl, rfl, by rw [show 0 + ((r : Int)).toNat = r by omega, show D - ((r : Int)).toNat = a by omega]; rfl, intEq (by omega), rfl, trivial⟩⟩
   rintro m2 ρ H1 ⟨j, hj, rfl, d2, rfl⟩
   (conv => whnf); refine recA (fun hlt2 => ?_) (fun hlt2 => ?_)
   ·simp at hlt2
    (conv => whnf); refine recT (hb) ?_
    (conv => whnf); refine And.intro (by omega) ?_
    (conv => whnf); refine recT (hb) ?_
    obtain ⟨y, hy⟩ : ∃ y, L[j]? = some y := ⟨_, List.getElem?_eq_getElem (by omega)⟩
    have hym : y ∈ L := List.mem_of_getElem? hy
    have hy2 := hLb y hym
    have hg : (iC st)[r + ((j : Nat) : Int).toNat]? = some [.int .i64 y] := by
     rw [hLL, List.getElem?_drop, List.getElem?_take] at hy
     split at hy
     ·rw [iC, List.getElem?_map, show ((j : Int)).toNat = j from rfl, hy]; rfl
     ·cases hy
    (conv => whnf); refine recO (hg) ?_
    conv => whnf
    refine ⟨m2 - 1, by omega, Gp.keep rfl ?_ fun ρ1 hh => ⟨j + 1, by omega, rfl, hh⟩⟩
    refine ⟨rfl, rfl, rfl, rfl, rfl, rfl, intEq ?_, rfl, rfl, rfl, rfl, rfl, rfl, intEq (nx1 (by omega)), trivial⟩
    rw [take_succ' hy, hgL_snoc, wrapI _ (by omega) (by omega)]
    generalize hgL 1 (L.take j) = q
    split <;> omega
   simp at hlt2
   obtain rfl : j = a := by omega
   rw [show L.take j = L from List.take_of_length_le (by omega)]
   obtain ⟨h, hhh⟩ : ∃ h, h = hgL 1 L := ⟨_, rfl⟩
   have hh1 := hgL_bd (h0 := 1) (M := 64 + k) (l := L) (by omega) hLb
   rw [← hhh] at hD2 hh1
   rw [← hhh]
   (conv => whnf); refine recT (hb) ?_
   (conv => whnf); refine And.intro (by omega) ?_
   (conv => whnf); refine recT (hb) ?_
   obtain ⟨q1, q2, q3⟩ := stP_take (show r ≤ D by omega) hDl h
   have hpos2 : ∀ y ∈ stP st r h, 1 ≤ y ∧ y ≤ 64 + (k + 1 : Nat) := fun y hy => by
    unfold stP at hy
    split at hy
    ·simp only [List.mem_append, List.mem_singleton] at hy
     rcases hy with (hy | rfl) | hy
     ·have := hpos y (List.mem_of_mem_take hy); omega
     ·omega
     ·have := hpos y (List.mem_of_mem_drop hy); omega
    ·simp only [List.mem_append, List.mem_singleton] at hy
     rcases hy with hy | rfl
     ·have := hpos y hy; omega
     ·omega
   (conv => whnf); refine recA (fun hfit => ?_) (fun hfit => ?_)
   ·replace hfit : (Nat.ble (0 + 0 + (((r : Nat) : Int).toNat - 0) + 1) (iC st).length && true) = true := hfit
    rw [hn, Bool.and_true, Nat.ble_eq] at hfit
    have hfit2 : r + 1 ≤ st.length := by omega
    have hcc : (iC st).take (0 + 0 + (((r : Nat) : Int).toNat - 0)) ++ [[AVal.int .i64 h]] ++ (iC st).drop (0 + 0 + (((r : Nat) : Int).toNat - 0) + 1) = iC (stP st r h) := by
     rw [show 0 + 0 + (((r : Nat) : Int).toNat - 0) = r by omega, stP, if_pos hfit2]; simp [iC, List.map_take, List.map_drop]
    have hll : (stP st r h).length = st.length := by rw [stP, if_pos hfit2]; simp; omega
    conv => whnf
    refine ⟨m - 1, by omega, Gp.cut (H := [.arr 2 [trC tb], .arr 2 [[.nil, .int .i64 0]], .arr 1 (iC (stP st r h))]) (by rw [← hcc]; rfl) ⟨rfl, rfl, lowP (pureEs_iC _), trivial⟩ rfl rfl ?_ fun ρ1 hh => ⟨k + 1, stP st r h, r + 1, by omega, by rw [q1]; exact hD2, by omega, by omega, hpos2, rfl, hh⟩⟩
    exact ⟨rfl, rfl, rfl, rfl, rfl, by rw [hll, show r + 1 = ((r : Nat) : Int).toNat - 0 + 1 by omega]; rfl, rfl, rfl, intEq (nx1 (by omega)), trivial⟩
   ·replace hfit : (Nat.ble (0 + 0 + (((r : Nat) : Int).toNat - 0) + 1) (iC st).length && true) = false := hfit
    have hf2 : st.length < r + 1 := by
     rw [Bool.and_true, hn] at hfit
     exact Nat.lt_of_not_le fun hc => by rw [Nat.ble_eq_true_of_le (show 0 + 0 + (((r : Nat) : Int).toNat - 0) + 1 ≤ st.length by omega)] at hfit; cases hfit
    (conv => whnf); refine recT (hb) ?_
    (conv => whnf); refine And.intro (⟨by simp [roomB]; omega, by simp [roomB]; omega, rfl, by rw [hn]; omega⟩) ?_
    conv => whnf
    have hss : stP st r h = st ++ [h] := by rw [stP, if_neg (by omega)]
    have hcc : iC st ++ [[AVal.int .i64 h]] = iC (stP st r h) := by rw [hss]; simp [iC]
    have hll : (stP st r h).length = r + 1 := by rw [hss]; simp; omega
    have hcl : (iC st ++ [[AVal.int .i64 h]]).length = r + 1 := by rw [hcc, iC_length, hll]
    refine ⟨m - 1, by omega, Gp.cut (H := [.arr 2 [trC tb], .arr 2 [[.nil, .int .i64 0]], .arr 1 (iC (stP st r h))]) (by rw [← hcc]; rfl) ⟨rfl, rfl, lowP (pureEs_iC _), trivial⟩ rfl rfl ?_ fun ρ1 hh => ⟨k + 1, stP st r h, r + 1, by omega, by rw [q1]; exact hD2, by omega, by omega, hpos2, rfl, hh⟩⟩
    exact ⟨rfl, rfl, rfl, rfl, rfl, slEq (by rw [hll]; exact hcl) hcl, rfl, rfl, intEq (nx1 (by omega)), trivial⟩
 ·simp at hlt
  obtain rfl : k = tb.nodes.length := by omega
  rw [List.drop_eq_nil_of_le (Nat.le_refl _)] at hD
  have hD1 : st.take D = [Hh] := Option.some.inj hD
  have hlD : (st.take D).length = D := by simp; omega
  obtain rfl : D = 1 := by rw [hD1] at hlD; exact hlD.symm
  have hst0 : (iC st)[0 + Int.toNat 0]? = some [.int .i64 Hh] := by
   have h0 : st[0]? = some Hh := by
    have := congrArg (·[0]?) hD1
    simpa [List.getElem?_take] using this
   show (iC st)[0]? = _
   rw [iC, List.getElem?_map, h0]; rfl
  rw [List.take_length]
  obtain ⟨sz, hsz⟩ : ∃ sz, sz = (sbE A.nodes B.nodes tb.nodes).length := ⟨_, rfl⟩
  rw [← hsz]
  by_cases hS : sz ≤ 256
  ·(conv => whnf); refine recF (by simp; omega) ?_
   (conv => whnf); refine recT hb ?_
   (conv => whnf); refine And.intro (by decide) ?_
   (conv => whnf); refine recT hb ?_
   (conv => whnf); refine recO hst0 ?_
   by_cases hS2 : Hh ≤ 64
   ·(conv => whnf); refine recF (by simp; omega) ?_
    (conv => whnf); refine recT hb ?_
    (conv => whnf); refine And.intro (by decide) ?_
    (conv => whnf); refine recT hb ?_
    (conv => whnf); refine recO hst0 ?_
    conv => whnf
    refine ⟨fun m ρ H1 => ∃ k : Nat, k + m = tb.nodes.length ∧ H1 = [.arr 2 [trC tb], .arr 2 [[.nil, .int .i64 0]], .arr 1 (iC st)] ++ nH Hh (sbE A.nodes B.nodes (tb.nodes.take k)) ∧ Sv 125 [(1, .list true 1 (sC parN)), (2, .list z 2 (mC trC [A, B])), (6, .ptr 1 1 0 0), (17, .ptr 3 1 0 0), (91, .list false 6 (mC nodC tb.nodes)), (92, .int .i64 tb.nodes.length), (93, .int .i64 k)] ρ, tb.nodes.length, [], ?_, ?_⟩
    ·exact ⟨0, Nat.zero_add _, rfl, Sv.intro rfl ⟨rfl, rfl, rfl, rfl, rfl, intEq (by rw [mC_length]), rfl, trivial⟩⟩
    rintro m ρ H1 ⟨k, hk, rfl, d, rfl⟩
    (conv => whnf); refine recA (fun hlt => ?_) (fun hlt => ?_)
    ·simp at hlt
     obtain ⟨n, hnk, hdk, hm⟩ := get_drop (l := tb.nodes) (k := k) (by omega)
     have hszt : sbE A.nodes B.nodes (tb.nodes.take (k + 1)) = sbE A.nodes B.nodes (tb.nodes.take k) ++ sbN A.nodes B.nodes n := by rw [take_succ' hnk]; unfold sbE; rw [List.map_append, List.flatten_append]; simp
     have hszb : (sbE A.nodes B.nodes (tb.nodes.take k)).length ≤ 256 * k := sbE_le _ hAl hBl _ (by simp; omega)
     cases hP : sbE A.nodes B.nodes (tb.nodes.take k) with
     | nil =>
      (conv => whnf); refine And.intro (by omega) ?_
      (conv => whnf); refine recO (mC_at hnk) ?_
      (conv => whnf); refine ACalls.use (IndexS_spec true parN (by decide) n.name _) ?_
      by_cases ho : n.op = 1
      ·rcases hcol n hm ho with hi | hi
       ·rw [hi]
        have hX : sbN A.nodes B.nodes n = A.nodes := by rw [sbN, if_pos ⟨ho, hi⟩]
        (conv => whnf); refine recT (by rw [ho]; rfl) ?_
        (conv => whnf); refine And.intro (by decide) ?_
        have hXl : (A.nodes).length ≤ 256 := hAl
        have hX0 : A.nodes ≠ [] := hA0
        have eP : sbE A.nodes B.nodes (tb.nodes.take (k + 1)) = [] ++ A.nodes := by rw [hszt, hX, hP]
        (conv => whnf); refine And.intro (⟨by simp [roomB] <;> omega, by simp [roomB] <;> omega⟩) ?_
        conv => whnf
        refine ⟨m - 1, by omega, Gp.some (n := 125) (live := [(1, .list true 1 (sC parN)), (2, .list z 2 (mC trC [A, B])), (6, .ptr 1 1 0 0), (17, .ptr 3 1 0 0), (91, .list false 6 (mC nodC tb.nodes)), (92, .int .i64 tb.nodes.length), (93, .int .i64 (k + 1 : Nat))]) (H1 := [.arr 2 [trC tb], .arr 2 [[.nil, .int .i64 0]], .arr 1 (iC st)] ++ nH Hh (sbE A.nodes B.nodes (tb.nodes.take (k + 1)))) [0, 1, 2, 3, 5] (by decide) ?_ rfl ⟨.closed _ rfl, .closed _ rfl, .keepP 1 1 0 0 1 rfl, .keepP 3 1 0 0 3 rfl, .closed _ rfl, .closed _ rfl, pubI (nx1 (by omega)), trivial⟩ fun ρ1 h => ⟨k + 1, by omega, rfl, h⟩⟩
        rw [eP, List.nil_append, nH_ne hX0]
        exact ⟨⟨_, rfl, .same _ _ rfl⟩, ⟨_, rfl, .same _ _ rfl⟩, ⟨_, rfl, .same _ _ (pureEs_iC _)⟩, ⟨_, rfl, obp2 ⟨keepL (ids := [0, 1, 2, 3, 5]) (id := 5) (k := 4) (mC_length nodC (A.nodes)) rfl, rfl⟩ ⟨.closed _ rfl, rfl⟩⟩, ⟨_, rfl, .same _ _ (mC_pure nod_pure (A.nodes))⟩, trivial⟩
       ·rw [hi]
        have hX : sbN A.nodes B.nodes n = B.nodes := by rw [sbN, if_neg (by omega), if_pos ⟨ho, hi⟩]
        (conv => whnf); refine recT (by rw [ho]; rfl) ?_
        (conv => whnf); refine And.intro (by decide) ?_
        have hXl : (B.nodes).length ≤ 256 := hBl
        have hX0 : B.nodes ≠ [] := hB0
        have eP : sbE A.nodes B.nodes (tb.nodes.take (k + 1)) = [] ++ B.nodes := by rw [hszt, hX, hP]
        (conv => whnf); refine And.intro (⟨by simp [roomB] <;> omega, by simp [roomB] <;> omega⟩) ?_
        conv => whnf
        refine ⟨m - 1, by omega, Gp.some (n := 125) (live := [(1, .list true 1 (sC parN)), (2, .list z 2 (mC trC [A, B])), (6, .ptr 1 1 0 0), (17, .ptr 3 1 0 0), (91, .list false 6 (mC nodC tb.nodes)), (92, .int .i64 tb.nodes.length), (93, .int .i64 (k + 1 : Nat))]) (H1 := [.arr 2 [trC tb], .arr 2 [[.nil, .int .i64 0]], .arr 1 (iC st)] ++ nH Hh (sbE A.nodes B.nodes (tb.nodes.take (k + 1)))) [0, 1, 2, 3, 5] (by decide) ?_ rfl ⟨.closed _ rfl, .closed _ rfl, .keepP 1 1 0 0 1 rfl, .keepP 3 1 0 0 3 rfl, .closed _ rfl, .closed _ rfl, pubI (nx1 (by omega)), trivial⟩ fun ρ1 h => ⟨k + 1, by omega, rfl, h⟩⟩
        rw [eP, List.nil_append, nH_ne hX0]
        exact ⟨⟨_, rfl, .same _ _ rfl⟩, ⟨_, rfl, .same _ _ rfl⟩, ⟨_, rfl, .same _ _ (pureEs_iC _)⟩, ⟨_, rfl, obp2 ⟨keepL (ids := [0, 1, 2, 3, 5]) (id := 5) (k := 4) (mC_length nodC (B.nodes)) rfl, rfl⟩ ⟨.closed _ rfl, rfl⟩⟩, ⟨_, rfl, .same _ _ (mC_pure nod_pure (B.nodes))⟩, trivial⟩
      ·have hX : sbN A.nodes B.nodes n = [n] := by rw [sbN, if_neg (fun h => ho h.1), if_neg (fun h => ho h.1)]
       (conv => whnf); refine recF (by simpa using ho) ?_
       have hXl : ([n]).length ≤ 256 := by simp
       have hX0 : [n] ≠ [] := by simp
       have eP : sbE A.nodes B.nodes (tb.nodes.take (k + 1)) = [] ++ [n] := by rw [hszt, hX, hP]
       (conv => whnf); refine And.intro (⟨by simp [roomB] <;> omega, by simp [roomB] <;> omega⟩) ?_
       conv => whnf
       refine ⟨m - 1, by omega, Gp.some (n := 125) (live := [(1, .list true 1 (sC parN)), (2, .list z 2 (mC trC [A, B])), (6, .ptr 1 1 0 0), (17, .ptr 3 1 0 0), (91, .list false 6 (mC nodC tb.nodes)), (92, .int .i64 tb.nodes.length), (93, .int .i64 (k + 1 : Nat))]) (H1 := [.arr 2 [trC tb], .arr 2 [[.nil, .int .i64 0]], .arr 1 (iC st)] ++ nH Hh (sbE A.nodes B.nodes (tb.nodes.take (k + 1)))) [0, 1, 2, 3, 5] (by decide) ?_ rfl ⟨.closed _ rfl, .closed _ rfl, .keepP 1 1 0 0 1 rfl, .keepP 3 1 0 0 3 rfl, .closed _ rfl, .closed _ rfl, pubI (nx1 (by omega)), trivial⟩ fun ρ1 h => ⟨k + 1, by omega, rfl, h⟩⟩
       rw [eP, List.nil_append, nH_ne hX0]
       exact ⟨⟨_, rfl, .same _ _ rfl⟩, ⟨_, rfl, .same _ _ rfl⟩, ⟨_, rfl, .same _ _ (pureEs_iC _)⟩, ⟨_, rfl, obp2 ⟨keepL (ids := [0, 1, 2, 3, 5]) (id := 5) (k := 4) (mC_length nodC ([n])) rfl, rfl⟩ ⟨.closed _ rfl, rfl⟩⟩, ⟨_, rfl, .same _ _ (mC_pure nod_pure ([n]))⟩, trivial⟩
     | cons m0 P0 =>
      rw [hP] at hszb
      have hb2 : Nat.beq (m0 :: P0).length (mC nodC (m0 :: P0)).length = true := by rw [mC_length]; exact Nat.beq_refl _
      (conv => whnf); refine And.intro (by omega) ?_
      (conv => whnf); refine recO (mC_at hnk) ?_
      (conv => whnf); refine ACalls.use (IndexS_spec true parN (by decide) n.name _) ?_
      by_cases ho : n.op = 1
      ·rcases hcol n hm ho with hi | hi
       ·rw [hi]
        have hX : sbN A.nodes B.nodes n = A.nodes := by rw [sbN, if_pos ⟨ho, hi⟩]
        (conv => whnf); refine recT (by rw [ho]; rfl) ?_
        (conv => whnf); refine And.intro (by decide) ?_
        have hXl : (A.nodes).length ≤ 256 := hAl
        have hX0 : A.nodes ≠ [] := hA0
        have eP : sbE A.nodes B.nodes (tb.nodes.take (k + 1)) = m0 :: P0 ++ A.nodes := by rw [hszt, hX, hP]
        (conv => whnf); refine recT hb2 ?_
        (conv => whnf); refine And.intro (⟨by simp [roomB] at *; omega, by simp [roomB] at *; omega, rfl, by rw [mC_length]⟩) ?_
        conv => whnf
        have e3 : mC nodC (m0 :: P0) ++ mC nodC (A.nodes) = mC nodC (m0 :: P0 ++ A.nodes) := (mC_append nodC _ _).symm
        have e4 : (mC nodC (m0 :: P0) ++ mC nodC (A.nodes)).length = (m0 :: P0 ++ A.nodes).length := by rw [e3, mC_length]
        refine ⟨m - 1, by omega, Gp.cut (H := [.arr 2 [trC tb], .arr 2 [[.nil, .int .i64 0]], .arr 1 (iC st)] ++ nH Hh (m0 :: P0 ++ A.nodes)) (G := [.arr 6 [nodC n]]) ?_ (nH_low tb st _ _) rfl rfl ?_ fun ρ1 h => ⟨k + 1, by omega, by rw [eP], h⟩⟩
        ·rw [nH_ne (by simp), ← e4, ← e3]
         rfl
        ·exact ⟨rfl, rfl, rfl, rfl, rfl, rfl, intEq (nx1 (by omega)), trivial⟩
       ·rw [hi]
        have hX : sbN A.nodes B.nodes n = B.nodes := by rw [sbN, if_neg (by omega), if_pos ⟨ho, hi⟩]
        (conv => whnf); refine recT (by rw [ho]; rfl) ?_
        (conv => whnf); refine And.intro (by decide) ?_
        have hXl : (B.nodes).length ≤ 256 := hBl
        have hX0 : B.nodes ≠ [] := hB0
        have eP : sbE A.nodes B.nodes (tb.nodes.take (k + 1)) = m0 :: P0 ++ B.nodes := by rw [hszt, hX, hP]
        (conv => whnf); refine recT hb2 ?_
        (conv => whnf); refine And.intro (⟨by simp [roomB] at *; omega, by simp [roomB] at *; omega, rfl, by rw [mC_length]⟩) ?_
        conv => whnf
        have e3 : mC nodC (m0 :: P0) ++ mC nodC (B.nodes) = mC nodC (m0 :: P0 ++ B.nodes) := (mC_append nodC _ _).symm
        have e4 : (mC nodC (m0 :: P0) ++ mC nodC (B.nodes)).length = (m0 :: P0 ++ B.nodes).length := by rw [e3, mC_length]
        refine ⟨m - 1, by omega, Gp.cut (H := [.arr 2 [trC tb], .arr 2 [[.nil, .int .i64 0]], .arr 1 (iC st)] ++ nH Hh (m0 :: P0 ++ B.nodes)) (G := [.arr 6 [nodC n]]) ?_ (nH_low tb st _ _) rfl rfl ?_ fun ρ1 h => ⟨k + 1, by omega, by rw [eP], h⟩⟩
        ·rw [nH_ne (by simp), ← e4, ← e3]
         rfl
        ·exact ⟨rfl, rfl, rfl, rfl, rfl, rfl, intEq (nx1 (by omega)), trivial⟩
      ·have hX : sbN A.nodes B.nodes n = [n] := by rw [sbN, if_neg (fun h => ho h.1), if_neg (fun h => ho h.1)]
       (conv => whnf); refine recF (by simpa using ho) ?_
       have hXl : ([n]).length ≤ 256 := by simp
       have hX0 : [n] ≠ [] := by simp
       have eP : sbE A.nodes B.nodes (tb.nodes.take (k + 1)) = m0 :: P0 ++ [n] := by rw [hszt, hX, hP]
       (conv => whnf); refine recT hb2 ?_
       (conv => whnf); refine And.intro (⟨by simp [roomB] at *; omega, by simp [roomB] at *; omega, rfl, by rw [mC_length]⟩) ?_
       conv => whnf
       have e3 : mC nodC (m0 :: P0) ++ mC nodC ([n]) = mC nodC (m0 :: P0 ++ [n]) := (mC_append nodC _ _).symm
       have e4 : (mC nodC (m0 :: P0) ++ mC nodC ([n])).length = (m0 :: P0 ++ [n]).length := by rw [e3, mC_length]
       refine ⟨m - 1, by omega, Gp.cut (H := [.arr 2 [trC tb], .arr 2 [[.nil, .int .i64 0]], .arr 1 (iC st)] ++ nH Hh (m0 :: P0 ++ [n])) (G := [.arr 6 [nodC n]]) ?_ (nH_low tb st _ _) rfl rfl ?_ fun ρ1 h => ⟨k + 1, by omega, by rw [eP], h⟩⟩
       ·rw [nH_ne (by simp), ← e4, ← e3]
        rfl
       ·exact ⟨rfl, rfl, rfl, rfl, rfl, rfl, intEq (nx1 (by omega)), trivial⟩
    ·simp at hlt
     obtain rfl : k = tb.nodes.length := by omega
     rw [List.take_length, nH_ne (sbE_ne hA0 hB0 (by intro h; rw [h] at hgF; cases hgF))]
     conv => whnf
     exact ⟨fun _ => ⟨rfl, st, rfl⟩, fun h => absurd ⟨by rw [← hsz]; exact hS, hS2⟩ h⟩
   ·(conv => whnf); refine recT (by simp; omega) ?_
    conv => whnf
    exact ⟨fun h => absurd h.2 hS2, fun _ => rfl⟩
  ·(conv => whnf); refine recT (by simp; omega) ?_
   conv => whnf
   exact ⟨fun h => absurd h.1 (by rw [← hsz]; exact hS), fun _ => rfl⟩
end Go.AW

namespace Go.AW
variable [Draws]
attribute [local irreducible] ACalls CallE CallS Gp lpI
set_option maxRecDepth 100000
set_option maxHeartbeats 8000000
section
variable {tb A B : Trm} {Hh : Int}
theorem pubT2 {H1 : List AObj} {n : Nat} {ids : List Nat} {a b r s : AVal} (h1 : Pub H1 n ids a r) (h2 : Pub H1 n ids b s) : Pub H1 n ids (.tuple [a, b]) (.tuple [r, s]) :=
 .tuple _ _ rfl fun i v q g1 g2 => by
  match i, g1, g2 with
  | 0, rfl, rfl => exact h1
  | 1, rfl, rfl => exact h2
  | i + 2, g1, _ => cases g1
theorem nolT {a b : AVal} (h1 : Nol a) (h2 : Nol b) : Nol (.tuple [a, b]) := .tuple _ fun x hx => by
 simp only [List.mem_cons, List.not_mem_nil, or_false] at hx
 rcases hx with rfl | rfl
 ·exact h1
 ·exact h2
theorem fill_yes (z : Bool) (hbl : tb.nodes.length ≤ 256) (hAl : A.nodes.length ≤ 256) (hBl : B.nodes.length ≤ 256) (hA0 : A.nodes ≠ []) (hB0 : B.nodes ≠ []) (hAh : 1 ≤ A.h ∧ A.h ≤ 64) (hBh : 1 ≤ B.h ∧ B.h ≤ 64)
  (hgF : stk (gF A.h B.h) tb.nodes [] = some [Hh]) (har : ∀ n ∈ tb.nodes, 0 ≤ arN n ∧ arN n ≤ 3) (hcol : ∀ n ∈ tb.nodes, n.op = 1 → idxOf (eqS n.name) parN 0 = 0 ∨ idxOf (eqS n.name) parN 0 = 1)
  (hS : (sbE A.nodes B.nodes tb.nodes).length ≤ 256 ∧ Hh ≤ 64) {H : List AObj} {a : AVal} (hx : Lent H a (.list z 2 (mC trC [A, B]))) :
  ACalls pr 46 [.agg (trC tb), .list true 1 (sC parN), a] H (fun r H' => r = .tuple [.agg (trC ⟨sbE A.nodes B.nodes tb.nodes, Hh⟩), .bool true] ∧ H' = H) := by
 have own : ACalls pr 46 [.agg (trC tb), .list true 1 (sC parN), .list z 2 (mC trC [A, B])] [] (fun r H' => r = .tuple [.agg [.sl 0 (sbE A.nodes B.nodes tb.nodes).length 0 (sbE A.nodes B.nodes tb.nodes).length, .int .i64 Hh], .bool true] ∧ H' = [.arr 6 (mC nodC (sbE A.nodes B.nodes tb.nodes))]) := by
  refine (fill_raw tb A B z hbl hAl hBl hA0 hB0 hAh hBh hgF har hcol).gp ?_
  rintro r H' hq
  obtain ⟨rfl, st, rfl⟩ := hq.1 hS
  exact Gp.res (r' := .tuple [.agg [.sl 0 (sbE A.nodes B.nodes tb.nodes).length 0 (sbE A.nodes B.nodes tb.nodes).length, .int .i64 Hh], .bool true]) (H1 := [.arr 6 (mC nodC (sbE A.nodes B.nodes tb.nodes))]) [4] (by decide) (fun k m h => by simp at h) ⟨⟨_, rfl, .same _ _ (mC_pure nod_pure _)⟩, trivial⟩ (pubT2 (pubG2 (.keep 4 _ 0 _ 0 rfl) (.closed _ rfl)) (.closed _ rfl)) ⟨_, rfl, rfl, rfl⟩
 exact ACalls.lendF (flat_nod _) (pubT2 (pubG2 (pubFI (by simp) rfl (by rw [mC_length]) (by rw [mC_length]) (mC_pure nod_pure _)) (.closed _ rfl)) (.closed _ rfl)) (nolT (nol2 (.int _ _)) (.bool _)) own (Lents.cons (.same _ rfl) (Lents.cons (.same _ rfl) (Lents.cons hx Lents.nil)))
theorem fill_no (z : Bool) (hbl : tb.nodes.length ≤ 256) (hAl : A.nodes.length ≤ 256) (hBl : B.nodes.length ≤ 256) (hA0 : A.nodes ≠ []) (hB0 : B.nodes ≠ []) (hAh : 1 ≤ A.h ∧ A.h ≤ 64) (hBh : 1 ≤ B.h ∧ B.h ≤ 64)
  (hgF : stk (gF A.h B.h) tb.nodes [] = some [Hh]) (har : ∀ n ∈ tb.nodes, 0 ≤ arN n ∧ arN n ≤ 3) (hcol : ∀ n ∈ tb.nodes, n.op = 1 → idxOf (eqS n.name) parN 0 = 0 ∨ idxOf (eqS n.name) parN 0 = 1)
  (hS : ¬ ((sbE A.nodes B.nodes tb.nodes).length ≤ 256 ∧ Hh ≤ 64)) {H : List AObj} {a : AVal} (hx : Lent H a (.list z 2 (mC trC [A, B]))) :
  ACalls pr 46 [.agg (trC tb), .list true 1 (sC parN), a] H (fun r H' => r = .tuple [.agg [.nil, .int .i64 0], .bool false] ∧ H' = H) :=
 ACalls.bor rfl ((fill_raw tb A B z hbl hAl hBl hA0 hB0 hAh hBh hgF har hcol).mono fun r H' h => h.2 hS) (Lents.cons (.same _ rfl) (Lents.cons (.same _ rfl) (Lents.cons hx Lents.nil)))
end
def TrOk (q : Trm) : Prop := 1 ≤ q.h ∧ q.h ≤ 64 ∧ q.nodes.length ≤ 256
theorem fTm_inv {n : Nod} {l : List Trm} {y : Trm} (h : fTm n l = some y) : (trN l).length + 1 ≤ 256 ∧ TrOk y ∧ y = putT n l := by
 unfold fTm at h
 split at h
 ·rename_i g
  cases h
  have h1 : (trN l ++ [n]).length ≤ 256 := g.1
  refine ⟨by simpa using h1, ⟨hgt_pos _, g.2, g.1⟩, rfl⟩
 ·cases h
theorem trC_pure (q : Trm) : (trC q).all AVal.isPure = true := rfl
theorem expand0 {e : List Nod} {t : Trm} (hl : e.length ≤ 256) (hT : stk fTm e [] = some [t]) (har : ∀ n ∈ e, 0 ≤ arN n ∧ arN n ≤ 3) (h21 : ∀ n ∈ e, n.op ≠ 21) (x : AVal) (b : Bool) (H : List AObj) :
  ACalls pr 21 [x, .list b 6 (mC nodC e)] H (fun r H' => r = .tuple [.agg (trC t), .bool true] ∧ H' = H) := by
 refine ACalls.pureU rfl (acalls_of_body k21.has ?_)
 conv => whnf
 refine ⟨fun m ρ H1 => ∃ (k : Nat) (st : List Trm) (D : Nat), k + m = e.length ∧ stk fTm (e.drop k) (st.take D) = some [t] ∧ D ≤ st.length ∧ st.length ≤ k ∧ (∀ q ∈ st, TrOk q) ∧ H1 = [.arr 2 [[.nil, .int .i64 0]], .arr 2 (mC trC st)] ∧ Sv 86 [(4, .ptr 0 1 0 0), (6, .sl 1 st.length 0 D), (14, .list b 6 (mC nodC e)), (15, .int .i64 e.length), (16, .int .i64 k)] ρ, e.length, [(6, 2)], ?_, ?_⟩
 ·exact ⟨0, [], 0, by omega, hT, Nat.le_refl _, Nat.le_refl _, fun q h => by simp at h, rfl, Sv.intro rfl ⟨rfl, rfl, rfl, intEq (by rw [mC_length]), rfl, trivial⟩⟩
 rintro m ρ H1 ⟨k, st, D, hk, hD, hDl, hst, hok, rfl, d, rfl⟩
 have hn : (mC trC st).length = st.length := mC_length _ _
 have hb : Nat.beq st.length (mC trC st).length = true := by rw [hn]; exact Nat.beq_refl _
 (conv => whnf); refine recA (fun hlt => ?_) (fun hlt => ?_)
 ·simp at hlt
  obtain ⟨n, hnk, hdk, hm⟩ := get_drop (l := e) (k := k) (by omega)
  rw [hdk] at hD
  obtain ⟨y, ha, hy, hD2⟩ := stk_inv hD
  have hlD : (st.take D).length = D := by simp; omega
  rw [hlD] at ha hy hD2
  have a0 := har n hm
  have ho := h21 n hm
  obtain ⟨a, hna⟩ : ∃ a : Nat, arN n = a := ⟨(arN n).toNat, by omega⟩
  rw [hna] at ha hy hD2
  simp only [Int.toNat_natCast] at ha hy hD2
  have hw : IntKind.i64.wrap ((D : Int) - a) = ((D - a : Nat) : Int) := by rw [wrapI _ (by omega) (by omega)]; omega
  obtain ⟨r, hrr⟩ : ∃ r, r = D - a := ⟨_, rfl⟩
  rw [← hrr] at hy hD2 hw
  obtain ⟨hyl, hyo, hyp⟩ := fTm_inv hy
  have hLl : ((st.take D).drop r).length ≤ 3 := by simp; omega
  have hLo : ∀ q ∈ (st.take D).drop r, 1 ≤ q.h ∧ q.h ≤ 1000 ∧ q.nodes.length ≤ 256 := fun q hq => by
   obtain ⟨h1, h2, h3⟩ := hok q (List.mem_of_mem_take (List.mem_of_mem_drop hq))
   exact ⟨h1, by omega, h3⟩
  (conv => whnf); refine And.intro (by omega) ?_
  (conv => whnf); refine recO (mC_at hnk) ?_
  (conv => whnf); refine recT (hb) ?_
  (conv => whnf); refine ACalls.use ((arity_t n).a _) ?_
  rw [hna]
  conv => whnf
  rw [hw]
  (conv => whnf); refine recF (by simpa using ho) ?_
  (conv => whnf); refine recT (hb) ?_
  (conv => whnf); refine And.intro (by omega) ?_
  (conv => whnf); refine ⟨_, put_l n false ((st.take D).drop r) (by omega) (by omega) hLo (lentI (f := trC) trC_pure hDl (by omega) rfl), ?_⟩
  rw [← hyp]
  have hy256 := hyo.2.2
  have hy64 := hyo.2.1
  have hok2 : ∀ q ∈ stP st r y, TrOk q := fun q hq => by
   unfold stP at hq
   split at hq
   ·simp only [List.mem_append, List.mem_singleton] at hq
    rcases hq with (hq | rfl) | hq
    ·exact hok q (List.mem_of_mem_take hq)
    ·exact hyo
    ·exact hok q (List.mem_of_mem_drop hq)
   ·simp only [List.mem_append, List.mem_singleton] at hq
    rcases hq with hq | rfl
    ·exact hok q hq
    ·exact hyo
  (conv => whnf); refine recT (by rw [mC_length]; simp; omega) ?_
  (conv => whnf); refine recF (by simp; omega) ?_
  (conv => whnf); refine recT (hb) ?_
  (conv => whnf); refine And.intro (by omega) ?_
  (conv => whnf); refine recT (hb) ?_
  obtain ⟨q1, q2, q3⟩ := stP_take (show r ≤ D by omega) hDl y
  (conv => whnf); refine recA (fun hfit => ?_) (fun hfit => ?_)
  ·replace hfit : (Nat.ble (0 + 0 + (((r : Nat) : Int).toNat - 0) + 1) (mC trC st).length && true) = true := hfit
   rw [hn, Bool.and_true, Nat.ble_eq] at hfit
   have hfit2 : r + 1 ≤ st.length := by omega
   have hcc : (mC trC st).take (0 + 0 + (((r : Nat) : Int).toNat - 0)) ++ [trC y] ++ (mC trC st).drop (0 + 0 + (((r : Nat) : Int).toNat - 0) + 1) = mC trC (stP st r y) := by
    rw [show 0 + 0 + (((r : Nat) : Int).toNat - 0) = r by omega, stP, if_pos hfit2]; simp [mC, List.map_take, List.map_drop]
   have hll : (stP st r y).length = st.length := by rw [stP, if_pos hfit2]; simp; omega
   conv => whnf
   refine ⟨m - 1, by omega, Gp.cut (H := [.arr 2 [[.nil, .int .i64 0]], .arr 2 (mC trC (stP st r y))]) (by rw [← hcc]; rfl) ⟨rfl, lowP (mC_pure trC_pure _), trivial⟩ rfl rfl ?_ fun ρ1 hh => ⟨k + 1, stP st r y, r + 1, by omega, by rw [q1]; exact hD2, by omega, by omega, hok2, rfl, hh⟩⟩
   exact ⟨rfl, by rw [hll, show r + 1 = ((r : Nat) : Int).toNat - 0 + 1 by omega]; rfl, rfl, rfl, intEq (nx1 (by omega)), trivial⟩
  ·replace hfit : (Nat.ble (0 + 0 + (((r : Nat) : Int).toNat - 0) + 1) (mC trC st).length && true) = false := hfit
   have hf2 : st.length < r + 1 := by
    rw [Bool.and_true, hn] at hfit
    exact Nat.lt_of_not_le fun hc => by rw [Nat.ble_eq_true_of_le (show 0 + 0 + (((r : Nat) : Int).toNat - 0) + 1 ≤ st.length by omega)] at hfit; cases hfit
   (conv => whnf); refine recT (hb) ?_
   (conv => whnf); refine And.intro (⟨by simp [roomB]; omega, by simp [roomB]; omega, rfl, by rw [hn]; omega⟩) ?_
   conv => whnf
   have hss : stP st r y = st ++ [y] := by rw [stP, if_neg (by omega)]
   have hcc : mC trC st ++ [trC y] = mC trC (stP st r y) := by rw [hss]; simp [mC]
   have hll : (stP st r y).length = r + 1 := by rw [hss]; simp; omega
   have hcl : (mC trC st ++ [trC y]).length = r + 1 := by rw [hcc, mC_length, hll]
   refine ⟨m - 1, by omega, Gp.cut (H := [.arr 2 [[.nil, .int .i64 0]], .arr 2 (mC trC (stP st r y))]) (by rw [← hcc]; rfl) ⟨rfl, lowP (mC_pure trC_pure _), trivial⟩ rfl rfl ?_ fun ρ1 hh => ⟨k + 1, stP st r y, r + 1, by omega, by rw [q1]; exact hD2, by omega, by omega, hok2, rfl, hh⟩⟩
   exact ⟨rfl, slEq (by rw [hll]; exact hcl) hcl, rfl, rfl, intEq (nx1 (by omega)), trivial⟩
 ·simp at hlt
  obtain rfl : k = e.length := by omega
  rw [List.drop_eq_nil_of_le (Nat.le_refl _)] at hD
  have hD1 : st.take D = [t] := Option.some.inj hD
  have hlD : (st.take D).length = D := by simp; omega
  obtain rfl : D = 1 := by rw [hD1] at hlD; exact hlD.symm
  have hst0 : (mC trC st)[0 + Int.toNat 0]? = some (trC t) := by
   have h0 : st[0]? = some t := by
    have := congrArg (·[0]?) hD1
    simpa [List.getElem?_take] using this
   exact mC_at h0
  (conv => whnf); refine recT hb ?_
  (conv => whnf); refine And.intro (by decide) ?_
  (conv => whnf); refine recT hb ?_
  (conv => whnf); refine recO hst0 ?_
  conv => whnf
  exact pubT2 (.closed _ rfl) (.closed _ rfl)
end Go.AW

namespace Go.AW
variable [Draws]
attribute [local irreducible] ACalls CallE CallS Gp lpI
set_option maxRecDepth 100000
set_option maxHeartbeats 8000000
def xO (body : List Nod) : AObj := .arr 2 [[.list true 3 [mcC body], .mp 0]]
def t4O : AObj := .arr 2 [[.nil, .int .i64 0]]
theorem gpX {body : List Nod} {kvs : List (AVal × AVal)} {st : List Trm} {G : List AObj} (hk : kvs.all (fun kv => kv.2.closed) = true) : gpO ([.map kvs, xO body, t4O, .arr 2 (mC trC st)] ++ G) [0, 1, 2, 3] [0, 1, 2, 3] [.map kvs, xO body, t4O, .arr 2 (mC trC st)] :=
 ⟨⟨_, rfl, .mpc _ hk⟩, ⟨_, rfl, obp2 ⟨.closed _ rfl, rfl⟩ ⟨.keepM 0 0 rfl, rfl⟩⟩, ⟨_, rfl, .same _ _ rfl⟩, ⟨_, rfl, .same _ _ (mC_pure trC_pure _)⟩, trivial⟩
theorem kbX {body : List Nod} {kvs : List (AVal × AVal)} {st : List Trm} {G : List AObj} : keepB ([AObj.map [], xO body].map AObj.olen) [0, 1, 2, 3] ([.map kvs, xO body, t4O, .arr 2 (mC trC st)] ++ G) := fun k n hk => by
 match k, hk with
 | 0, hk => exact ⟨rfl, _, rfl, by cases hk; rfl⟩
 | 1, hk => exact ⟨rfl, _, rfl, by cases hk; rfl⟩
 | k + 2, hk => cases hk
def expQ (a b body : List Nod) (Hh : Int) (r : AVal) (H' : List AObj) : Prop :=
 r = (if (sbE a b body).length ≤ 256 ∧ Hh ≤ 64 then .tuple [.agg (trC ⟨sbE a b body, Hh⟩), .bool true] else .tuple [.agg [.nil, .int .i64 0], .bool false]) ∧ ∃ (kvs : List (AVal × AVal)) (G : List AObj), kvs.all (fun kv => kv.2.closed) = true ∧ H' = .map kvs :: xO body :: G
theorem pubS3 {H1 : List AObj} {v : AVal} {n m : Nat} (e : v = .sl 3 n 0 m) : Pub H1 0 [0, 1, 2, 3] v (.sl 3 n 0 m) := by subst e; exact .keep 3 n 0 m 3 rfl
theorem kb2 {body : List Nod} {kvs : List (AVal × AVal)} {G : List AObj} : keepB ([AObj.map [], xO body].map AObj.olen) [0, 1, 2, 3] (.map kvs :: xO body :: G) := fun k n hk => by
 match k, hk with
 | 0, hk => exact ⟨rfl, _, rfl, by cases hk; rfl⟩
 | 1, hk => exact ⟨rfl, _, rfl, by cases hk; rfl⟩
 | k + 2, hk => cases hk
theorem expandC {a b body : List Nod} {u v hb0 Hh : Int} (hal : a.length + b.length + 1 ≤ 256) (hbl : body.length ≤ 256) (ha0 : a ≠ []) (hb0' : b ≠ []) (hxa : 1 ≤ u ∧ u ≤ 64) (hyb : 1 ≤ v ∧ v ≤ 64)
  (hT : stk fTm (a ++ b) [] = some [⟨a, u⟩, ⟨b, v⟩]) (hTb : stk fTm body [] = some [⟨body, hb0⟩]) (har : ∀ n ∈ a ++ b, 0 ≤ arN n ∧ arN n ≤ 3) (h21 : ∀ n ∈ a ++ b, n.op ≠ 21) (harb : ∀ n ∈ body, 0 ≤ arN n ∧ arN n ≤ 3) (h21b : ∀ n ∈ body, n.op ≠ 21)
  (hgF : stk (gF u v) body [] = some [Hh]) (hcol : ∀ n ∈ body, n.op = 1 → idxOf (eqS n.name) parN 0 = 0 ∨ idxOf (eqS n.name) parN 0 = 1) (hH1 : 1 ≤ Hh) (f : Bool) :
  ACalls pr 21 [.ptr 1 1 0 0, .list f 6 (mC nodC (a ++ b ++ [callN]))] [.map [], xO body] (expQ a b body Hh) := by
 obtain ⟨e0, he0⟩ : ∃ e0, e0 = a ++ b := ⟨_, rfl⟩
 rw [← he0] at hT har h21
 rw [← he0]
 obtain ⟨e, he⟩ : ∃ e, e = e0 ++ [callN] := ⟨_, rfl⟩
 rw [← he]
 have hel : e.length = e0.length + 1 := by rw [he]; simp
 have he0l : e0.length ≤ 255 := by rw [he0]; simp; omega
 refine acalls_of_body k21.has ?_
 conv => whnf
 refine ⟨fun m ρ H1 => ∃ (k : Nat) (st : List Trm) (D : Nat) (kvs : List (AVal × AVal)), k + m = e.length ∧ (k ≤ e0.length → kvs = [] ∧ stk fTm (e0.drop k) (st.take D) = some [⟨a, u⟩, ⟨b, v⟩]) ∧ (k = e.length → (sbE a b body).length ≤ 256 ∧ Hh ≤ 64 ∧ st.take D = [⟨sbE a b body, Hh⟩]) ∧ kvs.all (fun kv => kv.2.closed) = true ∧ D ≤ st.length ∧ st.length ≤ k ∧ (∀ q ∈ st, TrOk q) ∧ H1 = [.map kvs, xO body, t4O, .arr 2 (mC trC st)] ∧ Sv 86 [(0, .ptr 1 1 0 0), (4, .ptr 2 1 0 0), (6, .sl 3 st.length 0 D), (14, .list f 6 (mC nodC e)), (15, .int .i64 e.length), (16, .int .i64 k)] ρ, e.length, [(6, 2)], ?_, ?_⟩
 ·exact ⟨0, [], 0, [], by omega, fun _ => ⟨rfl, hT⟩, fun h => by omega, rfl, Nat.le_refl _, Nat.le_refl _, fun q h => by simp at h, rfl, Sv.intro rfl ⟨rfl, rfl, rfl, rfl, intEq (by rw [mC_length]), rfl, trivial⟩⟩
 rintro m ρ H1 ⟨k, st, D, kvs, hk, hD, hE, hkc, hDl, hst, hok, rfl, d, rfl⟩
 have hn : (mC trC st).length = st.length := mC_length _ _
 have hb : Nat.beq st.length (mC trC st).length = true := by rw [hn]; exact Nat.beq_refl _
 (conv => whnf); refine recA (fun hlt => ?_) (fun hlt => ?_)
 ·simp at hlt
  by_cases hkl : k = e0.length
  ·subst hkl
   obtain ⟨rfl, hD0⟩ := hD (Nat.le_refl _)
   rw [List.drop_eq_nil_of_le (Nat.le_refl _)] at hD0
   have hDD : st.take D = [⟨a, u⟩, ⟨b, v⟩] := Option.some.inj hD0
   have hlD : (st.take D).length = D := by simp; omega
   obtain rfl : D = 2 := by rw [hDD] at hlD; exact hlD.symm
   have hnk : e[e0.length]? = some callN := by rw [he, List.getElem?_append_right (Nat.le_refl _), Nat.sub_self]; rfl
   (conv => whnf); refine And.intro (by omega) ?_
   (conv => whnf); refine recO (mC_at hnk) ?_
   (conv => whnf); refine recT (hb) ?_
   (conv => whnf); refine ACalls.use ((arity_t callN).a _) ?_
   have hw : IntKind.i64.wrap (((2 : Nat) : Int) - arN callN) = ((0 : Nat) : Int) := by decide
   conv => whnf
   rw [hw]
   (conv => whnf); refine ⟨_, find_m body _, ?_⟩
   (conv => whnf); refine And.intro (by decide) ?_
   repeat ((conv => whnf); refine And.intro (by first | exact rfl | decide | omega | ((conv => whnf); exact ⟨by decide, rfl⟩) | ((conv => whnf); exact ⟨_, find_m body _, rfl⟩) | ((conv => whnf); exact find_m body _)) ?_)
   refine acalls_of_body k45.has ?_
   repeat ((conv => whnf); refine And.intro (by first | exact rfl | decide | omega | ((conv => whnf); exact ⟨by decide, rfl⟩)) ?_)
   (conv => whnf); refine ACalls.use (expand0 hbl hTb harb h21b _ false _) ?_
   repeat ((conv => whnf); refine And.intro (by first | exact rfl | decide | omega | ((conv => whnf); exact ⟨by decide, rfl⟩)) ?_)
   have hlent : ∀ G : List AObj, Lent ([AObj.map [((.str fB : AVal), (.agg (trC ⟨body, hb0⟩) : AVal))], xO body, t4O, .arr 2 (mC trC st)] ++ G) (.sl 3 st.length (0 + ((0 : Nat) : Int).toNat) (2 - ((0 : Nat) : Int).toNat)) (.list false 2 (mC trC [⟨a, u⟩, ⟨b, v⟩])) := fun G => by
    have := lentI (f := trC) (sz := 2) (id := 3) (H := [AObj.map [((.str fB : AVal), (.agg (trC ⟨body, hb0⟩) : AVal))], xO body, t4O, .arr 2 (mC trC st)] ++ G) trC_pure hDl (Nat.zero_le 2) rfl
    rw [hDD] at this
    exact this
   have harC : ∀ n ∈ (⟨body, hb0⟩ : Trm).nodes, 0 ≤ arN n ∧ arN n ≤ 3 := harb
   (conv => whnf); refine recT (hb) ?_
   (conv => whnf); refine And.intro (by decide) ?_
   by_cases hS : (sbE a b body).length ≤ 256 ∧ Hh ≤ 64
   ·(conv => whnf); refine ⟨_, fill_yes (tb := ⟨body, hb0⟩) (A := ⟨a, u⟩) (B := ⟨b, v⟩) false hbl (by show a.length ≤ 256; omega) (by show b.length ≤ 256; omega) ha0 hb0' hxa hyb hgF harb hcol hS (hlent _), ?_⟩
    obtain ⟨Y, hY⟩ : ∃ Y : Trm, Y = ⟨sbE a b body, Hh⟩ := ⟨_, rfl⟩
    have hYr : (⟨sbE (⟨a, u⟩ : Trm).nodes (⟨b, v⟩ : Trm).nodes (⟨body, hb0⟩ : Trm).nodes, Hh⟩ : Trm) = Y := hY.symm
    rw [hYr]
    have hYo : TrOk Y := by rw [hY]; exact ⟨hH1, hS.2, hS.1⟩
    have hok2 : ∀ q ∈ stP st 0 Y, TrOk q := fun q hq => by
     unfold stP at hq
     split at hq
     ·simp only [List.mem_append, List.mem_singleton] at hq
      rcases hq with (hq | rfl) | hq
      ·exact hok q (List.mem_of_mem_take hq)
      ·exact hYo
      ·exact hok q (List.mem_of_mem_drop hq)
     ·simp only [List.mem_append, List.mem_singleton] at hq
      rcases hq with hq | rfl
      ·exact hok q hq
      ·exact hYo
    (conv => whnf); refine recT (hb) ?_
    (conv => whnf); refine And.intro (by decide) ?_
    (conv => whnf); refine recT (hb) ?_
    obtain ⟨q1, q2, q3⟩ := stP_take (show 0 ≤ 2 by omega) hDl Y
    have hq1 : (stP st 0 Y).take (0 + 1) = [⟨sbE a b body, Hh⟩] := by rw [q1, hY]; rfl
    (conv => whnf); refine recA (fun hfit => ?_) (fun hfit => ?_)
    ·replace hfit : (Nat.ble (0 + 0 + (((0 : Nat) : Int).toNat - 0) + 1) (mC trC st).length && true) = true := hfit
     rw [hn, Bool.and_true, Nat.ble_eq] at hfit
     have hfit2 : 0 + 1 ≤ st.length := by omega
     have hcc : (mC trC st).take (0 + 0 + (((0 : Nat) : Int).toNat - 0)) ++ [trC Y] ++ (mC trC st).drop (0 + 0 + (((0 : Nat) : Int).toNat - 0) + 1) = mC trC (stP st 0 Y) := by
      rw [show 0 + 0 + (((0 : Nat) : Int).toNat - 0) = 0 by omega, stP, if_pos hfit2]; simp [mC, List.map_take, List.map_drop]
     have hll : (stP st 0 Y).length = st.length := by rw [stP, if_pos hfit2]; simp; omega
     conv => whnf
     refine ⟨m - 1, by omega, Gp.keepL [0, 1, 2, 3] (by decide) ?_ (H1 := [.map [((.str fB : AVal), (.agg (trC ⟨body, hb0⟩) : AVal))], xO body, t4O, .arr 2 (mC trC (stP st 0 Y))]) ?_ rfl ?_ fun ρ1 hh => ⟨e0.length + 1, stP st 0 Y, 0 + 1, _, by omega, fun h => by omega, fun _ => ⟨hS.1, hS.2, by first | exact hq1 | (rw [q1]; rfl)⟩, rfl, by omega, by omega, hok2, rfl, hh⟩⟩
     ·exact kb2
     ·have hpu := mC_pure trC_pure (stP st 0 Y)
      rw [← hcc] at hpu
      rw [← hcc]
      exact ⟨⟨_, rfl, .mpc _ rfl⟩, ⟨_, rfl, obp2 ⟨.closed _ rfl, rfl⟩ ⟨.keepM 0 0 rfl, rfl⟩⟩, ⟨_, rfl, .same _ _ rfl⟩, ⟨_, rfl, .same _ _ hpu⟩, trivial⟩
     ·exact ⟨.keepP 1 1 0 0 1 rfl, .keepP 2 1 0 0 2 rfl, pubS3 (by rw [hll]; rfl), .closed _ rfl, .closed _ rfl, pubI (nx1 (by omega)), trivial⟩
    ·exfalso
     have : (Nat.ble (0 + 0 + (((0 : Nat) : Int).toNat - 0) + 1) (mC trC st).length && true) = false := hfit
     rw [hn, Bool.and_true] at this
     rw [Nat.ble_eq_true_of_le (show 0 + 0 + (((0 : Nat) : Int).toNat - 0) + 1 ≤ st.length by show 1 ≤ st.length; omega)] at this
     cases this
   ·(conv => whnf); refine ⟨_, fill_no (tb := ⟨body, hb0⟩) (A := ⟨a, u⟩) (B := ⟨b, v⟩) false hbl (by show a.length ≤ 256; omega) (by show b.length ≤ 256; omega) ha0 hb0' hxa hyb hgF harb hcol hS (hlent _), ?_⟩
    conv => whnf
    exact ⟨(if_neg hS).symm, _, _, rfl, rfl⟩
  obtain ⟨rfl, hD0⟩ := hD (by omega)
  obtain ⟨n, hnk0, hdk, hm⟩ := get_drop (l := e0) (k := k) (by omega)
  have hnk : e[k]? = some n := by rw [he, List.getElem?_append_left (by omega)]; exact hnk0
  rw [hdk] at hD0
  obtain ⟨y, ha, hy, hD2⟩ := stk_inv hD0
  have hlD : (st.take D).length = D := by simp; omega
  rw [hlD] at ha hy hD2
  have a0 := har n hm
  have ho := h21 n hm
  obtain ⟨q0, hna⟩ : ∃ q0 : Nat, arN n = q0 := ⟨(arN n).toNat, by omega⟩
  rw [hna] at ha hy hD2
  simp only [Int.toNat_natCast] at ha hy hD2
  have hw : IntKind.i64.wrap ((D : Int) - q0) = ((D - q0 : Nat) : Int) := by rw [wrapI _ (by omega) (by omega)]; omega
  obtain ⟨r, hrr⟩ : ∃ r, r = D - q0 := ⟨_, rfl⟩
  rw [← hrr] at hy hD2 hw
  obtain ⟨hyl, hyo, hyp⟩ := fTm_inv hy
  have hLl : ((st.take D).drop r).length ≤ 3 := by simp; omega
  have hLo : ∀ q ∈ (st.take D).drop r, 1 ≤ q.h ∧ q.h ≤ 1000 ∧ q.nodes.length ≤ 256 := fun q hq => by
   obtain ⟨h1, h2, h3⟩ := hok q (List.mem_of_mem_take (List.mem_of_mem_drop hq))
   exact ⟨h1, by omega, h3⟩
  (conv => whnf); refine And.intro (by omega) ?_
  (conv => whnf); refine recO (mC_at hnk) ?_
  (conv => whnf); refine recT (hb) ?_
  (conv => whnf); refine ACalls.use ((arity_t n).a _) ?_
  rw [hna]
  conv => whnf
  rw [hw]
  (conv => whnf); refine recF (by simpa using ho) ?_
  (conv => whnf); refine recT (hb) ?_
  (conv => whnf); refine And.intro (by omega) ?_
  (conv => whnf); refine ⟨_, put_l n false ((st.take D).drop r) (by omega) (by omega) hLo (lentI (f := trC) trC_pure hDl (by omega) rfl), ?_⟩
  rw [← hyp]
  have hy256 := hyo.2.2
  have hy64 := hyo.2.1
  have hok2 : ∀ q ∈ stP st r y, TrOk q := fun q hq => by
   unfold stP at hq
   split at hq
   ·simp only [List.mem_append, List.mem_singleton] at hq
    rcases hq with (hq | rfl) | hq
    ·exact hok q (List.mem_of_mem_take hq)
    ·exact hyo
    ·exact hok q (List.mem_of_mem_drop hq)
   ·simp only [List.mem_append, List.mem_singleton] at hq
    rcases hq with hq | rfl
    ·exact hok q hq
    ·exact hyo
  (conv => whnf); refine recT (by rw [mC_length]; simp; omega) ?_
  (conv => whnf); refine recF (by simp; omega) ?_
  (conv => whnf); refine recT (hb) ?_
  (conv => whnf); refine And.intro (by omega) ?_
  (conv => whnf); refine recT (hb) ?_
  obtain ⟨q1, q2, q3⟩ := stP_take (show r ≤ D by omega) hDl y
  (conv => whnf); refine recA (fun hfit => ?_) (fun hfit => ?_)
  ·replace hfit : (Nat.ble (0 + 0 + (((r : Nat) : Int).toNat - 0) + 1) (mC trC st).length && true) = true := hfit
   rw [hn, Bool.and_true, Nat.ble_eq] at hfit
   have hfit2 : r + 1 ≤ st.length := by omega
   have hcc : (mC trC st).take (0 + 0 + (((r : Nat) : Int).toNat - 0)) ++ [trC y] ++ (mC trC st).drop (0 + 0 + (((r : Nat) : Int).toNat - 0) + 1) = mC trC (stP st r y) := by
    rw [show 0 + 0 + (((r : Nat) : Int).toNat - 0) = r by omega, stP, if_pos hfit2]; simp [mC, List.map_take, List.map_drop]
   have hll : (stP st r y).length = st.length := by rw [stP, if_pos hfit2]; simp; omega
   conv => whnf
   refine ⟨m - 1, by omega, Gp.keepL [0, 1, 2, 3] (by decide) ?_ (H1 := [.map [], xO body, t4O, .arr 2 (mC trC (stP st r y))]) ?_ rfl ?_ fun ρ1 hh => ⟨k + 1, stP st r y, r + 1, [], by omega, fun _ => ⟨rfl, by rw [q1]; exact hD2⟩, fun h => by omega, rfl, by omega, by omega, hok2, rfl, hh⟩⟩
   ·exact kb2
   ·have hpu := mC_pure trC_pure (stP st r y)
    rw [← hcc] at hpu
    rw [← hcc]
    exact ⟨⟨_, rfl, .mpc _ rfl⟩, ⟨_, rfl, obp2 ⟨.closed _ rfl, rfl⟩ ⟨.keepM 0 0 rfl, rfl⟩⟩, ⟨_, rfl, .same _ _ rfl⟩, ⟨_, rfl, .same _ _ hpu⟩, trivial⟩
   ·exact ⟨.keepP 1 1 0 0 1 rfl, .keepP 2 1 0 0 2 rfl, pubS3 (by rw [hll, show r + 1 = ((r : Nat) : Int).toNat - 0 + 1 by omega]; rfl), .closed _ rfl, .closed _ rfl, pubI (nx1 (by omega)), trivial⟩
  ·replace hfit : (Nat.ble (0 + 0 + (((r : Nat) : Int).toNat - 0) + 1) (mC trC st).length && true) = false := hfit
   have hf2 : st.length < r + 1 := by
    rw [Bool.and_true, hn] at hfit
    exact Nat.lt_of_not_le fun hc => by rw [Nat.ble_eq_true_of_le (show 0 + 0 + (((r : Nat) : Int).toNat - 0) + 1 ≤ st.length by omega)] at hfit; cases hfit
   (conv => whnf); refine recT (hb) ?_
   (conv => whnf); refine And.intro (⟨by simp [roomB]; omega, by simp [roomB]; omega, rfl, by rw [hn]; omega⟩) ?_
   conv => whnf
   have hss : stP st r y = st ++ [y] := by rw [stP, if_neg (by omega)]
   have hcc : mC trC st ++ [trC y] = mC trC (stP st r y) := by rw [hss]; simp [mC]
   have hll : (stP st r y).length = r + 1 := by rw [hss]; simp; omega
   have hcl : (mC trC st ++ [trC y]).length = r + 1 := by rw [hcc, mC_length, hll]
   refine ⟨m - 1, by omega, Gp.keepL [0, 1, 2, 3] (by decide) ?_ (H1 := [.map [], xO body, t4O, .arr 2 (mC trC (stP st r y))]) ?_ rfl ?_ fun ρ1 hh => ⟨k + 1, stP st r y, r + 1, [], by omega, fun _ => ⟨rfl, by rw [q1]; exact hD2⟩, fun h => by omega, rfl, by omega, by omega, hok2, rfl, hh⟩⟩
   ·exact kb2
   ·have hpu := mC_pure trC_pure (stP st r y)
    rw [← hcc] at hpu
    rw [← hcc]
    exact ⟨⟨_, rfl, .mpc _ rfl⟩, ⟨_, rfl, obp2 ⟨.closed _ rfl, rfl⟩ ⟨.keepM 0 0 rfl, rfl⟩⟩, ⟨_, rfl, .same _ _ rfl⟩, ⟨_, rfl, .same _ _ hpu⟩, trivial⟩
   ·exact ⟨.keepP 1 1 0 0 1 rfl, .keepP 2 1 0 0 2 rfl, pubS3 (slEq (by rw [hll]; exact hcl) hcl), .closed _ rfl, .closed _ rfl, pubI (nx1 (by omega)), trivial⟩
 ·simp at hlt
  obtain rfl : k = e.length := by omega
  obtain ⟨hS1, hS2, hD1⟩ := hE rfl
  have hlD : (st.take D).length = D := by simp; omega
  obtain rfl : D = 1 := by rw [hD1] at hlD; exact hlD.symm
  have hst0 : (mC trC st)[0 + Int.toNat 0]? = some (trC ⟨sbE a b body, Hh⟩) := by
   have h0 : st[0]? = some ⟨sbE a b body, Hh⟩ := by
    have := congrArg (·[0]?) hD1
    simpa [List.getElem?_take] using this
   exact mC_at h0
  (conv => whnf); refine recT hb ?_
  (conv => whnf); refine And.intro (by decide) ?_
  (conv => whnf); refine recT hb ?_
  (conv => whnf); refine recO hst0 ?_
  conv => whnf
  exact ⟨(if_pos ⟨hS1, hS2⟩).symm, kvs, _, hkc, rfl⟩
end Go.AW

namespace Go.AW
variable [Draws]
attribute [local irreducible] ACalls CallE CallS Gp lpI
set_option maxRecDepth 100000
set_option maxHeartbeats 8000000
def GdC (n : Nod) : Prop := Gd n ∨ n = callN
open Classical in
noncomputable def fHC (n : Nod) (l : List Int) : Option Int := if GdC n ∧ hgt l ≤ 64 then some (hgt l) else none
theorem fHC_inv {n : Nod} {l : List Int} {x : Int} (h : fHC n l = some x) : GdC n ∧ hgt l ≤ 64 ∧ x = hgt l := by
 unfold fHC at h
 split at h
 ·rename_i g; cases h; exact ⟨g.1, g.2, rfl⟩
 ·cases h
theorem GdC.ar3 {n : Nod} (h : GdC n) : 0 ≤ arN n ∧ arN n ≤ 3 := by
 rcases h with h | rfl
 ·exact h.ar3
 ·decide
theorem shapedC_t [Gls] {n : Nod} (g : GdC n) (H : List AObj) : ACalls pr 44 [.agg (nodC n)] H (fun r H' => r = .bool true ∧ H' = H) := by
 rcases g with g | rfl
 ·exact (shaped_t g).a H
 refine ACalls.pure rfl (acalls_of_body k44.has ?_)
 repeat' (first | refine lpS _ _ _ _ ?_ | refine lpE _ _ _ _ ?_ | ((conv => whnf); first | exact .closed _ rfl | apply ceA | refine acalls_of_body k81.has ?_ | refine ACalls.use (schema_IsQualified_spec _ (by decide) _) ?_ | refine ACalls.use ((reserved_t _).a _) ?_ | refine recT (by decide) ?_ | refine recF (by decide) ?_ | refine And.intro (by first | exact rfl | decide | omega | ((conv => whnf); exact ⟨by decide, rfl⟩)) ?_))
 (conv => whnf)
 refine And.intro ?_ ?_
 ·(conv => whnf)
 repeat' (first | refine lpS _ _ _ _ ?_ | refine lpE _ _ _ _ ?_ | ((conv => whnf); first | exact .closed _ rfl | apply ceA | refine ACalls.use (schema_IsQualified_spec _ (by decide) _) ?_ | refine ACalls.use ((reserved_t _).a _) ?_ | refine recT (by decide) ?_ | refine recF (by decide) ?_ | refine And.intro (by first | exact rfl | decide | omega | ((conv => whnf); exact ⟨by decide, rfl⟩)) ?_))
 all_goals (conv => whnf)
theorem valC_t [Gls] (x : Bool) (e : List Nod) (hl : e.length ≤ 256) {hf : Int} (hs : stk fHC e [] = some [hf]) (H : List AObj) :
  ACalls pr 19 [.list x 6 (mC nodC e)] H (fun r H' => r = .int .i64 0 ∧ H' = H) := by
 refine ACalls.pure rfl (acalls_of_body k19.has ?_)
 (conv => whnf); refine recF (by rw [mC_length]; simp; omega) ?_
 conv => whnf
 refine ⟨fun m ρ H1 => ∃ (k : Nat) (st : List Int) (D : Nat), k + m = e.length ∧ stk fHC (e.drop k) (st.take D) = some [hf] ∧ D ≤ st.length ∧ st.length ≤ k ∧ (∀ y ∈ st, 1 ≤ y) ∧ H1 = [.arr 1 (iC st)] ∧ Sv 59 [(0, .list x 6 (mC nodC e)), (3, .sl 0 st.length 0 D), (13, .list x 6 (mC nodC e)), (14, .int .i64 e.length), (15, .int .i64 k)] ρ, e.length, [(3, 1)], ?_, ?_⟩
 ·exact ⟨0, [], 0, by omega, hs, Nat.le_refl _, Nat.le_refl _, fun y h => by simp at h, rfl, Sv.intro rfl ⟨rfl, rfl, rfl, intEq (by rw [mC_length]), rfl, trivial⟩⟩
 rintro m ρ H1 ⟨k, st, D, hk, hD, hDl, hst, hpos, rfl, d, rfl⟩
 have hn := iC_length st
 have hb : Nat.beq st.length (iC st).length = true := by rw [hn]; exact Nat.beq_refl _
 (conv => whnf); refine recA (fun hlt => ?_) (fun hlt => ?_)
 ·simp at hlt
  obtain ⟨n, hnk, hdk, hm⟩ := get_drop (l := e) (k := k) (by omega)
  rw [hdk] at hD
  obtain ⟨y, ha, hy, hD2⟩ := stk_inv hD
  obtain ⟨gd, h64, rfl⟩ := fHC_inv hy
  have hlD : (st.take D).length = D := by simp; omega
  rw [hlD] at ha h64 hD2
  have a0 := gd.ar3
  obtain ⟨a, hna⟩ : ∃ a : Nat, arN n = a := ⟨(arN n).toNat, by omega⟩
  rw [hna] at ha h64 hD2
  simp only [Int.toNat_natCast] at ha h64 hD2
  (conv => whnf); refine And.intro (by omega) ?_
  (conv => whnf); refine recO (mC_at hnk) ?_
  (conv => whnf); refine ACalls.use (shapedC_t gd _) ?_
  (conv => whnf); refine ACalls.use ((arity_t n).a _) ?_
  (conv => whnf); refine recT (hb) ?_
  (conv => whnf); refine recF (by rw [hna]; simp; omega) ?_
  (conv => whnf); refine recT (hb) ?_
  (conv => whnf); refine ACalls.use ((arity_t n).a _) ?_
  rw [hna]
  have hw : IntKind.i64.wrap ((D : Int) - a) = ((D - a : Nat) : Int) := by rw [wrapI _ (by omega) (by omega)]; omega
  conv => whnf
  rw [hw]
  obtain ⟨r, hrr⟩ : ∃ r, r = D - a := ⟨_, rfl⟩
  rw [← hrr]
  (conv => whnf); refine recT (hb) ?_
  (conv => whnf); refine And.intro (by omega) ?_
  (conv => whnf); refine recT (hb) ?_
  conv => whnf
  obtain ⟨L, hLL⟩ : ∃ L, L = (st.take D).drop r := ⟨_, rfl⟩
  have hLl : L.length = a := by rw [hLL]; simp; omega
  rw [← hrr, ← hLL] at h64 hD2
  refine ⟨fun m2 ρ H1 => ∃ j : Nat, j + m2 = a ∧ H1 = [.arr 1 (iC st), .arr 6 [nodC n]] ∧ Sv 59 [(0, .list x 6 (mC nodC e)), (3, .sl 0 st.length 0 D), (6, .int .i64 r), (7, .int .i64 (hgt (L.take j))), (13, .list x 6 (mC nodC e)), (14, .int .i64 e.length), (15, .int .i64 k), (36, .sl 0 st.length r a), (37, .int .i64 a), (38, .int .i64 j)] ρ, a, [], ?_, ?_⟩
  ·exact ⟨0, by omega, rfl, Sv.intro rfl ⟨rfl, rfl, rfl, rfl, rfl, rfl, rfl, by rw [show 0 + ((r : Int)).toNat = r by omega, show D - ((r : Int)).toNat = a by omega]; rfl, intEq (by omega), rfl, trivial⟩⟩
  rintro m2 ρ H1 ⟨j, hj, rfl, d2, rfl⟩
  (conv => whnf); refine recA (fun hlt2 => ?_) (fun hlt2 => ?_)
  ·simp at hlt2
   (conv => whnf); refine recT (hb) ?_
   (conv => whnf); refine And.intro (by omega) ?_
   (conv => whnf); refine recT (hb) ?_
   obtain ⟨y, hy⟩ : ∃ y, L[j]? = some y := ⟨_, List.getElem?_eq_getElem (by omega)⟩
   have hym : y ∈ L := List.mem_of_getElem? hy
   have hy1 := hgt_mem L y hym
   have hy2 : 1 ≤ y := hpos y (by rw [hLL] at hym; exact List.mem_of_mem_take (List.mem_of_mem_drop hym))
   have hg : (iC st)[r + ((j : Nat) : Int).toNat]? = some [.int .i64 y] := by
    rw [hLL, List.getElem?_drop, List.getElem?_take] at hy
    split at hy
    ·rw [iC, List.getElem?_map, show ((j : Int)).toNat = j from rfl, hy]; rfl
    ·cases hy
   (conv => whnf); refine recO (hg) ?_
   conv => whnf
   refine ⟨m2 - 1, by omega, Gp.keep rfl ?_ fun ρ1 hh => ⟨j + 1, by omega, rfl, hh⟩⟩
   refine ⟨rfl, rfl, rfl, intEq ?_, rfl, rfl, rfl, rfl, rfl, intEq (nx1 (by omega)), trivial⟩
   rw [take_succ' hy, hgt_snoc, wrapI _ (by omega) (by omega)]
   generalize hgt (L.take j) = z
   split <;> omega
  ·simp at hlt2
   obtain rfl : j = a := by omega
   rw [show L.take j = L from List.take_of_length_le (by omega)]
   obtain ⟨h, hhh⟩ : ∃ h, h = hgt L := ⟨_, rfl⟩
   have hh1 := hgt_pos L
   rw [← hhh] at hD2 h64 hh1
   rw [← hhh]
   (conv => whnf); refine recF (by simpa using h64) ?_
   (conv => whnf); refine recT (hb) ?_
   (conv => whnf); refine And.intro (by omega) ?_
   (conv => whnf); refine recT (hb) ?_
   obtain ⟨q1, q2, q3⟩ := stP_take (show r ≤ D by omega) hDl h
   have hpos2 : ∀ y ∈ stP st r h, 1 ≤ y := fun y hy => by
    unfold stP at hy
    split at hy
    ·simp only [List.mem_append, List.mem_singleton] at hy
     rcases hy with (hy | rfl) | hy
     ·exact hpos y (List.mem_of_mem_take hy)
     ·exact hh1
     ·exact hpos y (List.mem_of_mem_drop hy)
    ·simp only [List.mem_append, List.mem_singleton] at hy
     rcases hy with hy | rfl
     ·exact hpos y hy
     ·exact hh1
   (conv => whnf); refine recA (fun hfit => ?_) (fun hfit => ?_)
   ·replace hfit : (Nat.ble (0 + 0 + (((r : Nat) : Int).toNat - 0) + 1) (iC st).length && true) = true := hfit
    rw [hn, Bool.and_true, Nat.ble_eq] at hfit
    have hfit2 : r + 1 ≤ st.length := by omega
    have hcc : (iC st).take (0 + 0 + (((r : Nat) : Int).toNat - 0)) ++ [[AVal.int .i64 h]] ++ (iC st).drop (0 + 0 + (((r : Nat) : Int).toNat - 0) + 1) = iC (stP st r h) := by
     rw [show 0 + 0 + (((r : Nat) : Int).toNat - 0) = r by omega, stP, if_pos hfit2]; simp [iC, List.map_take, List.map_drop]
    have hll : (stP st r h).length = st.length := by rw [stP, if_pos hfit2]; simp; omega
    conv => whnf
    refine ⟨m - 1, by omega, Gp.cut (H := [.arr 1 (iC (stP st r h))]) (by rw [← hcc]; rfl) ⟨lowP (pureEs_iC _), trivial⟩ rfl rfl ?_ fun ρ1 hh => ⟨k + 1, stP st r h, r + 1, by omega, by rw [q1]; exact hD2, by omega, by omega, hpos2, rfl, hh⟩⟩
    exact ⟨rfl, by rw [hll, show r + 1 = ((r : Nat) : Int).toNat - 0 + 1 by omega]; rfl, rfl, rfl, intEq (nx1 (by omega)), trivial⟩
   ·replace hfit : (Nat.ble (0 + 0 + (((r : Nat) : Int).toNat - 0) + 1) (iC st).length && true) = false := hfit
    have hf2 : st.length < r + 1 := by
     rw [Bool.and_true, hn] at hfit
     exact Nat.lt_of_not_le fun hc => by rw [Nat.ble_eq_true_of_le (show 0 + 0 + (((r : Nat) : Int).toNat - 0) + 1 ≤ st.length by omega)] at hfit; cases hfit
    (conv => whnf); refine recT (hb) ?_
    (conv => whnf); refine And.intro (⟨by simp [roomB]; omega, by simp [roomB]; omega, rfl, by rw [hn]; omega⟩) ?_
    conv => whnf
    have hss : stP st r h = st ++ [h] := by rw [stP, if_neg (by omega)]
    have hcc : iC st ++ [[AVal.int IntKind.i64 h]] = iC (stP st r h) := by rw [hss]; simp [iC]
    have hll : (stP st r h).length = r + 1 := by rw [hss]; simp; omega
    have hcl : (iC st ++ [[AVal.int IntKind.i64 h]]).length = r + 1 := by rw [hcc, iC_length, hll]
    refine ⟨m - 1, by omega, Gp.cut (H := [.arr 1 (iC (stP st r h))]) (by rw [← hcc]; rfl) ⟨lowP (pureEs_iC _), trivial⟩ rfl rfl ?_ fun ρ1 hh => ⟨k + 1, stP st r h, r + 1, by omega, by rw [q1]; exact hD2, by omega, by omega, hpos2, rfl, hh⟩⟩
    exact ⟨rfl, slEq (by rw [hcl, hll]) hcl, rfl, rfl, intEq (nx1 (by omega)), trivial⟩
 ·simp at hlt
  have hk2 : k = e.length := by omega
  subst hk2
  rw [List.drop_length] at hD
  have hD1 : st.take D = [hf] := Option.some.inj hD
  have hlD : (st.take D).length = D := by simp; omega
  obtain rfl : D = 1 := by rw [hD1] at hlD; exact hlD.symm
  (conv => whnf); refine recT (hb) ?_
  conv => whnf
  exact .closed _ rfl
end Go.AW

namespace Go.AW
variable [Draws]
attribute [local irreducible] ACalls CallE CallS Gp lpI
set_option maxRecDepth 100000
set_option maxHeartbeats 8000000
theorem alone_m [Gls] {body : List Nod} (hbl : body.length ≤ 256) {hf : Int} (hs : stk fH body [] = some [hf]) (hcol : ∀ n ∈ body, n.op = 1 → parN.any (eqS n.name) = true) (H : List AObj) :
  ACalls pr 42 [.agg (mcC body)] H (fun r H' => r = .int .i64 0 ∧ H' = H) := by
 refine ACalls.pure rfl (acalls_of_body k42.has ?_)
 conv => whnf
 refine lpU _ _ _ _ 10 ?_
 repeat' (first | refine lpS _ _ _ _ ?_ | refine lpE _ _ _ _ ?_ | ((conv => whnf); first | refine ACalls.use (schema_IsName_spec _ _) ?_ | refine ACalls.use ((reserved_t _).a _) ?_ | refine ACalls.use (Contains_spec false [] (by decide) _ _) ?_ | refine ACalls.use (Contains_spec false [bs [120, 97]] (by decide) _ _) ?_ | refine ACalls.use (val_t false body hbl hs _) ?_ | refine recT (by decide) ?_ | refine recF (by decide) ?_ | refine And.intro (by first | exact rfl | decide | omega | ((conv => whnf); exact ⟨by decide, rfl⟩)) ?_))
 conv => whnf
 refine ⟨fun m ρ H1 => ∃ k : Nat, k + m = body.length ∧ H1 = [.arr 3 [mcC body]] ∧ Sv 61 [(1, .ptr 0 1 0 0), (43, .list false 6 (mC nodC body)), (44, .int .i64 body.length), (45, .int .i64 k)] ρ, body.length, [], ?_, ?_⟩
 ·exact ⟨0, Nat.zero_add _, rfl, Sv.intro rfl ⟨rfl, rfl, intEq (by rw [mC_length]), rfl, trivial⟩⟩
 rintro m ρ H1 ⟨k, hk, rfl, d, rfl⟩
 (conv => whnf); refine recA (fun hlt => ?_) (fun hlt => ?_)
 ·simp at hlt
  obtain ⟨n, hnk, hd, hm⟩ := get_drop (l := body) (k := k) (by omega)
  (conv => whnf); refine And.intro (by omega) ?_
  (conv => whnf); refine recO (mC_at hnk) ?_
  by_cases ho : n.op = 1
  ·(conv => whnf); refine recT (by rw [ho]; rfl) ?_
   (conv => whnf); refine ACalls.use (Contains_spec true parN (by decide) n.name _) ?_
   rw [hcol n hm ho]
   conv => whnf
   refine ⟨m - 1, by omega, Gp.cut (H := [.arr 3 [mcC body]]) rfl ⟨rfl, trivial⟩ rfl rfl ?_ fun ρ1 h => ⟨k + 1, by omega, rfl, h⟩⟩
   exact ⟨rfl, rfl, rfl, intEq (nx1 (by omega)), trivial⟩
  ·(conv => whnf); refine recF (by simpa using ho) ?_
   conv => whnf
   refine ⟨m - 1, by omega, Gp.cut (H := [.arr 3 [mcC body]]) rfl ⟨rfl, trivial⟩ rfl rfl ?_ fun ρ1 h => ⟨k + 1, by omega, rfl, h⟩⟩
   exact ⟨rfl, rfl, rfl, intEq (nx1 (by omega)), trivial⟩
 ·conv => whnf
  exact pubI rfl
theorem cyclic_m {body : List Nod} (hbl : body.length ≤ 256) (h21 : ∀ n ∈ body, n.op ≠ 21) :
  ACalls pr 43 [.list true 3 [mcC body], .int .i64 0, .mp 0] [.map []] (fun r H' => r = .bool false ∧ ∃ G, H' = .map [(.int .i64 0, .int .i64 2)] :: G) := by
 refine acalls_of_body k43.has ?_
 repeat ((conv => whnf); refine And.intro (by first | exact rfl | decide | omega) ?_)
 conv => whnf
 refine ⟨fun m ρ H1 => ∃ k : Nat, k + m = body.length ∧ H1 = [.map [(.int .i64 0, .int .i64 1)]] ∧ Sv 44 [(0, .list true 3 [mcC body]), (1, .int .i64 0), (2, .mp 0), (23, .list false 6 (mC nodC body)), (24, .int .i64 body.length), (25, .int .i64 k)] ρ, body.length, [], ?_, ?_⟩
 ·exact ⟨0, Nat.zero_add _, rfl, Sv.intro rfl ⟨rfl, rfl, rfl, rfl, intEq (by rw [mC_length]), rfl, trivial⟩⟩
 rintro m ρ H1 ⟨k, hk, rfl, d, rfl⟩
 (conv => whnf); refine recA (fun hlt => ?_) (fun hlt => ?_)
 ·simp at hlt
  obtain ⟨n, hnk, hd, hm⟩ := get_drop (l := body) (k := k) (by omega)
  have ho := h21 n hm
  (conv => whnf); refine And.intro (by omega) ?_
  (conv => whnf); refine recO (mC_at hnk) ?_
  (conv => whnf); refine recF (by simpa using ho) ?_
  conv => whnf
  refine ⟨m - 1, by omega, Gp.keepL [0] (by decide) ?_ (H1 := [.map [(.int .i64 0, .int .i64 1)]]) ⟨⟨_, rfl, .mp _ rfl⟩, trivial⟩ rfl ?_ fun ρ1 h => ⟨k + 1, by omega, rfl, h⟩⟩
  ·intro j q hj
   match j, hj with
   | 0, hj => exact ⟨rfl, _, rfl, by cases hj; rfl⟩
   | j + 1, hj => cases hj
  ·exact ⟨.closed _ rfl, .closed _ rfl, .keepM 0 0 rfl, .closed _ rfl, .closed _ rfl, pubI (nx1 (by omega)), trivial⟩
 ·conv => whnf
  exact ⟨rfl, [], rfl⟩
theorem valid_m [Gls] {body : List Nod} (hbl : body.length ≤ 256) {hf : Int} (hs : stk fH body [] = some [hf]) (hcol : ∀ n ∈ body, n.op = 1 → parN.any (eqS n.name) = true) (h21 : ∀ n ∈ body, n.op ≠ 21) (H : List AObj) :
  ACalls pr 18 [.list true 3 [mcC body]] H (fun r H' => r = .int .i64 0 ∧ H' = H) := by
 refine ACalls.pure rfl (acalls_of_body k18.has ?_)
 conv => whnf
 refine ⟨fun m ρ H1 => ∃ k : Nat, k + m = 1 ∧ H1 = [] ∧ Sv 72 [(0, .list true 3 [mcC body]), (14, .list true 3 [mcC body]), (15, .int .i64 1), (16, .int .i64 k)] ρ, 1, [], ?_, ?_⟩
 ·exact ⟨0, rfl, rfl, Sv.intro rfl ⟨rfl, rfl, rfl, rfl, trivial⟩⟩
 rintro m ρ H1 ⟨k, hk, rfl, d, rfl⟩
 obtain rfl | rfl : k = 0 ∨ k = 1 := by omega
 ·repeat' (first | refine lpS _ _ _ _ ?_ | refine lpE _ _ _ _ ?_ | ((conv => whnf); first | refine ACalls.use (schema_IsQualified_spec _ (by decide) _) ?_ | refine ACalls.use ((isb_m _).a _) ?_ | refine ACalls.use ((reserved_t _).a _) ?_ | refine ACalls.use (find_m body _) ?_ | refine ACalls.use (alone_m hbl hs hcol _) ?_ | refine recT (by decide) ?_ | refine recF (by decide) ?_ | refine And.intro (by first | exact rfl | decide | omega | ((conv => whnf); exact ⟨by decide, rfl⟩)) ?_))
  conv => whnf
  refine ⟨m - 1, by omega, Gp.cut (H := []) rfl trivial rfl rfl ?_ fun ρ1 h => ⟨1, by omega, rfl, h⟩⟩
  exact ⟨rfl, rfl, rfl, rfl, trivial⟩
 conv => whnf
 refine ⟨fun m ρ H1 => ∃ k : Nat, k + m = 1 ∧ H1 = [] ∧ Sv 72 [(0, .list true 3 [mcC body]), (47, .list true 3 [mcC body]), (48, .int .i64 1), (49, .int .i64 k)] ρ, 1, [], ?_, ?_⟩
 ·exact ⟨0, rfl, rfl, Sv.intro rfl ⟨rfl, rfl, rfl, rfl, trivial⟩⟩
 rintro m ρ H1 ⟨k, hk, rfl, d, rfl⟩
 obtain rfl | rfl : k = 0 ∨ k = 1 := by omega
 ·repeat' (first | refine lpS _ _ _ _ ?_ | refine lpE _ _ _ _ ?_ | ((conv => whnf); first | refine ACalls.use (calls_m false body body (by omega) (fun n hn h => absurd h (h21 n hn)) _) ?_ | refine recT (by decide) ?_ | refine recF (by decide) ?_ | refine And.intro (by first | exact rfl | decide | omega | ((conv => whnf); exact ⟨by decide, rfl⟩)) ?_))
  conv => whnf
  refine ⟨m - 1, by omega, Gp.cut (H := []) rfl trivial rfl rfl ?_ fun ρ1 h => ⟨1, by omega, rfl, h⟩⟩
  exact ⟨rfl, rfl, rfl, rfl, trivial⟩
 conv => whnf
 refine ⟨fun m ρ H1 => ∃ (k : Nat) (kvs : List (AVal × AVal)), k + m = 1 ∧ (k = 0 → kvs = []) ∧ H1 = [.map kvs] ∧ Sv 72 [(0, .list true 3 [mcC body]), (9, .mp 0), (63, .int .i64 1), (64, .int .i64 k)] ρ, 1, [], ?_, ?_⟩
 ·exact ⟨0, [], rfl, fun _ => rfl, rfl, Sv.intro rfl ⟨rfl, rfl, rfl, rfl, trivial⟩⟩
 rintro m ρ H1 ⟨k, kvs, hk, h0, rfl, d, rfl⟩
 obtain rfl | rfl : k = 0 ∨ k = 1 := by omega
 ·obtain rfl := h0 rfl
  (conv => whnf); refine ACalls.mono (cyclic_m hbl h21) ?_
  rintro r H1 ⟨rfl, G, rfl⟩
  conv => whnf
  refine ⟨m - 1, by omega, Gp.some (n := 72) (live := [(0, .list true 3 [mcC body]), (9, .mp 0), (63, .int .i64 1), (64, .int .i64 (1 : Nat))]) (H1 := [.map [(.int .i64 0, .int .i64 2)]]) [0] (by decide) ⟨⟨_, rfl, .mp _ rfl⟩, trivial⟩ rfl ⟨.closed _ rfl, .keepM 0 0 rfl, .closed _ rfl, .closed _ rfl, trivial⟩ fun ρ1 h => ⟨1, [(.int .i64 0, .int .i64 2)], by omega, fun e => absurd e (by decide), rfl, h⟩⟩
 conv => whnf
 exact pubI rfl
end Go.AW

namespace Go.AW
variable [Draws]
attribute [local irreducible] ACalls CallE CallS Gp lpI
set_option maxRecDepth 100000
set_option maxHeartbeats 8000000
noncomputable def exR (a b body : List Nod) (Hh : Int) : AVal := if (sbE a b body).length ≤ 256 ∧ Hh ≤ 64 then .tuple [.list false 6 (mC nodC (sbE a b body)), .int .i64 0] else .tuple [.nil, .int .i64 2]
theorem expand_m [Gls] {a b body : List Nod} {u v hb0 Hh hx : Int} (hal : a.length + b.length + 1 ≤ 256) (hbl : body.length ≤ 256) (ha0 : a ≠ []) (hb0' : b ≠ []) (hxa : 1 ≤ u ∧ u ≤ 64) (hyb : 1 ≤ v ∧ v ≤ 64)
  (hT : stk fTm (a ++ b) [] = some [⟨a, u⟩, ⟨b, v⟩]) (hTb : stk fTm body [] = some [⟨body, hb0⟩]) (hab : ∀ n ∈ a ++ b, Gd n) (hbd : ∀ n ∈ body, Gd n)
  (hgF : stk (gF u v) body [] = some [Hh]) (hcol : ∀ n ∈ body, n.op = 1 → idxOf (eqS n.name) parN 0 = 0 ∨ idxOf (eqS n.name) parN 0 = 1) (hcol2 : ∀ n ∈ body, n.op = 1 → parN.any (eqS n.name) = true) (hH1 : 1 ≤ Hh)
  (hfB : stk fH body [] = some [hb0]) (hfC : stk fHC (a ++ b ++ [callN]) [] = some [hx]) (f : Bool) (H : List AObj) :
  ACalls pr 6 [.list f 6 (mC nodC (a ++ b ++ [callN])), .list true 3 [mcC body]] H (fun r H' => r = exR a b body Hh ∧ H' = H) := by
 have h21 : ∀ n ∈ a ++ b, n.op ≠ 21 := fun n hn => by have := (hab n hn).op; omega
 have h21b : ∀ n ∈ body, n.op ≠ 21 := fun n hn => by have := (hbd n hn).op; omega
 have hlen : (a ++ b ++ [callN]).length ≤ 256 := by simp; omega
 have hex := (expandC hal hbl ha0 hb0' hxa hyb hT hTb (fun n hn => (hab n hn).ar3) h21 (fun n hn => (hbd n hn).ar3) h21b hgF hcol hH1 f).gp (Q := fun r H' => r = (if (sbE a b body).length ≤ 256 ∧ Hh ≤ 64 then .tuple [.agg (trC ⟨sbE a b body, Hh⟩), .bool true] else .tuple [.agg [.nil, .int .i64 0], .bool false]) ∧ ∃ kvs, H' = [.map kvs, xO body]) (by
  rintro r H' ⟨rfl, kvs, G, hk, rfl⟩
  refine Gp.res (r' := (if (sbE a b body).length ≤ 256 ∧ Hh ≤ 64 then .tuple [.agg (trC ⟨sbE a b body, Hh⟩), .bool true] else .tuple [.agg [.nil, .int .i64 0], .bool false])) (H1 := [.map kvs, xO body]) [0, 1] (by decide) ?_ ⟨⟨_, rfl, .mpc _ hk⟩, ⟨_, rfl, obp2 ⟨.closed _ rfl, rfl⟩ ⟨.keepM 0 0 rfl, rfl⟩⟩, trivial⟩ ?_ ⟨_, rfl, rfl, kvs, rfl⟩
  ·intro k n hk
   match k, hk with
   | 0, hk => exact ⟨rfl, _, rfl, by cases hk; rfl⟩
   | 1, hk => exact ⟨rfl, _, rfl, by cases hk; rfl⟩
   | k + 2, hk => cases hk
  ·by_cases hS : (sbE a b body).length ≤ 256 ∧ Hh ≤ 64
   ·rw [if_pos hS]; exact pubT2 (.closed _ rfl) (.closed _ rfl)
   ·rw [if_neg hS]; exact pubT2 (.closed _ rfl) (.closed _ rfl))
 refine ACalls.pure rfl (acalls_of_body k6.has ?_)
 (conv => whnf); refine ACalls.use (valid_m hbl hfB hcol2 h21b _) ?_
 (conv => whnf); refine ACalls.use (valC_t f (a ++ b ++ [callN]) hlen hfC _) ?_
 (conv => whnf); refine ACalls.use (calls_m f body (a ++ b ++ [callN]) (by omega) (fun n hn h => by
  rcases List.mem_append.1 hn with hn | hn
  ·exact absurd h (h21 n hn)
  ·exact List.mem_singleton.1 hn) _) ?_
 (conv => whnf); refine ACalls.mono hex ?_
 rintro r H1 ⟨rfl, kvs, rfl⟩
 unfold exR
 by_cases hS : (sbE a b body).length ≤ 256 ∧ Hh ≤ 64
 ·rw [if_pos hS, if_pos hS]
  conv => whnf
  exact pubT2 (.closed _ rfl) (.closed _ rfl)
 ·rw [if_neg hS, if_neg hS]
  conv => whnf
  exact pubT2 (.closed _ rfl) (.closed _ rfl)
end Go.AW

namespace Go.AW
variable [Draws]
attribute [local irreducible] ACalls CallE CallS Gp lpI
set_option maxRecDepth 20000
set_option maxHeartbeats 8000000
noncomputable def kLaw := kd 3 [100013] Proofs.Tryz.f3 Proofs.Tryz.func3
theorem and3M (a : Int) : and64 a 3 = a % 4 := and64_mask a 2 (by omega)
theorem and7M (a : Int) : and64 a 7 = a % 8 := and64_mask a 3 (by omega)
theorem stk_out {α : Type} {f : Nod → List α → Option α} {P : α → Prop} (hf : ∀ n l x, f n l = some x → P x) : ∀ (e : List Nod) (s t : List α), stk f e s = some t → ∀ y ∈ t, y ∈ s ∨ P y
 | [], s, t, h, y, hy => by cases h; exact .inl hy
 | n :: e, s, t, h, y, hy => by
  rw [stk] at h
  split at h
  case isFalse => cases h
  cases hx : f n (s.drop (s.length - (arN n).toNat)) with
  | none => rw [hx] at h; cases h
  | some x =>
   rw [hx] at h
   rcases stk_out hf e _ t h y hy with h1 | h1
   ·rcases List.mem_append.1 h1 with h1 | h1
    ·exact .inl (List.mem_of_mem_take h1)
    ·cases List.mem_singleton.1 h1
     exact .inr (hf _ _ _ hx)
   ·exact .inr h1
theorem stk_cong {α : Type} {f g : Nod → List α → Option α} (hf : ∀ n l x, f n l = some x → g n l = some x) : ∀ (e : List Nod) (s t : List α), stk f e s = some t → stk g e s = some t
 | [], _, _, h => h
 | n :: e, s, t, h => by
  rw [stk] at h ⊢
  split at h
  case isFalse => cases h
  rename_i hle
  rw [if_pos hle]
  cases hx : f n (s.drop (s.length - (arN n).toNat)) with
  | none => rw [hx] at h; cases h
  | some x =>
   rw [hx] at h
   rw [hf _ _ _ hx]
   exact stk_cong hf e _ t h
theorem fH_fHC (n : Nod) (l : List Int) (x : Int) (h : fH n l = some x) : fHC n l = some x := by
 obtain ⟨h1, h2, rfl⟩ := fH_inv h
 unfold fHC
 rw [if_pos ⟨.inl h1, h2⟩]
theorem rel_raw : ACalls pr 4 [] [] (fun r H' => r = .sl 0 3 0 3 ∧ H' = [.arr 4 [[.str ordN, .list true 3 (cC ordC), .nil, .nil], [.str (bs [99, 117, 115, 116, 111, 109, 101, 114, 115]), .list true 3 (cC cusC), .nil, .nil], [.str (bs [114, 101, 116, 117, 114, 110, 115]), .list true 3 (cC ordC), .nil, .nil]]]) := by
 refine acalls_of_body k4.has ?_
 conv => whnf
 exact ⟨rfl, rfl⟩
theorem law_m [Gls] (hk : ∀ H, ACalls pr 7 [] H (fun r H' => r = .bool true ∧ H' = H)) (g1 g2 : Bool) (l m : List Int) (n : Int) :
  ACalls pr 3 [.list g1 1 (iC l), .list g2 1 (iC m), .int .i64 n] [] (fun r _ => r = .bool true) := by
 have b15 : ∀ x : Int, 0 ≤ and64 x 15 ∧ and64 x 15 ≤ 15 := fun x => by rw [and_15]; omega
 have b3 : ∀ x : Int, 0 ≤ and64 x 3 ∧ and64 x 3 ≤ 3 := fun x => by rw [and3M]; omega
 have b7 : ∀ x : Int, 0 ≤ and64 x 7 ∧ and64 x 7 ≤ 7 := fun x => by rw [and7M]; omega
 have hkb4 : 1 ≤ IntKind.i64.wrap (1 + and64 n 3) ∧ IntKind.i64.wrap (1 + and64 n 3) ≤ 4 := by have := b3 n; rw [wrapI _ (by omega) (by omega)]; omega
 have hkd4 : 1 ≤ IntKind.i64.wrap (1 + and64 (n.fdiv (2 ^ 2)) 3) ∧ IntKind.i64.wrap (1 + and64 (n.fdiv (2 ^ 2)) 3) ≤ 4 := by have := b3 (n.fdiv (2 ^ 2)); rw [wrapI _ (by omega) (by omega)]; omega
 have b20 : ∀ x : Int, 0 ≤ IntKind.i64.wrap (and64 x 15 + 20) ∧ IntKind.i64.wrap (and64 x 15 + 20) ≤ 40 := fun x => by
  have := b15 x
  rw [wrapI _ (by omega) (by omega)]; omega
 obtain ⟨_, ⟨body, rfl, hB⟩, hBp, hBc⟩ := expr_t true g1 (parCz hkb4) (parOk hkb4).vd l (IntKind.i64.wrap (1 + and64 (n.fdiv (2 ^ 2)) 3)) (and64 (n.fdiv (2 ^ 4)) 15) hkd4 (by have := b15 (n.fdiv (2 ^ 4)); omega)
 obtain ⟨_, ⟨a, rfl, hA⟩, hAp, hAc⟩ := expr_t2 true g2 oCz oOk.vd m 2 (and64 (n.fdiv (2 ^ 8)) 15) (by decide) (by have := b15 (n.fdiv (2 ^ 8)); omega)
 obtain ⟨_, ⟨b, rfl, hC⟩, hCp, hCc⟩ := expr_t2 true g2 oCz oOk.vd m (IntKind.i64.wrap (1 + and64 n 3)) (IntKind.i64.wrap (and64 (n.fdiv (2 ^ 12)) 15 + 20)) hkb4 (by have := b20 (n.fdiv (2 ^ 12)); omega)
 have hBl := hB.le
 have hAl := hA.le
 have hCl := hC.le
 obtain ⟨kf, tB, hkf, w, ⟨hw1, hw2⟩, sB⟩ := hB.ety4 (by decide)
 obtain ⟨ka, tA, hka, x, ⟨hx1, hx2⟩, sA⟩ := hA.ety4 (by decide)
 obtain ⟨kbk, tC, hkbk, y, ⟨hy1, hy2⟩, sC'⟩ := hC.ety4 (by decide)
 have ha0 : a ≠ [] := by rintro rfl; have := tA.kk; cases this
 have hb0 : b ≠ [] := by rintro rfl; have := tC.kk; cases this
 obtain ⟨Hh, hHh⟩ := (Lv.of tB.kk).total (gF x y) (fun n l => by unfold gF; (repeat' split) <;> exact ⟨_, rfl⟩)
 have hgF : stk (gF x y) body [] = some [Hh] := hHh []
 have hH1 : 1 ≤ Hh := by
  rcases stk_out (P := fun z : Int => 1 ≤ z) (fun n l z hz => by
   unfold gF at hz
   split at hz
   ·cases hz; exact hx1
   ·split at hz
    ·cases hz; exact hy1
    ·cases hz; exact hgt_pos _) body [] [Hh] hgF Hh (List.mem_singleton.2 rfl) with h | h
  ·cases h
  ·exact h
 have hcl : ∀ n ∈ body, n.op = 1 → (n.name = bs [120, 97] ∧ idxOf (eqS n.name) parN 0 = 0) ∨ (n.name = bs [120, 98] ∧ idxOf (eqS n.name) parN 0 = 1) := fun n hn ho => by
  obtain ⟨l, k, hk⟩ := stk_nodes0 body _ _ tB.kk n hn
  rcases par_fK ho hk with h | h
  ·exact .inl ⟨h.1, h.2.1⟩
  ·exact .inr ⟨h.1, h.2.1⟩
 have hfC : stk fHC (a ++ b ++ [callN]) [] = some [hgt [x, y]] := by
  have e1 : stk fHC a [] = some [x] := stk_cong fH_fHC _ _ _ sA
  have e2 : stk fHC b [] = some [y] := stk_cong fH_fHC _ _ _ sC'
  have e3 : stk fHC (a ++ b) [] = some [x, y] := by
   rw [stk_append, e1]
   exact stk_frame fHC [x] b [] [y] e2
  rw [stk_append, e3]
  have e4 : fHC callN [x, y] = some (hgt [x, y]) := by
   unfold fHC
   rw [if_pos ⟨.inr rfl, by show max (max 1 (1 + x)) (1 + y) ≤ 64; omega⟩]
  show stk fHC [callN] [x, y] = _
  rw [stk, if_pos (show (arN callN).toNat ≤ [x, y].length from (by decide : (2 : Nat) ≤ 2))]
  show (fHC callN [x, y]).bind _ = _
  rw [e4]; rfl
 have hexp := fun H => expand_m (a := a) (b := b) (body := body) (u := x) (v := y) (hb0 := w) (Hh := Hh) (by omega) (by omega) ha0 hb0 ⟨hx1, by omega⟩ ⟨hy1, by omega⟩ (fTm_app (fTm_self (fHu_of _ _ _ sA) (by omega) (by omega)) (fTm_self (fHu_of _ _ _ sC') (by omega) (by omega))) (fTm_self (fHu_of _ _ _ sB) (by omega) (by omega))
  (fun n hn => by rcases List.mem_append.1 hn with h | h; exact tA.gd n h; exact tC.gd n h) tB.gd hgF (fun n hn ho => (hcl n hn ho).elim (fun h => .inl h.2) fun h => .inr h.2) (fun n hn ho => by rcases hcl n hn ho with ⟨h, _⟩ | ⟨h, _⟩ <;> rw [h] <;> decide) hH1 sB hfC false H
 refine acalls_of_body kLaw.has ?_
 conv => whnf
 refine ACalls.mono rel_raw ?_
 rintro r H1 ⟨rfl, rfl⟩
 repeat ((conv => whnf); refine And.intro (by decide) ?_)
 (conv => whnf); refine ACalls.use (ACalls.frz1 rfl hBc rfl hBp) ?_
 repeat ((conv => whnf); refine And.intro (by decide) ?_)
 (conv => whnf); refine ACalls.use (ACalls.frz1 rfl hAc rfl hAp) ?_
 repeat ((conv => whnf); refine And.intro (by decide) ?_)
 (conv => whnf); refine ACalls.use (ACalls.frz1 rfl hCc rfl hCp) ?_
 have r1 : Nat.beq (mC nodC a).length (mC nodC a).length = true := Nat.beq_refl _
 have r2 : Nat.beq (mC nodC a ++ mC nodC b).length (mC nodC a ++ mC nodC b).length = true := Nat.beq_refl _
 (conv => whnf); refine And.intro (⟨by simp [roomB]; omega, by simp [roomB]; omega⟩) ?_
 (conv => whnf); refine recT r1 ?_
 (conv => whnf); refine And.intro (⟨by simp [roomB]; omega, by simp [roomB]; omega, rfl, rfl⟩) ?_
 (conv => whnf); refine recT r2 ?_
 (conv => whnf); refine And.intro (⟨by simp [roomB]; omega, by simp [roomB]; omega, rfl, rfl⟩) ?_
 conv => whnf
 have eC : mC nodC a ++ mC nodC b ++ mC nodC [callN] = mC nodC (a ++ b ++ [callN]) := by rw [mC_append, mC_append]
 have pC : Pub [AObj.arr 4 [[.str ordN, .list true 3 (cC ordC), .nil, .nil], [.str (bs [99, 117, 115, 116, 111, 109, 101, 114, 115]), .list true 3 (cC cusC), .nil, .nil], [.str (bs [114, 101, 116, 117, 114, 110, 115]), .list true 3 (cC ordC), .nil, .nil]], .arr 6 (mC nodC a ++ mC nodC b ++ mC nodC [callN])] 0 [] (.sl 1 (mC nodC a ++ mC nodC b ++ mC nodC [callN]).length 0 (mC nodC a ++ mC nodC b ++ mC nodC [callN]).length) (.list false 6 (mC nodC (a ++ b ++ [callN]))) := by
  rw [eC]
  exact pubFI (by simp) rfl rfl rfl (mC_pure nod_pure _)
 refine .mk (Gp.none (n := 181) (live := [(1, .list g2 1 (iC m)), (2, .int .i64 n), (7, .list true 3 (cC ordC)), (8, .list true 3 (cC (parC (IntKind.i64.wrap (1 + and64 n 3))))), (9, .list false 6 (mC nodC body)), (10, .list false 6 (mC nodC a)), (11, .list false 6 (mC nodC b)), (12, .list true 3 [mcC body]), (13, .list false 6 (mC nodC (a ++ b ++ [callN])))]) rfl ⟨.closed _ rfl, .closed _ rfl, .closed _ rfl, .closed _ rfl, .closed _ rfl, .closed _ rfl, .closed _ rfl, .closed _ rfl, pC, trivial⟩ ?_)
 rintro ρ ⟨dd, rfl⟩
 (conv => whnf); refine ACalls.use (hexp _) ?_
 unfold exR
 by_cases hS : (sbE a b body).length ≤ 256 ∧ Hh ≤ 64
 case neg =>
  rw [if_neg hS]
  (conv => whnf); refine ACalls.use (hk _) ?_
  conv => whnf
 rw [if_pos hS]
 have hrow := oRow m (and64 (n.fdiv (2 ^ 16)) 7)
 have hvk := ord_vk hrow
 repeat ((conv => whnf); refine And.intro (by decide) ?_)
 (conv => whnf); refine ACalls.use (Row_frz true g2 ordC m (and64 (n.fdiv (2 ^ 16)) 7) (by decide) (by have := b7 (n.fdiv (2 ^ 16)); omega) _) ?_
 (conv => whnf); refine ACalls.use (zones_t.a _) ?_
 (conv => whnf); refine ACalls.use (eval_t false true false oOk zsV_ok tA hrow _) ?_
 (conv => whnf); refine ACalls.use (zones_t.a _) ?_
 (conv => whnf); refine ACalls.use (eval_t false true false oOk zsV_ok tC hrow _) ?_
 (conv => whnf); refine ACalls.use (zones_t.a _) ?_
 (conv => whnf); refine ACalls.use ((type9_t false true false tA.len sA tA.gd (by decide) oOk.vd zsV_ok (fun s hs => zsV_has s hs) tA.kk).a _) ?_
 (conv => whnf); refine ACalls.use (zones_t.a _) ?_
 (conv => whnf); refine ACalls.use ((type9_t false true false tC.len sC' tC.gd (by decide) oOk.vd zsV_ok (fun s hs => zsV_has s hs) tC.kk).a _) ?_
 by_cases hka0 : ka.1 = 0
 ·(conv => whnf); refine recT (by rw [hka0]; rfl) ?_
  (conv => whnf); refine ACalls.use (hk _) ?_
  conv => whnf
 (conv => whnf); refine recF (by simpa using hka0) ?_
 by_cases hkb0 : kbk.1 = 0
 ·(conv => whnf); refine recT (by rw [hkb0]; rfl) ?_
  (conv => whnf); refine ACalls.use (hk _) ?_
  conv => whnf
 (conv => whnf); refine recF (by simpa using hkb0) ?_
 have hka2 : ka.1 = 2 := hka.resolve_right hka0
 have hkb2 : kbk.1 = IntKind.i64.wrap (1 + and64 n 3) := hkbk.resolve_right hkb0
 obtain ⟨ke, hke, tE⟩ := ety_sub tA tC tB hka2 hkb2 sA sC' hgF hS.2 hS.1
 have vA := eval_vk zsV_ok (m := mpR (ordC.zip (rowC ordC m (and64 (n.fdiv (2 ^ 16)) 7)))) tA (fun n hn ho l k hk => hvk n l k ho hk)
 have vB := eval_vk zsV_ok (m := mpR (ordC.zip (rowC ordC m (and64 (n.fdiv (2 ^ 16)) 7)))) tC (fun n hn ho l k hk => hvk n l k ho hk)
 rw [hka2] at vA
 rw [hkb2] at vB
 have hsub := eval_sub (m := mpR (ordC.zip (rowC ordC m (and64 (n.fdiv (2 ^ 16)) 7)))) tA tC tB
 (conv => whnf); refine ACalls.use (zones_t.a _) ?_
 (conv => whnf); refine ACalls.use (eval_t false true false oOk zsV_ok tE hrow _) ?_
 (conv => whnf); refine ⟨_, zones_t.a _, ?_⟩
 (conv => whnf); refine ⟨_, eval_t false true true (parOk hkb4) zsV_ok tB (chk_par hkb4 vA vB) _, ?_⟩
 rw [hsub]
 repeat ((conv => whnf); refine And.intro (by first | exact rfl | decide | ((conv => whnf); done) | ((conv => whnf); exact ⟨_, zones_t.a _, rfl⟩) | ((conv => whnf); exact zones_t.a _) | ((conv => whnf); exact ⟨_, eval_t false true true (parOk hkb4) zsV_ok tB (chk_par hkb4 vA vB) _, rfl⟩) | ((conv => whnf); exact eval_t false true true (parOk hkb4) zsV_ok tB (chk_par hkb4 vA vB) _)) ?_)
 (conv => whnf); refine recT (by simp) ?_
 (conv => whnf); refine ACalls.use (hk _) ?_
 conv => whnf
end Go.AW

namespace Go.AW
set_option maxRecDepth 100000
noncomputable def k86 := kd 86 [] Proofs.Tryz.f86 Proofs.Tryz.func86
noncomputable def k270 := kd 270 [] Proofs.Tryz.f270 Proofs.Tryz.func270
noncomputable def k309 := kd 309 [29] Proofs.Tryz.f309 Proofs.Tryz.func309
end Go.AW

namespace Go.AW
variable [Draws]
attribute [local irreducible] ACalls CallE CallS Gp lpI
set_option maxRecDepth 100000
set_option maxHeartbeats 4000000
def tkR (k : Int) (s : ByteArray) (n a : Int) : List AVal := [.int .i64 k, .str s, .int .i64 n, .int .i64 a]
def oneR (k : Int) (s : ByteArray) (n l : Int) : AVal := .tuple [.agg (tkR k s n 0), .int .i64 l, .int .i64 0]
theorem one_from [Gls] (H : List AObj) : ACalls pr 84 [.str (bs [102, 114, 111, 109, 32, 111, 114, 100, 101, 114, 115, 32, 124, 32, 119, 104, 101, 114, 101, 32, 105, 100, 32, 62, 32, 48])] H (fun r H' => r = oneR 1 (bs [102, 114, 111, 109]) 0 4 ∧ H' = H) := by
 refine ACalls.pure rfl (acalls_of_body k84.has ?_)
 repeat' (first | refine lpS _ _ _ _ ?_ | refine lpE _ _ _ _ ?_ | ((conv => whnf); first | exact .closed _ rfl | exact pub3 (.closed _ rfl) (.closed _ rfl) (.closed _ rfl) | exact ⟨rfl, rfl⟩ | refine recO Gls.sy ?_ | apply ceA | refine acalls_of_body k122.has ?_ | refine acalls_of_body k124.has ?_ | refine acalls_of_body k123.has ?_ | refine acalls_of_body k155.has ?_ | refine acalls_of_body k125.has ?_ | refine acalls_of_body k128.has ?_ | refine acalls_of_body k158.has ?_ | refine recT (by decide) ?_ | refine recF (by decide) ?_ | refine And.intro (by first | exact rfl | decide | omega | ((conv => whnf); exact ⟨by decide, rfl⟩)) ?_ | refine lpU _ _ _ _ 60 ?_))
theorem one_orders [Gls] (H : List AObj) : ACalls pr 84 [.str (bs [111, 114, 100, 101, 114, 115, 32, 124, 32, 119, 104, 101, 114, 101, 32, 105, 100, 32, 62, 32, 48])] H (fun r H' => r = oneR 1 (bs [111, 114, 100, 101, 114, 115]) 0 6 ∧ H' = H) := by
 refine ACalls.pure rfl (acalls_of_body k84.has ?_)
 repeat' (first | refine lpS _ _ _ _ ?_ | refine lpE _ _ _ _ ?_ | ((conv => whnf); first | exact .closed _ rfl | exact pub3 (.closed _ rfl) (.closed _ rfl) (.closed _ rfl) | exact ⟨rfl, rfl⟩ | refine recO Gls.sy ?_ | apply ceA | refine acalls_of_body k122.has ?_ | refine acalls_of_body k124.has ?_ | refine acalls_of_body k123.has ?_ | refine acalls_of_body k155.has ?_ | refine acalls_of_body k125.has ?_ | refine acalls_of_body k128.has ?_ | refine acalls_of_body k158.has ?_ | refine recT (by decide) ?_ | refine recF (by decide) ?_ | refine And.intro (by first | exact rfl | decide | omega | ((conv => whnf); exact ⟨by decide, rfl⟩)) ?_ | refine lpU _ _ _ _ 60 ?_))
theorem one_bar [Gls] (H : List AObj) : ACalls pr 84 [.str (bs [124, 32, 119, 104, 101, 114, 101, 32, 105, 100, 32, 62, 32, 48])] H (fun r H' => r = oneR 5 (bs [124]) 0 1 ∧ H' = H) := by
 refine ACalls.pure rfl (acalls_of_body k84.has ?_)
 repeat' (first | refine lpS _ _ _ _ ?_ | refine lpE _ _ _ _ ?_ | ((conv => whnf); first | exact .closed _ rfl | exact pub3 (.closed _ rfl) (.closed _ rfl) (.closed _ rfl) | exact ⟨rfl, rfl⟩ | refine recO Gls.sy ?_ | apply ceA | refine acalls_of_body k122.has ?_ | refine acalls_of_body k124.has ?_ | refine acalls_of_body k123.has ?_ | refine acalls_of_body k155.has ?_ | refine acalls_of_body k125.has ?_ | refine acalls_of_body k128.has ?_ | refine acalls_of_body k158.has ?_ | refine recT (by decide) ?_ | refine recF (by decide) ?_ | refine And.intro (by first | exact rfl | decide | omega | ((conv => whnf); exact ⟨by decide, rfl⟩)) ?_ | refine lpU _ _ _ _ 60 ?_))
theorem one_where [Gls] (H : List AObj) : ACalls pr 84 [.str (bs [119, 104, 101, 114, 101, 32, 105, 100, 32, 62, 32, 48])] H (fun r H' => r = oneR 1 (bs [119, 104, 101, 114, 101]) 0 5 ∧ H' = H) := by
 refine ACalls.pure rfl (acalls_of_body k84.has ?_)
 repeat' (first | refine lpS _ _ _ _ ?_ | refine lpE _ _ _ _ ?_ | ((conv => whnf); first | exact .closed _ rfl | exact pub3 (.closed _ rfl) (.closed _ rfl) (.closed _ rfl) | exact ⟨rfl, rfl⟩ | refine recO Gls.sy ?_ | apply ceA | refine acalls_of_body k122.has ?_ | refine acalls_of_body k124.has ?_ | refine acalls_of_body k123.has ?_ | refine acalls_of_body k155.has ?_ | refine acalls_of_body k125.has ?_ | refine acalls_of_body k128.has ?_ | refine acalls_of_body k158.has ?_ | refine recT (by decide) ?_ | refine recF (by decide) ?_ | refine And.intro (by first | exact rfl | decide | omega | ((conv => whnf); exact ⟨by decide, rfl⟩)) ?_ | refine lpU _ _ _ _ 60 ?_))
theorem one_id [Gls] (H : List AObj) : ACalls pr 84 [.str (bs [105, 100, 32, 62, 32, 48])] H (fun r H' => r = oneR 1 (bs [105, 100]) 0 2 ∧ H' = H) := by
 refine ACalls.pure rfl (acalls_of_body k84.has ?_)
 repeat' (first | refine lpS _ _ _ _ ?_ | refine lpE _ _ _ _ ?_ | ((conv => whnf); first | exact .closed _ rfl | exact pub3 (.closed _ rfl) (.closed _ rfl) (.closed _ rfl) | exact ⟨rfl, rfl⟩ | refine recO Gls.sy ?_ | apply ceA | refine acalls_of_body k122.has ?_ | refine acalls_of_body k124.has ?_ | refine acalls_of_body k123.has ?_ | refine acalls_of_body k155.has ?_ | refine acalls_of_body k125.has ?_ | refine acalls_of_body k128.has ?_ | refine acalls_of_body k158.has ?_ | refine recT (by decide) ?_ | refine recF (by decide) ?_ | refine And.intro (by first | exact rfl | decide | omega | ((conv => whnf); exact ⟨by decide, rfl⟩)) ?_ | refine lpU _ _ _ _ 60 ?_))
theorem one_gt [Gls] (H : List AObj) : ACalls pr 84 [.str (bs [62, 32, 48])] H (fun r H' => r = oneR 5 (bs [62]) 0 1 ∧ H' = H) := by
 refine ACalls.pure rfl (acalls_of_body k84.has ?_)
 repeat' (first | refine lpS _ _ _ _ ?_ | refine lpE _ _ _ _ ?_ | ((conv => whnf); first | exact .closed _ rfl | exact pub3 (.closed _ rfl) (.closed _ rfl) (.closed _ rfl) | exact ⟨rfl, rfl⟩ | refine recO Gls.sy ?_ | apply ceA | refine acalls_of_body k122.has ?_ | refine acalls_of_body k124.has ?_ | refine acalls_of_body k123.has ?_ | refine acalls_of_body k155.has ?_ | refine acalls_of_body k125.has ?_ | refine acalls_of_body k128.has ?_ | refine acalls_of_body k158.has ?_ | refine recT (by decide) ?_ | refine recF (by decide) ?_ | refine And.intro (by first | exact rfl | decide | omega | ((conv => whnf); exact ⟨by decide, rfl⟩)) ?_ | refine lpU _ _ _ _ 60 ?_))
theorem one_0 [Gls] (H : List AObj) : ACalls pr 84 [.str (bs [48])] H (fun r H' => r = oneR 2 (bs []) 0 1 ∧ H' = H) := by
 refine ACalls.pure rfl (acalls_of_body k84.has ?_)
 repeat' (first | refine lpS _ _ _ _ ?_ | refine lpE _ _ _ _ ?_ | ((conv => whnf); first | exact .closed _ rfl | exact pub3 (.closed _ rfl) (.closed _ rfl) (.closed _ rfl) | exact ⟨rfl, rfl⟩ | refine recO Gls.sy ?_ | apply ceA | refine acalls_of_body k122.has ?_ | refine acalls_of_body k124.has ?_ | refine acalls_of_body k123.has ?_ | refine acalls_of_body k155.has ?_ | refine acalls_of_body k125.has ?_ | refine acalls_of_body k128.has ?_ | refine acalls_of_body k158.has ?_ | refine recT (by decide) ?_ | refine recF (by decide) ?_ | refine And.intro (by first | exact rfl | decide | omega | ((conv => whnf); exact ⟨by decide, rfl⟩)) ?_ | refine lpU _ _ _ _ 60 ?_))
end Go.AW

namespace Go.AW
variable [Draws]
attribute [local irreducible] ACalls CallE CallS Gp lpI
set_option maxRecDepth 100000
set_option maxHeartbeats 4000000
def kTk : List (List AVal) := [tkR 1 (bs [102, 114, 111, 109]) 0 0, tkR 1 (bs [111, 114, 100, 101, 114, 115]) 0 5, tkR 5 (bs [124]) 0 12, tkR 1 (bs [119, 104, 101, 114, 101]) 0 14, tkR 1 (bs [105, 100]) 0 20, tkR 5 (bs [62]) 0 23, tkR 2 (bs []) 0 25, tkR 0 (bs []) 0 26]
def kTx : ByteArray := bs [102, 114, 111, 109, 32, 111, 114, 100, 101, 114, 115, 32, 124, 32, 119, 104, 101, 114, 101, 32, 105, 100, 32, 62, 32, 48]
theorem split_t [Gls] (H : List AObj) : ACalls pr 48 [.str kTx] H (fun r H' => r = .tuple [.list false 4 kTk, .int .i64 0, .int .i64 0] ∧ H' = H) := by
 refine ACalls.pure rfl (acalls_of_body k48.has ?_)
 repeat' (first | refine lpS _ _ _ _ ?_ | refine lpE _ _ _ _ ?_ | ((conv => whnf); first | exact pub3 (.frz _ _ _ _ _ _ rfl rfl rfl (by simp)) (.closed _ rfl) (.closed _ rfl) | refine usQ (args' := [.str (bs [102, 114, 111, 109, 32, 111, 114, 100, 101, 114, 115, 32, 124, 32, 119, 104, 101, 114, 101, 32, 105, 100, 32, 62, 32, 48])]) (by exact rfl) (one_from _) ?_ | refine usQ (args' := [.str (bs [111, 114, 100, 101, 114, 115, 32, 124, 32, 119, 104, 101, 114, 101, 32, 105, 100, 32, 62, 32, 48])]) (by exact rfl) (one_orders _) ?_ | refine usQ (args' := [.str (bs [124, 32, 119, 104, 101, 114, 101, 32, 105, 100, 32, 62, 32, 48])]) (by exact rfl) (one_bar _) ?_ | refine usQ (args' := [.str (bs [119, 104, 101, 114, 101, 32, 105, 100, 32, 62, 32, 48])]) (by exact rfl) (one_where _) ?_ | refine usQ (args' := [.str (bs [105, 100, 32, 62, 32, 48])]) (by exact rfl) (one_id _) ?_ | refine usQ (args' := [.str (bs [62, 32, 48])]) (by exact rfl) (one_gt _) ?_ | refine usQ (args' := [.str (bs [48])]) (by exact rfl) (one_0 _) ?_ | refine recT (by decide) ?_ | refine recF (by decide) ?_ | refine And.intro (by first | exact rfl | decide | omega | ((conv => whnf); exact ⟨by decide, rfl⟩)) ?_ | refine lpU _ _ _ _ 60 ?_))
end Go.AW

namespace Go.AW
variable [Draws]
attribute [local irreducible] ACalls CallE CallS Gp lpI
set_option maxRecDepth 100000
set_option maxHeartbeats 4000000
theorem tval_t [Gls] (H : List AObj) : ACalls pr 85 [.list false 4 kTk] H (fun r H' => r = .int .i64 0 ∧ H' = H) := by
 refine ACalls.pure rfl (acalls_of_body k85.has ?_)
 repeat' (first | refine lpS _ _ _ _ ?_ | refine lpE _ _ _ _ ?_ | ((conv => whnf); first | exact .closed _ rfl | exact ⟨rfl, rfl⟩ | refine recO Gls.sy ?_ | refine ACalls.use (schema_IsQualified_spec _ (by decide) _) ?_ | refine ACalls.use (Contains_spec false symW (by decide) _ _) ?_ | refine acalls_of_body k129.has ?_ | refine recT (by decide) ?_ | refine recF (by decide) ?_ | refine And.intro (by first | exact rfl | decide | omega | ((conv => whnf); exact ⟨by decide, rfl⟩)) ?_ | refine lpU _ _ _ _ 60 ?_))
end Go.AW

namespace Go.AW
variable [Draws]
attribute [local irreducible] ACalls CallE CallS Gp lpI
set_option maxRecDepth 100000
set_option maxHeartbeats 4000000
theorem usH {P : Program} {f : FuncId} {args args' : List AVal} {H H1 : List AObj} {R : AVal} {k : AVal → List AObj → Prop} (e : args = args') (h : ACalls P f args' H (fun r' H' => r' = R ∧ H' = H1)) (hk : k R H1) : ACalls P f args H k := by subst e; exact h.mono (by rintro r H' ⟨rfl, rfl⟩; exact hk)
def pO (a : Int) : AObj := .arr 4 [[.list false 4 kTk, .int .i64 a, .int .i64 0, .int .i64 0]]
theorem pfr {f : FuncId} {args : List AVal} {o o1 : AObj} {R : AVal} (hp : o.clean = true) (hp1 : o1.clean = true) (hn1 : o1.olen = o.olen) (hk : ObP [o1] [0] o1 o1) (ha : args.all AVal.closed = true) (hR : R.closed = true ∨ R = .tuple [])
  (h : ACalls pr f (.ptr 0 1 0 0 :: args) [o] (fun r H' => ∃ G, H' = o1 :: G ∧ Pub H' 0 [0] r R)) {H : List AObj} {id : Nat} (hH : H[id]? = some o) :
  ACalls pr f (.ptr id 1 0 0 :: args) H (fun r H' => r = R ∧ H' = H.set id o1) := by
 have h1 : ACalls pr f (.ptr 0 1 0 0 :: args) [o] (fun r H' => r = R ∧ H' = [o1]) := by
  refine h.gp ?_
  rintro r H' ⟨G, rfl, hpub⟩
  refine Gp.res (r' := R) (H1 := [o1]) [0] (by simp) (keepB_one rfl rfl hn1) ⟨⟨_, rfl, ?_⟩, trivial⟩ hpub ⟨_, rfl, rfl, rfl⟩
  cases o1 with
  | arr n es => exact .same _ _ hp1
  | iter s p => exact .iter s p
  | map kvs => exact .mp kvs hp1
  | bmap _ _ _ => cases hp1
  | mit _ _ _ => cases hp1
 refine h1.fr hH hp hp1 (.pt ?_) (by rcases hR with hR | rfl; exact .closed _ hR; exact .tuple _ _ rfl fun i v r h => by cases h)
 clear h h1
 induction args with
 | nil => exact trivial
 | cons a l ih =>
  rw [List.all_cons, Bool.and_eq_true] at ha
  exact .cl ha.1 (ih ha.2)
def colN (s : ByteArray) : Nod := ⟨1, ⟨0, 0, bs []⟩, s, 0⟩
def cN0 : Nod := ⟨0, ⟨2, 0, bs []⟩, bs [], 0⟩
def e0 : List Nod := [cN0, colN (bs [105, 100]), opN 12]
theorem unary4 [Gls] {H : List AObj} {id : Nat} (hH : H[id]? = some (pO 4)) : ACalls pr 323 [.ptr id 1 0 0] H (fun r H' => r = .list true 6 (mC nodC [colN (bs [105, 100])]) ∧ H' = H.set id (pO 5)) := by
 refine pfr (o := pO 4) (o1 := pO 5) (R := .list true 6 (mC nodC [colN (bs [105, 100])])) rfl rfl rfl (.same _ _ rfl) rfl (.inl rfl) ?_ hH
 refine acalls_of_body k323.has ?_
 repeat' (first | refine lpS _ _ _ _ ?_ | refine lpE _ _ _ _ ?_ | ((conv => whnf); first | exact ⟨_, rfl, .closed _ rfl⟩ | refine ACalls.use ((reserved_t _).a _) ?_ | refine acalls_of_body k308.has ?_ | refine acalls_of_body k339.has ?_ | refine acalls_of_body k338.has ?_ | refine acalls_of_body k340.has ?_ | refine acalls_of_body k346.has ?_ | refine acalls_of_body k349.has ?_ | refine recT (by decide) ?_ | refine recF (by decide) ?_ | refine And.intro (by first | exact rfl | decide | omega | ((conv => whnf); exact ⟨by decide, rfl⟩)) ?_ | refine lpU _ _ _ _ 60 ?_))
theorem unary6 [Gls] {H : List AObj} {id : Nat} (hH : H[id]? = some (pO 6)) : ACalls pr 323 [.ptr id 1 0 0] H (fun r H' => r = .list true 6 (mC nodC [cN0]) ∧ H' = H.set id (pO 7)) := by
 refine pfr (o := pO 6) (o1 := pO 7) (R := .list true 6 (mC nodC [cN0])) rfl rfl rfl (.same _ _ rfl) rfl (.inl rfl) ?_ hH
 refine acalls_of_body k323.has ?_
 repeat' (first | refine lpS _ _ _ _ ?_ | refine lpE _ _ _ _ ?_ | ((conv => whnf); first | exact ⟨_, rfl, .closed _ rfl⟩ | refine ACalls.use ((reserved_t _).a _) ?_ | refine acalls_of_body k308.has ?_ | refine acalls_of_body k339.has ?_ | refine acalls_of_body k338.has ?_ | refine acalls_of_body k340.has ?_ | refine acalls_of_body k341.has ?_ | refine recT (by decide) ?_ | refine recF (by decide) ?_ | refine And.intro (by first | exact rfl | decide | omega | ((conv => whnf); exact ⟨by decide, rfl⟩)) ?_ | refine lpU _ _ _ _ 60 ?_))
theorem compare4 [Gls] {H : List AObj} {id : Nat} (hH : H[id]? = some (pO 4)) : ACalls pr 309 [.ptr id 1 0 0] H (fun r H' => r = .list false 6 (mC nodC e0) ∧ H' = H.set id (pO 7)) := by
 refine pfr (o := pO 4) (o1 := pO 7) (R := .list false 6 (mC nodC e0)) rfl rfl rfl (.same _ _ rfl) rfl (.inl rfl) ?_ hH
 refine acalls_of_body k309.has ?_
 repeat' (first | refine lpS _ _ _ _ ?_ | refine lpE _ _ _ _ ?_ | ((conv => whnf); first | exact ⟨rfl, rfl⟩ | exact ⟨_, rfl, .closed _ rfl⟩ | exact ⟨_, rfl, pubFI (by simp) rfl rfl rfl rfl⟩ | refine usH rfl (unary4 (id := 0) rfl) ?_ | refine usH rfl (unary6 (id := 0) rfl) ?_ | apply ceA | refine acalls_of_body k322.has ?_ | refine acalls_of_body k294.has ?_ | refine acalls_of_body k324.has ?_ | refine recT (by decide) ?_ | refine recF (by decide) ?_ | refine And.intro (by first | exact rfl | decide | omega | ((conv => whnf); exact ⟨by decide, rfl⟩)) ?_ | refine lpU _ _ _ _ 60 ?_))
end Go.AW

namespace Go.AW
variable [Draws]
attribute [local irreducible] ACalls CallE CallS Gp lpI
set_option maxRecDepth 100000
set_option maxHeartbeats 4000000
theorem or4 [Gls] {H : List AObj} {id : Nat} (hH : H[id]? = some (pO 4)) : ACalls pr 270 [.ptr id 1 0 0] H (fun r H' => r = .list false 6 (mC nodC e0) ∧ H' = H.set id (pO 7)) := by
 refine pfr (o := pO 4) (o1 := pO 7) (R := .list false 6 (mC nodC e0)) rfl rfl rfl (.same _ _ rfl) rfl (.inl rfl) ?_ hH
 refine acalls_of_body k270.has ?_
 repeat' (first | refine lpS _ _ _ _ ?_ | refine lpE _ _ _ _ ?_ | ((conv => whnf); first | exact ⟨rfl, rfl⟩ | exact ⟨_, rfl, .closed _ rfl⟩ | exact ⟨_, rfl, pubFI (by simp) rfl rfl rfl rfl⟩ | refine usH rfl (compare4 (id := 0) rfl) ?_ | refine acalls_of_body k295.has ?_ | refine acalls_of_body k294.has ?_ | refine acalls_of_body k296.has ?_ | refine acalls_of_body k308.has ?_ | refine recT (by decide) ?_ | refine recF (by decide) ?_ | refine And.intro (by first | exact rfl | decide | omega | ((conv => whnf); exact ⟨by decide, rfl⟩)) ?_ | refine lpU _ _ _ _ 60 ?_))
theorem e0_ex : ExK ordC 1 3 2 e0 := ExK.cmp (op := 12) (k := 2) (by decide) (ExK.cst (v := ⟨2, 0, bs []⟩) (by decide) (.inl rfl)) (ExK.col ordCz (c := ⟨bs [105, 100], 2, false⟩) (List.mem_cons_self ..) rfl) (by decide)
theorem e0_hf : ∃ hf, stk fH e0 [] = some [hf] := by
 obtain ⟨k, _, x⟩ := e0_ex
 obtain ⟨hf, _, _, hh⟩ := x.hh
 exact ⟨hf, hh []⟩
theorem parseAt_t [Gls] (H : List AObj) : ACalls pr 221 [.list false 4 kTk, .int .i64 4] H (fun r H' => r = .tuple [.list false 6 (mC nodC e0), .int .i64 7, .int .i64 0] ∧ H' = H) := by
 obtain ⟨hf, hh⟩ := e0_hf
 refine ACalls.pure rfl (acalls_of_body k221.has ?_)
 repeat' (first | refine lpS _ _ _ _ ?_ | refine lpE _ _ _ _ ?_ | ((conv => whnf); first | exact pub3 (.closed _ rfl) (.closed _ rfl) (.closed _ rfl) | refine usQ rfl (tval_t _) ?_ | refine usH rfl (or4 (id := 0) rfl) ?_ | refine usQ rfl (val_t false e0 (by decide) hh _) ?_ | refine recT (by decide) ?_ | refine recF (by decide) ?_ | refine And.intro (by first | exact rfl | decide | omega | ((conv => whnf); exact ⟨by decide, rfl⟩)) ?_ | refine lpU _ _ _ _ 60 ?_))
end Go.AW

namespace Go.AW
variable [Draws]
attribute [local irreducible] ACalls CallE CallS Gp lpI
set_option maxRecDepth 100000
set_option maxHeartbeats 4000000
def qO (a : Int) : AObj := .arr 3 [[.list false 4 kTk, .int .i64 a, .int .i64 0]]
theorem word0 {H : List AObj} {id : Nat} (hH : H[id]? = some (qO 0)) : ACalls pr 130 [.ptr id 1 0 0, .str (bs [102, 114, 111, 109])] H (fun r H' => r = .tuple [] ∧ H' = H.set id (qO 1)) := by
 refine pfr (o := qO 0) (o1 := qO 1) (R := .tuple []) rfl rfl rfl (.same _ _ rfl) rfl (.inr rfl) ?_ hH
 refine acalls_of_body k130.has ?_
 repeat' (first | refine lpS _ _ _ _ ?_ | refine lpE _ _ _ _ ?_ | ((conv => whnf); first | exact ⟨_, rfl, .tuple _ _ rfl fun i v r h => by cases h⟩ | refine acalls_of_body k133.has ?_ | refine acalls_of_body k175.has ?_ | refine acalls_of_body k134.has ?_ | refine recT (by decide) ?_ | refine recF (by decide) ?_ | refine And.intro (by first | exact rfl | decide | omega | ((conv => whnf); exact ⟨by decide, rfl⟩)) ?_ | refine lpU _ _ _ _ 60 ?_))
theorem name1 {H : List AObj} {id : Nat} (hH : H[id]? = some (qO 1)) : ACalls pr 131 [.ptr id 1 0 0] H (fun r H' => r = .str ordN ∧ H' = H.set id (qO 2)) := by
 refine pfr (o := qO 1) (o1 := qO 2) (R := .str ordN) rfl rfl rfl (.same _ _ rfl) rfl (.inl rfl) ?_ hH
 refine acalls_of_body k131.has ?_
 repeat' (first | refine lpS _ _ _ _ ?_ | refine lpE _ _ _ _ ?_ | ((conv => whnf); first | exact ⟨_, rfl, .closed _ rfl⟩ | refine acalls_of_body k135.has ?_ | refine acalls_of_body k134.has ?_ | refine recT (by decide) ?_ | refine recF (by decide) ?_ | refine And.intro (by first | exact rfl | decide | omega | ((conv => whnf); exact ⟨by decide, rfl⟩)) ?_ | refine lpU _ _ _ _ 60 ?_))
theorem expression4 [Gls] {H : List AObj} {id : Nat} (hH : H[id]? = some (qO 4)) : ACalls pr 162 [.ptr id 1 0 0] H (fun r H' => r = .list false 6 (mC nodC e0) ∧ H' = H.set id (qO 7)) := by
 refine pfr (o := qO 4) (o1 := qO 7) (R := .list false 6 (mC nodC e0)) rfl rfl rfl (.same _ _ rfl) rfl (.inl rfl) ?_ hH
 refine acalls_of_body k162.has ?_
 repeat' (first | refine lpS _ _ _ _ ?_ | refine lpE _ _ _ _ ?_ | ((conv => whnf); first | exact ⟨_, rfl, .closed _ rfl⟩ | refine drQ rfl (parseAt_t _) ?_ | refine recT (by decide) ?_ | refine recF (by decide) ?_ | refine And.intro (by first | exact rfl | decide | omega | ((conv => whnf); exact ⟨by decide, rfl⟩)) ?_ | refine lpU _ _ _ _ 60 ?_))
theorem query0 [Gls] {H : List AObj} {id : Nat} (hH : H[id]? = some (qO 0)) : ACalls pr 86 [.ptr id 1 0 0] H (fun r H' => r = .list false 6 (mC spC [none, some e0]) ∧ H' = H.set id (qO 7)) := by
 refine pfr (o := qO 0) (o1 := qO 7) (R := .list false 6 (mC spC [none, some e0])) rfl rfl rfl (.same _ _ rfl) rfl (.inl rfl) ?_ hH
 refine acalls_of_body k86.has ?_
 repeat' (first | refine lpS _ _ _ _ ?_ | refine lpE _ _ _ _ ?_ | ((conv => whnf); first | refine usH rfl (name1 (id := 0) rfl) ?_ | refine usH rfl (word0 (id := 0) rfl) ?_ | refine ACalls.mono (steps_t _) ?_ | refine acalls_of_body k133.has ?_ | refine acalls_of_body k175.has ?_ | refine acalls_of_body k134.has ?_ | refine recT (by decide) ?_ | refine recF (by decide) ?_ | refine And.intro (by first | exact rfl | decide | omega | ((conv => whnf); exact ⟨by decide, rfl⟩)) ?_ | refine lpU _ _ _ _ 60 ?_))
 rintro r H1 ⟨G, m, es, rfl, hG, hm, rfl, hk, hf⟩
 obtain ⟨x, y, z, rfl⟩ : ∃ x y z, G = [x, y, z] := by
  match G, hG with
  | [x, y, z], _ => exact ⟨x, y, z, rfl⟩
 have hm3 := (List.getElem?_eq_some_iff.1 hm).1
 obtain rfl | rfl | rfl : m = 0 ∨ m = 1 ∨ m = 2 := by simp at hm3; omega
 all_goals cases hm
 all_goals repeat' (first | refine lpS _ _ _ _ ?_ | refine lpE _ _ _ _ ?_ | ((conv => whnf); first | exact ⟨_, rfl, pubFI (by simp) rfl rfl rfl rfl⟩ | refine usH rfl (expression4 (id := 0) rfl) ?_ | refine recT (hk.ok _) ?_ | refine recO hf ?_ | refine acalls_of_body k133.has ?_ | refine acalls_of_body k175.has ?_ | refine acalls_of_body k134.has ?_ | refine acalls_of_body k135.has ?_ | refine acalls_of_body k161.has ?_ | refine recT (by decide) ?_ | refine recF (by decide) ?_ | refine And.intro (by first | exact rfl | decide | omega | ((conv => whnf); exact ⟨by decide, rfl⟩)) ?_ | refine lpU _ _ _ _ 60 ?_))
end Go.AW

namespace Go.AW
variable [Draws]
attribute [local irreducible] ACalls CallE CallS Gp lpI
set_option maxRecDepth 100000
set_option maxHeartbeats 4000000
theorem e0_ety : ∃ kf, ETy ordC [] e0 kf ∧ (kf.1 = 1 ∨ kf.1 = 0) := by
 obtain ⟨k, hk, x⟩ := e0_ex
 obtain ⟨hf, _, _, hh⟩ := x.hh
 refine ⟨k, ⟨Nat.le_trans x.len (by decide), ⟨hf, hh []⟩, x.gd, fun n hn h20 => ?_, x.kk []⟩, hk⟩
 simp only [e0, List.mem_cons, List.not_mem_nil, or_false] at hn
 rcases hn with rfl | rfl | rfl <;> exact absurd h20 (by decide)
theorem q0_ok : QOk ordC [] [none, some e0] := ⟨by decide, by decide, fun s hs => by
  simp only [List.mem_cons, List.not_mem_nil, or_false] at hs
  rcases hs with rfl | rfl
  ·intro e h; cases h
  ·intro e h; cases h; exact e0_ety, fun k s hs => by
  match k, hs with
  | 0, hs => cases hs; simp
  | 1, hs => cases hs; simp
  | k + 2, hs => simp at hs⟩
theorem parseAtQ_t [Gls] (H : List AObj) : ACalls pr 49 [.list false 4 kTk, .int .i64 0] H (fun r H' => r = .tuple [.list false 6 (mC spC [none, some e0]), .int .i64 7, .int .i64 0] ∧ H' = H) := by
 refine ACalls.pure rfl (acalls_of_body k49.has ?_)
 repeat' (first | refine lpS _ _ _ _ ?_ | refine lpE _ _ _ _ ?_ | ((conv => whnf); first | exact pub3 (.closed _ rfl) (.closed _ rfl) (.closed _ rfl) | refine usQ rfl (tval_t _) ?_ | refine usH rfl (query0 (id := 0) rfl) ?_ | refine usQ rfl (qvalid_t false q0_ok _) ?_ | refine recT (by decide) ?_ | refine recF (by decide) ?_ | refine And.intro (by first | exact rfl | decide | omega | ((conv => whnf); exact ⟨by decide, rfl⟩)) ?_ | refine lpU _ _ _ _ 60 ?_))
theorem parse_t [Gls] (H : List AObj) : ACalls pr 22 [.str kTx] H (fun r H' => r = .tuple [.list false 6 (mC spC [none, some e0]), .int .i64 0, .int .i64 0] ∧ H' = H) := by
 refine ACalls.pure rfl (acalls_of_body k22.has ?_)
 repeat' (first | refine lpS _ _ _ _ ?_ | refine lpE _ _ _ _ ?_ | ((conv => whnf); first | exact pub3 (.closed _ rfl) (.closed _ rfl) (.closed _ rfl) | refine usQ rfl (split_t _) ?_ | refine usQ rfl (parseAtQ_t _) ?_ | refine recT (by decide) ?_ | refine recF (by decide) ?_ | refine And.intro (by first | exact rfl | decide | omega | ((conv => whnf); exact ⟨by decide, rfl⟩)) ?_ | refine lpU _ _ _ _ 60 ?_))
def kRow (i : Int) : List V := [⟨2, i, bs []⟩, ⟨3, 0, bs [97]⟩, ⟨4, 0, bs []⟩, ⟨0, 0, bs []⟩]
def kEnt (i : Int) : Ent := ⟨kRow i, 1⟩
theorem zs0_ok : ZsOk [] := ⟨by decide, fun z hz => by cases hz⟩
theorem kev [Gls] (i : Int) (hi : i = 0 ∨ i = 1) : evE [] (mpR (ordC.zip (kRow i))) e0 = boV (decide (valCmp ⟨2, 0, bs []⟩ ⟨2, i, bs []⟩ < 0)) := by
 obtain ⟨m, hm⟩ : ∃ m, m = mpR (ordC.zip (kRow i)) := ⟨_, rfl⟩
 have h1 : evN [] m cN0 [] = ⟨2, 0, bs []⟩ := by
  rw [evN, if_neg (by decide), if_neg (by rintro ⟨h, _⟩; cases h)]
  exact (spV_t cN0 [] rfl).2.2.2.1 rfl
 have h2 : evN [] m (colN (bs [105, 100])) [] = ⟨2, i, bs []⟩ := by
  rw [evN, if_pos (show (colN (bs [105, 100])).op = 1 from rfl), hm]
  rcases hi with rfl | rfl <;> rfl
 have h3 : evN [] m (opN 12) [⟨2, 0, bs []⟩, ⟨2, i, bs []⟩] = boV (decide (valCmp ⟨2, 0, bs []⟩ ⟨2, i, bs []⟩ < 0)) := by
  rw [evN, if_neg (by decide), if_pos (by rcases hi with rfl | rfl <;> exact ⟨rfl, rfl⟩)]
  refine (apV_t zs0_ok (opN_gd (by decide)) rfl (fun v hv => ?_) (fun h => by cases h) rfl (by decide)).2.2.1 rfl _ _ rfl
  simp only [List.mem_cons, List.not_mem_nil, or_false] at hv
  rcases hv with rfl | rfl
  ·exact valid64 rfl
  ·rcases hi with rfl | rfl <;> exact valid64 (by decide)
 have l1 : Lv (fV [] m) [cN0] ⟨2, 0, bs []⟩ := .n0 rfl (by rw [fV, h1])
 have l2 : Lv (fV [] m) [colN (bs [105, 100])] ⟨2, i, bs []⟩ := .n0 rfl (by rw [fV, h2])
 have l3 : Lv (fV [] m) ([cN0] ++ [colN (bs [105, 100])] ++ [opN 12]) _ := .n2 l1 l2 rfl (by rw [fV, h3])
 rw [← hm]
 unfold evE
 rw [show e0 = [cN0] ++ [colN (bs [105, 100])] ++ [opN 12] from rfl, l3 []]
 rfl
theorem kRows [Gls] : rwQ ordC [] [kEnt 0, kEnt 1] [none, some e0] = [kEnt 1] := by
 have h0 : kpB ordC [] e0 (kEnt 0) = false := by
  unfold kpB
  rw [show (kEnt 0).row = kRow 0 from rfl, kev 0 (.inl rfl)]
  decide
 have h1 : kpB ordC [] e0 (kEnt 1) = true := by
  unfold kpB
  rw [show (kEnt 1).row = kRow 1 from rfl, kev 1 (.inr rfl)]
  decide
 simp only [rwQ, kpF, List.filter, h0, h1]
end Go.AW

namespace Go.AW
variable [Draws]
attribute [local irreducible] ACalls CallE CallS Gp lpI
set_option maxRecDepth 100000
set_option maxHeartbeats 4000000
theorem relations_raw : ACalls pr 4 [] [] (fun r H' => r = .sl 0 3 0 3 ∧ H' = [.arr 4 [[.str ordN, .list true 3 (cC ordC), .nil, .nil], [.str (bs [99, 117, 115, 116, 111, 109, 101, 114, 115]), .list true 3 (cC cusC), .nil, .nil], [.str (bs [114, 101, 116, 117, 114, 110, 115]), .list true 3 (cC ordC), .nil, .nil]]]) := by
 refine acalls_of_body k4.has ?_
 conv => whnf
 exact ⟨rfl, rfl⟩
theorem obp4 {H : List AObj} {ids : List Nat} {a b c d a1 b1 c1 d1 : AVal} (h1 : Pub H 0 ids a a1 ∧ a1.isCell = true) (h2 : Pub H 0 ids b b1 ∧ b1.isCell = true) (h3 : Pub H 0 ids c c1 ∧ c1.isCell = true) (h4 : Pub H 0 ids d d1 ∧ d1.isCell = true) : ObP H ids (.arr 4 [[a, b, c, d]]) (.arr 4 [[a1, b1, c1, d1]]) :=
 .map 4 _ _ rfl (fun i e e1 g1 g2 => by
  match i, g1, g2 with
  | 0, rfl, rfl => rfl
  | i + 1, g1, _ => cases g1) fun i j e e1 x x1 g1 g2 g3 g4 => by
  match i, g1, g2 with
  | 0, rfl, rfl =>
   match j, g3, g4 with
   | 0, rfl, rfl => exact h1
   | 1, rfl, rfl => exact h2
   | 2, rfl, rfl => exact h3
   | 3, rfl, rfl => exact h4
   | j + 4, g3, _ => cases g3
  | i + 1, g1, _ => cases g1
def kRW : List (List AVal) := [[.list true 3 (vC (kRow 0)), .int .i64 1], [.list true 3 (vC (kRow 1)), .int .i64 1]]
def kRel : List AVal := [.str ordN, .list true 3 (cC ordC), .nil, .list false 2 kRW]
theorem wkT {sz : Nat} {es : List (List AVal)} (h : ∀ e ∈ es, ∀ c ∈ e, c.isCell = true) : WkD (.list true sz es) (.list false sz es) :=
 .list true false sz es es (fun h => by cases h) rfl (fun i e f h1 h2 => by rw [h1] at h2; cases h2; rfl) (fun i j f c h1 h2 => h f (List.mem_of_getElem? h1) c (List.mem_of_getElem? h2)) fun i j e f d c h1 h2 h3 h4 => by
  rw [h1] at h2; cases h2
  rw [h3] at h4; cases h4
  exact .refl _
theorem kQuery [Gls] (H : List AObj) : ACalls pr 23 [.list false 6 (mC spC [none, some e0]), .list true 4 [kRel], .nil] H (fun r H' => r = .tuple [.agg (rlA ordC [kEnt 1]), .int .i64 0] ∧ H' = H) := by
 have hr : RsOk ordC ⟨ordN, true, ordC, [kEnt 0, kEnt 1]⟩ [] := ⟨by decide, rfl, rfl, fun r hr => by simp at hr; subst hr; exact ordOk, fun r hr => by simp at hr; subst hr; exact ⟨by decide, by decide⟩⟩
 have h := equery_t false true q0_ok ordOk zs0_ok hr H
 rw [kRows] at h
 refine h.weakD (.cons (.refl _) (.cons ?_ (.cons (.nil false 3) .nil)))
 refine .list true true 4 _ _ (fun h => h) rfl (fun i e f h1 h2 => ?_) (fun i j f c h1 h2 => ?_) fun i j e f d c h1 h2 h3 h4 => ?_
 ·match i, h1, h2 with
  | 0, rfl, rfl => rfl
  | i + 1, h1, _ => cases h1
 ·match i, h1 with
  | 0, rfl =>
   match j, h2 with
   | 0, rfl => rfl
   | 1, rfl => rfl
   | 2, rfl => rfl
   | 3, rfl => rfl
   | j + 4, h2 => cases h2
  | i + 1, h1 => cases h1
 ·match i, h1, h2 with
  | 0, rfl, rfl =>
   match j, h3, h4 with
   | 0, rfl, rfl => exact .refl _
   | 1, rfl, rfl => exact .refl _
   | 2, rfl, rfl => exact .refl _
   | 3, rfl, rfl =>
    refine .list false false 2 _ _ (fun h => h) rfl (fun i e f h1 h2 => ?_) (fun i j f c h1 h2 => ?_) fun i j e f d c h1 h2 h3 h4 => ?_
    ·match i, h1, h2 with
     | 0, rfl, rfl => rfl
     | 1, rfl, rfl => rfl
     | i + 2, h1, _ => cases h1
    ·match i, h1 with
     | 0, rfl =>
      match j, h2 with
      | 0, rfl => rfl
      | 1, rfl => rfl
      | j + 2, h2 => cases h2
     | 1, rfl =>
      match j, h2 with
      | 0, rfl => rfl
      | 1, rfl => rfl
      | j + 2, h2 => cases h2
     | i + 2, h1 => cases h1
    ·match i, h1, h2 with
     | 0, rfl, rfl =>
      match j, h3, h4 with
      | 0, rfl, rfl => exact wkT (fun e he c hc => AVal.isCell_of_isPure (List.all_eq_true.1 (List.all_eq_true.1 (pureEs_vC (kRow 0)) e he) c hc))
      | 1, rfl, rfl => exact .refl _
      | j + 2, h3, _ => cases h3
     | 1, rfl, rfl =>
      match j, h3, h4 with
      | 0, rfl, rfl => exact wkT (fun e he c hc => AVal.isCell_of_isPure (List.all_eq_true.1 (List.all_eq_true.1 (pureEs_vC (kRow 1)) e he) c hc))
      | 1, rfl, rfl => exact .refl _
      | j + 2, h3, _ => cases h3
     | i + 2, h1, _ => cases h1
   | j + 4, h3, _ => cases h3
  | i + 1, h1, _ => cases h1
theorem known_t [Gls] (H : List AObj) : ACalls pr 7 [] H (fun r H' => r = .bool true ∧ H' = H) := by
 refine ACalls.pure rfl (acalls_of_body k7.has ?_)
 repeat' (first | refine lpS _ _ _ _ ?_ | refine lpE _ _ _ _ ?_ | ((conv => whnf); first | refine usH rfl relations_raw ?_ | refine usQ rfl (parse_t _) ?_ | refine recT (by decide) ?_ | refine recF (by decide) ?_ | refine And.intro (by first | exact rfl | decide | omega | ((conv => whnf); exact ⟨by decide, rfl⟩)) ?_ | refine lpU _ _ _ _ 60 ?_))
 conv => whnf
 refine .mk (Gp.some (n := 73) (live := [(1, .ptr 0 1 0 0), (4, .list false 6 (mC spC [none, some e0])), (6, .int .i64 0)]) (H1 := [.arr 4 [kRel]]) [1] (by simp) ⟨⟨_, rfl, obp4 ⟨.closed _ rfl, rfl⟩ ⟨.closed _ rfl, rfl⟩ ⟨.closed _ rfl, rfl⟩ ⟨.frz 2 2 0 2 2 kRW rfl rfl rfl (by simp), rfl⟩⟩, trivial⟩ rfl ⟨.keepP 1 1 0 0 0 rfl, .closed _ rfl, .closed _ rfl, trivial⟩ ?_)
 rintro ρ ⟨dd, rfl⟩
 repeat' (first | refine lpS _ _ _ _ ?_ | refine lpE _ _ _ _ ?_ | ((conv => whnf); first | refine usQ rfl (kQuery _) ?_ | exact .closed _ rfl | refine recT (by decide) ?_ | refine recF (by decide) ?_ | refine And.intro (by first | exact rfl | decide | omega | ((conv => whnf); exact ⟨by decide, rfl⟩)) ?_ | refine lpU _ _ _ _ 60 ?_))
end Go.AW

namespace Go.AW
variable [Draws]
theorem lawTM [Gls] (g1 g2 : Bool) (l m : List Int) (n : Int) :
  ACalls pr 3 [.list g1 1 (iC l), .list g2 1 (iC m), .int .i64 n] [] (fun r _ => r = .bool true) := law_m known_t g1 g2 l m n
#print axioms lawTM
end Go.AW


namespace Go.AW
variable [Draws]
open Go.RowKit Go.ChangeShapes
section
variable {P : Program} {w : World}
theorem rd_global {g : Nat} {cs : List Value} {xs : List AVal} (hc : ∀ i, w.cell? ⟨g, i, none⟩ = cs[i]?) (hl : xs.length = cs.length) (hcell : ∀ a ∈ xs, a.isCell = true)
  (hr : ∀ (i : Nat) (a : AVal) (c : Value), xs[i]? = some a → cs[i]? = some c → Rd (allC w) w a c) : Rd (allC w) w (.cptr xs 0) (.pointer (some ⟨g, 0, none⟩)) := by
 have key := Rd.cptr (C := allC w) (w := w) xs 0 g 0 (fun j => (cs[j]?).getD .nilIface) ?_ (fun j hj => ?_) (fun j d hd => hcell d (List.mem_of_getElem? hd)) (fun j d hd => ?_)
 ·exact key
 ·rw [Nat.zero_add]
  cases hn : xs.length with
  | zero => exact Nat.zero_le _
  | succ n =>
   have hv : w.cell? ⟨g, n, none⟩ = some cs[n] := by rw [hc, List.getElem?_eq_getElem]
   exact allC_cell hv
 ·rw [Nat.zero_add, hc, List.getElem?_eq_getElem (by omega)]; rfl
 ·have hj := (List.getElem?_eq_some_iff.1 hd).1
  have hcj : cs[j]? = some cs[j] := List.getElem?_eq_getElem (by omega)
  rw [hcj]
  exact hr j d _ hd hcj
theorem gl_strs {n : String} {g : Nat} {t e : TypeId} {ss : List ByteArray} (hg : P.globalNamed n = some g) (hty : (P.globals[g]?).map (·.type) = some t) (ht : P.underlying t = some (.slice e)) (he : P.underlying e = some .string) (hce : P.cellsOf e = 1)
  (h : Lib.VarReads P w n (.slice (ChangeShapes.strs ss) [])) (hss : ss ≠ []) : Rd (allC w) w (.cptr [.list false 1 (ss.map fun s => [AVal.str s])] 0) (.pointer (some ⟨g, 0, none⟩)) := by
 obtain ⟨g', t', cs, fuel, p, hg', ht', hvar, hd⟩ := h
 obtain rfl := Option.some.inj (hg.symm.trans hg')
 obtain rfl := Option.some.inj (hty.symm.trans ht')
 rcases open_strings ht he hce hd with ⟨_, h1⟩ | ⟨⟨b, off, spot⟩, len, cap, us, h1, _, h3, h4, h5, h6, h7, h8⟩
 ·cases (Prod.mk.inj h1).1
 ·have hinj : ∀ (a c : List ByteArray), (ChangeShapes.strs a : List (DataW Unit)) = ChangeShapes.strs c → a = c := by
   intro a
   induction a with
   | nil => intro c hc; cases c with | nil => rfl | cons y c => cases hc
   | cons x a ih =>
    intro c hc
    cases c with
    | nil => cases hc
    | cons y c =>
     simp only [ChangeShapes.strs, List.map_cons, List.cons.injEq, DataW.lit.injEq, Lit.string.injEq] at hc
     have h1 : x = y := by
      have := hc.1
      cases x with | mk x => cases y with | mk y => simp only [Array.toList_inj] at this; rw [this]
     rw [h1, ih c hc.2]
  have he := (Prod.mk.inj h6).1
  injection he with e1 e2
  have hus : us.take len = ss := (hinj _ _ e1).symm
  have hd0 : us.drop len = [] := hinj _ [] e2.symm
  have hlen : us.length ≤ len := by
   have := congrArg List.length hd0
   simp at this; omega
  simp only [if_true] at h5
  have hue : us = ss := by rw [← hus, List.take_of_length_le hlen]
  subst hue
  have hpos : 0 < us.length := List.length_pos_iff.2 hss
  have hsp : spot = none := World.cell?_spot (h7 0 hpos)
  subst hsp
  have hcell : ∀ i, i < us.length → w.cell? ⟨b, off + i, none⟩ = some (.string (us.getD i ByteArray.empty)) := fun i hi => by
   have := h7 i hi
   rwa [WideShapes.add_plain] at this
  have hll : len = us.length := by omega
  refine rd_global (cs := cs.toList) (fun i => by rw [World.var?_cell hg hvar i]; simp) (by rw [h1]; rfl) (fun a ha => by simp at ha; subst ha; rfl) fun i a c ha hc => ?_
  rw [h1] at hc
  cases i with
  | succ i => cases ha
  | zero =>
   cases ha; cases hc
   have key := Rd.list (C := allC w) (w := w) false 1 (us.map fun s => [AVal.str s]) b off cap (fun i _ => .string (us.getD i ByteArray.empty)) (by simp) (by simp; omega) (fun e he => by obtain ⟨_, _, rfl⟩ := List.mem_map.1 he; rfl) ?_ ?_ ?_ ?_
   ·rw [List.length_map, ← hll] at key; exact key
   ·have := allC_cell (hcell (us.length - 1) (by omega))
    simp; omega
   ·intro i j hi hj
    have : j = 0 := by omega
    subst this
    rw [Nat.mul_one, Nat.add_zero]
    exact hcell i (by simpa using hi)
   ·intro i j e d he hd
    simp only [List.getElem?_map, Option.map_eq_some_iff] at he
    obtain ⟨s, _, rfl⟩ := he
    cases j with
    | zero => cases hd; rfl
    | succ j => cases hd
   ·intro i j e d he hd
    simp only [List.getElem?_map, Option.map_eq_some_iff] at he
    obtain ⟨s, hs, rfl⟩ := he
    cases j with
    | zero =>
     cases hd
     rw [List.getD_eq_getElem?_getD, hs]
     exact .str _
    | succ j => cases hd
omit [Draws] in
theorem flat_rows {m : Nat} : ∀ (rows : List (List Value)) (cs : List Value), cs.length = rows.length * m → (∀ i, i < rows.length → (cs.drop (i * m)).take m = rows.getD i []) → cs = rows.flatten
 | [], cs, h, _ => List.length_eq_zero_iff.1 (by simpa using h)
 | r :: rows, cs, h, hr => by
  have h0 := hr 0 (by simp)
  simp only [Nat.zero_mul, List.drop_zero, List.getD_cons_zero] at h0
  have ih := flat_rows (m := m) rows (cs.drop m) (by rw [List.length_drop, h, List.length_cons, Nat.succ_mul]; omega) fun i hi => by
   have := hr (i + 1) (by simp; omega)
   rw [List.drop_drop, show m + i * m = (i + 1) * m by rw [Nat.succ_mul]; omega, this]
   rfl
  rw [List.flatten_cons, ← ih, ← h0, List.take_append_drop]
theorem gl_bools {n : String} {g : Nat} {t e b : TypeId} {ss : List (List Bool)} {fs : Array Field} {k m : Nat} (hg : P.globalNamed n = some g) (hty : (P.globals[g]?).map (·.type) = some t) (ht : P.underlying t = some (.array k e)) (he : P.underlying e = some (.struct fs)) (hfs : fs.toList.length = m) (hfo : ∀ (j : Nat) (f : Field), fs.toList[j]? = some f → f.offset = j ∧ f.type = b) (hb : P.underlying b = some .bool)
  (hcb : P.cellsOf b = 1) (hce : P.cellsOf e = m) (hct : P.cellsOf t = k * m) (h : Lib.VarReads P w n (.agg (ss.map fun l => .agg (l.map fun b => .lit (.bool b))))) : Rd (allC w) w (.cptr (ss.flatten.map AVal.bool) 0) (.pointer (some ⟨g, 0, none⟩)) := by
 obtain ⟨g', t', cs, fuel, p, hg', ht', hvar, hd⟩ := h
 obtain rfl := Option.some.inj (hg.symm.trans hg')
 obtain rfl := Option.some.inj (hty.symm.trans ht')
 obtain ⟨xs, m1, _, hx, hl, hxl, hxs⟩ := DataW.trod_array ht hd
 have e1 := (Prod.mk.inj hx).1
 injection e1 with e1
 have hsl : ss.length = k := by have := congrArg List.length e1; simpa [hxl] using this
 have hcs : cs.toList = (ss.map fun l => l.map Value.bool).flatten := by
  refine flat_rows (m := m) _ _ (by rw [hl, hct, List.length_map, hsl]) fun i hi => ?_
  rw [List.length_map, hsl] at hi
  have h1 := hxs i hi
  rw [List.getElem?_eq_getElem (by omega), hce] at h1
  have hi' : i < ss.length := by omega
  have e2 : (xs[i]'(by omega)).1 = .agg (ss[i].map fun b => .lit (.bool b)) := by
   have := congrArg (·[i]?) e1
   simp only [List.getElem?_map, List.getElem?_eq_getElem hi', List.getElem?_eq_getElem (show i < xs.length by omega), Option.map_some, Option.some.injEq] at this
   exact this.symm
  obtain ⟨ys, m2, _, hy, hyl, hyn, hys⟩ := DataW.trod_struct he h1
  have hfz : fs.size = m := by simpa using hfs
  rw [hfz] at hyn
  rw [hy] at e2
  injection e2 with e2
  have hrl : ss[i].length = m := by have := congrArg List.length e2; simp [hyn] at this; omega
  rw [hce] at hyl
  have : (List.take m (List.drop (i * m) cs.toList)) = ss[i].map Value.bool := by
   apply List.ext_getElem?
   intro j
   by_cases hj : j < m
   ·have hfj : fs[j]? = some (fs[j]'(by omega)) := Array.getElem?_eq_getElem (by omega)
    have h2 := hys j _ hfj
    obtain ⟨f1, f2⟩ := hfo j _ (by rw [Array.getElem?_toList]; exact hfj)
    rw [f1, f2] at h2
    rw [List.getElem?_eq_getElem (by omega), hcb] at h2
    obtain ⟨b', hb1, hb2⟩ := DataW.trod_bool hb h2
    have e3 : (ys[j]'(by omega)).1 = .lit (.bool (ss[i][j]'(by omega))) := by
     have := congrArg (·[j]?) e2
     simp only [List.getElem?_map, List.getElem?_eq_getElem (show j < ss[i].length by omega), List.getElem?_eq_getElem (show j < ys.length by omega), Option.map_some, Option.some.injEq] at this
     exact this
    rw [hb2] at e3
    simp only [DataW.lit.injEq, Lit.bool.injEq] at e3
    have h3 : (List.take m (List.drop (i * m) cs.toList))[j]? = some (.bool b') := by
     have := congrArg (·[0]?) hb1
     rw [List.getElem?_take_of_lt (by omega), List.getElem?_drop] at this
     simpa using this
    rw [h3, e3, List.getElem?_map, List.getElem?_eq_getElem (show j < ss[i].length by omega)]
    rfl
   ·rw [List.getElem?_eq_none (by rw [hyl]; omega), List.getElem?_eq_none (by rw [List.length_map]; omega)]
  rw [this, List.getD_eq_getElem?_getD, List.getElem?_map, List.getElem?_eq_getElem hi']
  rfl
 have hfl : (ss.map fun l => l.map Value.bool).flatten = ss.flatten.map Value.bool := by rw [List.map_flatten]
 rw [hfl] at hcs
 refine rd_global (cs := cs.toList) (fun i => by rw [World.var?_cell hg hvar i]; simp) (by rw [hcs, List.length_map, List.length_map]) (fun a ha => by obtain ⟨_, _, rfl⟩ := List.mem_map.1 ha; rfl) fun i a c ha hc => ?_
 rw [hcs] at hc
 simp only [List.getElem?_map, Option.map_eq_some_iff] at ha hc
 obtain ⟨b1, g1, rfl⟩ := ha
 obtain ⟨b2, g2, rfl⟩ := hc
 rw [g1] at g2; cases g2
 exact .bool _
end
set_option maxRecDepth 100000 in
theorem lifted_of_laid {H : Type} {enc : TypeId × Value → H} {C : Checked} {os : Os} {f : FuncId} {fn : Func} {s : ChangeSpec} {F : Stop.Interp} {laid : List (String × DataW Unit)} {ob : List Nat} {af : AFunc} {n tb : Nat} {shs : List (Bool × List Sh)}
  (own : ownKnob C.prog.godebug = none) (started : os.Started) (noInit : C.prog.inits.idxOf? f = none) (hfn : C.prog.funcs[f]? = some fn)
  (witness : ∃ (w : World) (tape : Tape) (i : Input), w.os = os ∧ (w.forCall tape i).Shaped C.prog ∧ i.vars = [] ∧ Input.okWide C.prog (w.forCall tape i) .any w.heap.size f i ∧
   (OpenSpec.ofChange s).preRow enc C.prog fn [] false laid (w.forCall tape i).memory i.args ∧ ({} : Assume).holds C.prog (lone (Frame.enter C.prog f i.args .normal) [] (w.forCall tape i)))
  (laidO : laidOutB C.prog = true) (hread : (fn.params.toList.all fun t => C.prog.readableRec t && decide (t < C.prog.types.size)) = true)
  (hs : ∀ (ds : List (DataW H)), ds.length = fn.params.size → s.fn H ds = { results := [.lit (.bool true)], args := ds }) (hvars : s.vars = [])
  (hres : fn.resultTypes = #[tb]) (htb : C.prog.underlying tb = some .bool) (hsh : paramShs C.prog n fn.params.toList = some shs) (hhas : Has C.prog f ob af)
  (hlaw : ∀ ys, ArgsOk shs ys → ACalls C.prog f ys [] (fun r _ => r = .bool true))
  (hgl : ∀ W, laidMetH C.prog laid W → ∀ (g : Nat) (cs : List AVal), Draws.gl g = some cs → Rd (allC W) W (.cptr cs 0) (.pointer (some ⟨g, 0, none⟩))) :
  ReturnsInHanded {} C os f .any ((OpenSpec.ofChange s).preRow enc C.prog fn [] false laid) (((OpenSpec.ofChange s).at F).post enc C.prog fn false true false false) := by
 refine returnsInHanded_of_row (C := C) (s := OpenSpec.ofChange s) own started noInit hfn witness ?_
 intro W base args ds gs before hval hW _ _ _ hL _ _
 have hW' := hW
 obtain ⟨p, q, hA, hV, rfl, _, _⟩ := hW
 rw [show (OpenSpec.ofChange s).vars = [] from hvars] at hV
 obtain ⟨rfl, rfl⟩ := trodVars_none hV
 obtain ⟨ys, has, hlen, hrel⟩ := open_args (τ := fun _ => none) (n := n) fn.params.toList args.toList ds p shs hsh (fun j t v h1 h2 => hval j t v (by simpa using h1) (by simpa using h2)) hA
 obtain ⟨fn', c, hfn', hname, hbody, _⟩ := hhas
 have e : fn' = fn := Option.some.inj (hfn'.symm.trans hfn)
 subst e
 have hlds : ds.length = fn'.params.size := by
  have : ∀ (ts : List TypeId) (vs : List Value) (ds : List (DataW H)) (ps : List MemPlace), DataW.TrodAll enc C.prog W 0 (fun _ => true) true ts vs ds ps → ds.length = ts.length := by
   intro ts
   induction ts with
   | nil => intro vs ds ps h; obtain ⟨_, rfl, _⟩ := trodAll_nil h; rfl
   | cons t ts ih =>
    intro vs ds ps h
    obtain ⟨_, _, _, _, _, _, _, rfl, _, _, h2⟩ := trodAll_cons h
    simp [ih _ _ _ h2]
  simpa using this _ _ _ _ hA
 refine (calls_of_law hfn hname hbody (by simpa using hlen) (fun i a v h1 h2 => hrel i a v h1 (by simpa using h2)) (hlaw ys has) (hgl W hL)).mono fun e W' ⟨he, bel⟩ => ?_
 subst he
 have hs' : ((OpenSpec.ofChange s).at F).fn H ds = { results := [.lit (.bool true)], args := ds } := hs ds hlds
 refine ⟨_, rfl, ds, [], _, [], p, [], hW', ?_, ?_, ?_, bel.frame _, fun h => by cases h⟩
 ·rw [List.append_nil, hs', hres]
  exact trodAll_mk1 (shut_bool htb _)
 ·rw [List.append_nil, hs']
  refine trodAll_below laidO bel _ _ _ _ (fun t ht => ?_) hA
  have := List.all_eq_true.1 hread t ht
  simpa using this
 ·rw [List.append_nil, hs', show ((OpenSpec.ofChange s).at F).vars = [] from hvars]
  rfl
end Go.AW

