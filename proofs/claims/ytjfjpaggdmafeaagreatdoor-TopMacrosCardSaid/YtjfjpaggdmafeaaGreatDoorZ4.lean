/-
  An abstract machine over the model, the code of functions on it, and their contracts: what the claim needs.
  No condition: definitions, plain laws, contracts over any program that has this code.
-/
import Derived.Test.YtjfjpaggdmafeaaGreatDoorZ3
set_option linter.all false
namespace Go.AW
variable [Draws]
def DetS (P : Program) (f : FuncId) (vs : List AVal) (S : AVal → Prop) : Prop :=
 ∃ r, S r ∧ ∀ H, ACalls P f vs H (fun r' H' => r' = r ∧ H' = H)
theorem DetS.mono {P : Program} {f : FuncId} {vs : List AVal} {S T : AVal → Prop} (h : DetS P f vs S) (hs : ∀ r, S r → T r) : DetS P f vs T := by
 obtain ⟨r, h1, h2⟩ := h
 exact ⟨r, hs r h1, h2⟩
theorem DetS.of {P : Program} {f : FuncId} {vs : List AVal} {R : AVal} (h : ∀ H, ACalls P f vs H (fun r' H' => r' = R ∧ H' = H)) : DetS P f vs (fun r => r = R) := ⟨R, rfl, h⟩
def CallE (P : Program) (f : FuncId) (vs : List AVal) (H : List AObj) (k : AVal → List AObj → Prop) : Prop :=
 ∃ r H1, k r H1 ∧ ACalls P f vs H (fun r' H' => r' = r ∧ H' = H1)
def CallS (P : Program) (f : FuncId) (vs : List AVal) (k : AVal → Prop) : Prop :=
 ∃ r, k r ∧ ∀ H, ACalls P f vs H (fun r' H' => r' = r ∧ H' = H)
theorem DetS.use {P : Program} {f : FuncId} {vs : List AVal} {S : AVal → Prop} {H : List AObj} {k : AVal → List AObj → Prop} (h : DetS P f vs S) (hk : ∀ r, S r → k r H) : CallE P f vs H k := by
 obtain ⟨r, h1, h2⟩ := h
 exact ⟨r, H, hk r h1, h2 H⟩
theorem DetS.draw {P : Program} {f : FuncId} {vs : List AVal} {S : AVal → Prop} {k : AVal → Prop} (h : DetS P f vs S) (hk : ∀ r, S r → k r) : CallS P f vs k := by
 obtain ⟨r, h1, h2⟩ := h
 exact ⟨r, hk r h1, h2⟩
theorem CallE.of {P : Program} {f : FuncId} {vs : List AVal} {H H1 : List AObj} {R : AVal} {k : AVal → List AObj → Prop} (h : ACalls P f vs H (fun r' H' => r' = R ∧ H' = H1)) (hk : k R H1) : CallE P f vs H k := ⟨R, H1, hk, h⟩
def opS (dr : Bool) (P : Program) (o : AOp) (ρ : List AVal) (H : List AObj) (K : AVal → List AObj → Prop) : Prop :=
 match o with
 | .call f args => evsK ρ args fun vs => match dr with
  | true => CallS P f vs fun r => K r H
  | false => CallE P f vs H K
 | .callv x args => evK ρ x fun v => evsK ρ args fun vs => match v with
  | .fn f caps => match dr with
   | true => CallS P f (vs ++ caps) fun r => K r H
   | false => CallE P f (vs ++ caps) H K
  | _ => False
 | .callE f args => evsK ρ args fun vs => CallE P f vs H K
 | .callvE x args => evK ρ x fun v => evsK ρ args fun vs => match v with
  | .fn f caps => CallE P f (vs ++ caps) H K
  | _ => False
 | o => match o.quiet with
  | true => opQ P o ρ H fun v => K v H
  | false => match o.effect with
   | true => opE P o ρ H K
   | false => False
theorem opQ_yields {P : Program} {ρ : List AVal} {H : List AObj} {o : AOp} {v : AVal} (hc : ∀ f args, o ≠ .call f args) (hv : ∀ x args, o ≠ .callv x args) (h : Yields P o ρ H v) (k : AVal → Prop) (hk : k v) : opQ P o ρ H k := by
 have h := h (fun v' _ => k v') hk
 cases o <;> first | exact h | exact absurd rfl (hc _ _) | exact absurd rfl (hv _ _)
theorem opE_yields {P : Program} {ρ : List AVal} {H H' : List AObj} {o : AOp} {v : AVal} (hc : ∀ f args, o ≠ .callE f args) (hv : ∀ x args, o ≠ .callvE x args) (h : YieldsO P o ρ H v H') (K : AVal → List AObj → Prop) (hk : K v H') : opE P o ρ H K := by
 have h := h K hk
 cases o <;> first | exact h | exact absurd rfl (hc _ _) | exact absurd rfl (hv _ _)
def qS (P : Program) (o : AOp) (ρ : List AVal) (v : AVal) : List AObj → Prop :=
 match o with
 | .call _ _ | .callv _ _ => fun _ => v = v
 | o => fun H' => opQ P o ρ H' fun v' => v' = v
def OpDet (dr : Bool) (P : Program) (o : AOp) (ρ : List AVal) (H : List AObj) (v : AVal) (H' : List AObj) : Prop :=
 YieldsO P o ρ H v H' ∧ (dr = true → o.quiet = true → H' = H ∧ (∀ k : AVal → Prop, k v → opQ P o ρ H k) ∧ ∀ H2, qS P o ρ v H2 → opQ P o ρ H2 (fun v' => v' = v)) ∧ (o.quiet = false → ∀ K' : AVal → List AObj → Prop, K' v H' → opE P o ρ H K')
theorem qS_rest {P : Program} {ρ : List AVal} {o : AOp} {v : AVal} (h1 : ∀ f args, o ≠ .call f args) (h2 : ∀ x args, o ≠ .callv x args) (H : List AObj) (h : qS P o ρ v H) : opQ P o ρ H (fun v' => v' = v) := by
 cases o <;> first | exact h | exact absurd rfl (h1 _ _) | exact absurd rfl (h2 _ _)
theorem opS_rest {dr : Bool} {P : Program} {ρ : List AVal} {H : List AObj} {o : AOp} {K : AVal → List AObj → Prop} (h1 : ∀ f args, o ≠ .call f args) (h2 : ∀ x args, o ≠ .callv x args) (h3 : ∀ f args, o ≠ .callE f args) (h4 : ∀ x args, o ≠ .callvE x args)
  (h : match o.quiet with
   | true => opQ P o ρ H fun v => K v H
   | false => match o.effect with
    | true => opE P o ρ H K
    | false => False) : ∃ v H', K v H' ∧ OpDet dr P o ρ H v H' := by
 cases hq : o.quiet with
 | true =>
  rw [hq] at h
  obtain ⟨v, hv, hy⟩ := opQ_det hq h
  exact ⟨v, H, hv, hy, fun _ _ => ⟨rfl, opQ_yields h1 h2 hy, qS_rest h1 h2⟩, (fun hn => by rw [hq] at hn; cases hn)⟩
 | false =>
  rw [hq] at h
  cases he : o.effect with
  | true =>
   rw [he] at h
   obtain ⟨v, H', hk, hy⟩ := opE_det he h
   exact ⟨v, H', hk, hy, (fun _ hn => by rw [hq] at hn; cases hn), fun _ => opE_yields h3 h4 hy⟩
  | false => rw [he] at h; exact h.elim
theorem opS_det {dr : Bool} {P : Program} {ρ : List AVal} {H : List AObj} {o : AOp} {K : AVal → List AObj → Prop} (h : opS dr P o ρ H K) : ∃ v H', K v H' ∧ OpDet dr P o ρ H v H' := by
 cases o
 case call f args =>
  simp only [opS, evsK_eq] at h
  cases dr with
  | true =>
   obtain ⟨r, hk, hc⟩ := h
   refine ⟨r, H, hk, ?_, fun _ _ => ⟨rfl, fun k hk => ?_, fun H2 _ => ?_⟩, (fun hn => by cases hn)⟩
   ·intro K' hK'
    simp only [opA, evsK_eq]
    exact (hc H).ret' hK'
   ·simp only [opQ, evsK_eq]
    exact ⟨r, hc H, hk⟩
   ·simp only [opQ, evsK_eq]
    exact ⟨r, hc H2, rfl⟩
  | false =>
   obtain ⟨r, H1, hk, hc⟩ := h
   refine ⟨r, H1, hk, ?_, (fun hn => by cases hn), (fun hn => by cases hn)⟩
   intro K' hK'
   simp only [opA, evsK_eq]
   exact hc.ret' hK'
 case callv x args =>
  simp only [opS, evK_eq, evsK_eq] at h
  split at h
  ·rename_i f caps hx
   cases dr with
   | true =>
    obtain ⟨r, hk, hc⟩ := h
    refine ⟨r, H, hk, ?_, fun _ _ => ⟨rfl, fun k hk => ?_, fun H2 _ => ?_⟩, (fun hn => by cases hn)⟩
    ·intro K' hK'
     simp only [opA, evK_eq, evsK_eq, hx]
     exact (hc H).ret' hK'
    ·simp only [opQ, evK_eq, evsK_eq, hx]
     exact ⟨r, hc H, hk⟩
    ·simp only [opQ, evK_eq, evsK_eq, hx]
     exact ⟨r, hc H2, rfl⟩
   | false =>
    obtain ⟨r, H1, hk, hc⟩ := h
    refine ⟨r, H1, hk, ?_, (fun hn => by cases hn), (fun hn => by cases hn)⟩
    intro K' hK'
    simp only [opA, evK_eq, evsK_eq, hx]
    exact hc.ret' hK'
  ·exact h.elim
 case callE f args =>
  simp only [opS, evsK_eq] at h
  obtain ⟨r, H1, hk, hc⟩ := h
  refine ⟨r, H1, hk, ?_, (fun _ hn => by cases hn), fun _ K' hK' => ?_⟩
  ·intro K' hK'
   simp only [opA, evsK_eq]
   exact hc.ret' hK'
  ·simp only [opE, evsK_eq]
   exact ⟨r, H1, hc, hK'⟩
 case callvE x args =>
  simp only [opS, evK_eq, evsK_eq] at h
  split at h
  ·rename_i f caps hx
   obtain ⟨r, H1, hk, hc⟩ := h
   refine ⟨r, H1, hk, ?_, (fun _ hn => by cases hn), fun _ K' hK' => ?_⟩
   ·intro K' hK'
    simp only [opA, evK_eq, evsK_eq, hx]
    exact hc.ret' hK'
   ·simp only [opE, evK_eq, evsK_eq, hx]
    exact ⟨r, H1, hc, hK'⟩
  ·exact h.elim
 all_goals exact opS_rest (fun _ _ h => by cases h) (fun _ _ h => by cases h) (fun _ _ h => by cases h) (fun _ _ h => by cases h) h
def runS (P : Program) (is : List AIns) : List AVal → List AObj → (List AVal → List AObj → Prop) → Prop :=
 @List.rec AIns (fun _ => List AVal → List AObj → (List AVal → List AObj → Prop) → Prop) (fun ρ H K => K ρ H)
  (fun i _ ih ρ H K => guardK ρ i.guard fun ρ t => match t with
   | true => opS false P i.op ρ H fun v H' => putK ρ i.dst v fun ρ' => ih ρ' H' K
   | false => putK ρ i.dst (.tuple []) fun ρ' => ih ρ' H K) is
theorem runS_cons (P : Program) (i : AIns) (is : List AIns) (ρ : List AVal) (H : List AObj) (K : List AVal → List AObj → Prop) : runS P (i :: is) ρ H K = guardK ρ i.guard fun ρ t => match t with
  | true => opS false P i.op ρ H fun v H' => putK ρ i.dst v fun ρ' => runS P is ρ' H' K
  | false => putK ρ i.dst (.tuple []) fun ρ' => runS P is ρ' H K := rfl
theorem guardK_of {ρ : List AVal} {g : Option (Option Nat × Bool)} {t : Bool} (h : guardV ρ g = some t) {k : List AVal → Bool → Prop} (hk : k ρ t) : guardK ρ g k := by
 unfold guardV at h
 unfold guardK
 split at h
 ·cases h; exact hk
 ·rename_i d want
  simp only [getK_eq]
  split at h
  ·rename_i b hv
   cases h
   simp only [hv, condA_eq, setK_eq, setT_self _ _ _ hv]
   exact hk
  ·rename_i hv
   cases h
   simp only [hv]
   exact hk
  ·cases h
 ·cases h
theorem runS_det {P : Program} : ∀ (is : List AIns) {ρ : List AVal} {H : List AObj} {K : List AVal → List AObj → Prop}, runS P is ρ H K →
  ∃ ρ' H', K ρ' H' ∧ ∀ K' : List AVal → List AObj → Prop, K' ρ' H' → runA P is ρ H K'
 | [], ρ, H, K, h => ⟨ρ, H, h, fun _ hk => hk⟩
 | i :: is, ρ, H, K, h => by
  rw [runS_cons] at h
  obtain ⟨t, ht, h⟩ := guardK_det h
  cases t with
  | true =>
   obtain ⟨v, H1, h, hy, _⟩ := opS_det (show opS false P i.op ρ H _ from h)
   rw [putK_eq] at h
   obtain ⟨ρ', H', hk, hr⟩ := runS_det is h
   refine ⟨ρ', H', hk, fun K' hK' => ?_⟩
   rw [runA_cons]
   refine guardK_of ht (hy _ ?_)
   rw [putK_eq]
   exact hr _ hK'
  | false =>
   simp only [putK_eq] at h
   obtain ⟨ρ', H', hk, hr⟩ := runS_det is h
   refine ⟨ρ', H', hk, fun K' hK' => ?_⟩
   rw [runA_cons]
   refine guardK_of ht ?_
   simp only [putK_eq]
   exact hr _ hK'
def runGS (P : Program) (is : List (AIns × List Nat)) : List (List Nat × (List AObj → Prop)) → List (List AObj) → List AVal → List AObj → (List AVal → List AObj → Prop) → Prop :=
 @List.rec (AIns × List Nat) (fun _ => List (List Nat × (List AObj → Prop)) → List (List AObj) → List AVal → List AObj → (List AVal → List AObj → Prop) → Prop)
  (fun cs Hs ρ H K => checkK cs (H :: Hs) (K ρ H))
  (fun p _ ih cs Hs ρ H K => match p with
   | (i, ps) => guardK ρ i.guard fun ρ t => match t with
    | true => opS true P i.op ρ H fun v H' => putK ρ i.dst v fun ρ' => match i.op.quiet with
     | true => ih (addC ps (qS P i.op ρ v) cs) (H :: Hs) ρ' H' K
     | false => ih cs (H :: Hs) ρ' H' K
    | false => putK ρ i.dst (.tuple []) fun ρ' => ih cs (H :: Hs) ρ' H K) is
theorem runGS_cons (P : Program) (i : AIns) (ps : List Nat) (is : List (AIns × List Nat)) (cs : List (List Nat × (List AObj → Prop))) (Hs : List (List AObj)) (ρ : List AVal) (H : List AObj) (K : List AVal → List AObj → Prop) :
  runGS P ((i, ps) :: is) cs Hs ρ H K = guardK ρ i.guard fun ρ t => match t with
    | true => opS true P i.op ρ H fun v H' => putK ρ i.dst v fun ρ' => match i.op.quiet with
     | true => runGS P is (addC ps (qS P i.op ρ v) cs) (H :: Hs) ρ' H' K
     | false => runGS P is cs (H :: Hs) ρ' H' K
    | false => putK ρ i.dst (.tuple []) fun ρ' => runGS P is cs (H :: Hs) ρ' H K := rfl
theorem checkOne_of {f : List AObj → Prop} {Hs : List (List AObj)} {k : Prop} (hk : k) : ∀ (ps : List Nat), (∀ p ∈ ps, ∃ H', Hs[p]? = some H' ∧ f H') → checkOne ps f Hs k
 | [], _ => hk
 | p :: ps, h => by
  show idxA Hs p fun H' => f H' ∧ checkOne ps f Hs k
  obtain ⟨H', h1, h2⟩ := h p (List.mem_cons_self ..)
  exact idxA_intro h1 ⟨h2, checkOne_of hk ps fun q hq => h q (List.mem_cons_of_mem _ hq)⟩
theorem checkK_of {Hs : List (List AObj)} {k : Prop} (hk : k) : ∀ (cs : List (List Nat × (List AObj → Prop))), (∀ c ∈ cs, ∀ p ∈ c.1, ∃ H', Hs[p]? = some H' ∧ c.2 H') → checkK cs Hs k
 | [], _ => hk
 | (ps, f) :: cs, h => by
  show checkOne ps f Hs (checkK cs Hs k)
  exact checkOne_of (checkK_of hk cs fun c hc => h c (List.mem_cons_of_mem _ hc)) ps (h (ps, f) (List.mem_cons_self ..))
def CsR (cs' cs : List (List Nat × (List AObj → Prop))) : Prop := ∀ c' ∈ cs', ∃ c ∈ cs, c.1 = c'.1 ∧ ∀ H, c.2 H → c'.2 H
theorem CsR.add {cs' cs : List (List Nat × (List AObj → Prop))} (h : CsR cs' cs) (ps : List Nat) {f' f : List AObj → Prop} (hf : ∀ H, f H → f' H) : CsR (addC ps f' cs') (addC ps f cs) := by
 cases ps with
 | nil => exact h
 | cons p ps =>
  intro c' hc
  simp only [addC, List.mem_cons] at hc ⊢
  rcases hc with rfl | hc
  ·exact ⟨_, .inl rfl, rfl, hf⟩
  ·obtain ⟨c, h1, h2⟩ := h c' hc
   exact ⟨c, .inr h1, h2⟩
theorem runGS_det {P : Program} : ∀ (is : List (AIns × List Nat)) {cs' cs : List (List Nat × (List AObj → Prop))} {Hs : List (List AObj)} {ρ : List AVal} {H : List AObj} {K : List AVal → List AObj → Prop}, CsR cs' cs → runGS P is cs Hs ρ H K →
  ∃ ρ' H', K ρ' H' ∧ ∀ K' : List AVal → List AObj → Prop, K' ρ' H' → runG P is cs' Hs ρ H K'
 | [], cs', cs, Hs, ρ, H, K, hc, h => by
  obtain ⟨h1, h2⟩ := checkK_spec (show checkK cs (H :: Hs) (K ρ H) from h)
  refine ⟨ρ, H, h1, fun K' hK' => checkK_of hK' cs' fun c' hc' p hp => ?_⟩
  obtain ⟨c, hcm, he, hi⟩ := hc c' hc'
  obtain ⟨H', h3, h4⟩ := h2 c hcm p (by rw [he]; exact hp)
  exact ⟨H', h3, hi H' h4⟩
 | (i, ps) :: is, cs', cs, Hs, ρ, H, K, hc, h => by
  rw [runGS_cons] at h
  obtain ⟨t, ht, h⟩ := guardK_det h
  cases t with
  | true =>
   obtain ⟨v, H1, h, hy, hq1, hq2⟩ := opS_det (show opS true P i.op ρ H _ from h)
   rw [putK_eq] at h
   cases hq : i.op.quiet with
   | true =>
    simp only [hq] at h
    obtain ⟨rfl, hv, hcs⟩ := hq1 rfl hq
    obtain ⟨ρ', H', hk, hr⟩ := runGS_det is (hc.add ps hcs) h
    refine ⟨ρ', H', hk, fun K' hK' => ?_⟩
    rw [runG_cons]
    refine guardK_of ht ?_
    simp only [hq]
    refine hv _ ?_
    rw [putK_eq]
    exact hr _ hK'
   | false =>
    simp only [hq] at h
    obtain ⟨ρ', H', hk, hr⟩ := runGS_det is hc h
    refine ⟨ρ', H', hk, fun K' hK' => ?_⟩
    rw [runG_cons]
    refine guardK_of ht ?_
    simp only [hq]
    refine hq2 hq _ ?_
    rw [putK_eq]
    exact hr _ hK'
  | false =>
   simp only [putK_eq] at h
   obtain ⟨ρ', H', hk, hr⟩ := runGS_det is hc h
   refine ⟨ρ', H', hk, fun K' hK' => ?_⟩
   rw [runG_cons]
   refine guardK_of ht ?_
   simp only [putK_eq]
   exact hr _ hK'
def awpS (P : Program) (n0 : List Nat) (c : ACode) : (AExit → List AVal → List AObj → Prop) → List AVal → List AObj → Prop :=
 @ACode.rec (fun _ => (AExit → List AVal → List AObj → Prop) → List AVal → List AObj → Prop)
  (fun Q ρ H => Q .normal ρ H)
  (fun ops Q ρ H => runS P ops ρ H (Q .normal))
  (fun ops Q ρ H => runGS P ops [] [] ρ H (Q .normal))
  (fun _ _ iha ihb Q ρ H => iha (fun e ρ' H' => match e with
   | .normal => ihb Q ρ' H'
   | .exit id => Q (.exit id) ρ' H'
   | .ret => Q .ret ρ' H') ρ H)
  (fun c _ _ iha ihb Q ρ H => evK ρ c fun v => match v with
   | .bool t => condA t fun t => match t with
    | true => iha Q ρ H
    | false => ihb Q ρ H
   | _ => False)
  (fun id _ ih Q ρ H => ih (fun e ρ' H' => match e with
   | .normal => Q .normal ρ' H'
   | .exit id' => if id' = id then Q .normal ρ' H' else Q (.exit id') ρ' H'
   | .ret => Q .ret ρ' H') ρ H)
  (fun _ ih Q ρ H => ∃ (I : Nat → List AVal → List AObj → Prop) (n : Nat) (vs : List (Nat × Nat)) (X : Nat → List AVal → List AObj → Prop), nvK vs ρ H (I n) ∧ (∀ n1 ρ1 H1, I n1 ρ1 H1 →
   forceK ρ1 fun ρ1 => ih (fun e ρ' H' => match e with
    | .normal => ∃ m, m < n1 ∧ Gp n0 ρ' H' (I m)
    | .exit id => Gp n0 ρ' H' (X id)
    | .ret => Q .ret ρ' H') ρ1 H1) ∧ ∀ id ρ1 H1, X id ρ1 H1 → forceK ρ1 fun ρ1 => Q (.exit id) ρ1 H1)
  (fun id Q ρ H => Q (.exit id) ρ H)
  (fun Q ρ H => Q .ret ρ H)
  (fun Q ρ H => Gp n0 ρ H fun ρ1 H1 => forceK ρ1 fun ρ1 => Q .normal ρ1 H1)
  (fun _ _ _ => False) c
theorem Gp.det {n0 : List Nat} {ρ : List AVal} {H : List AObj} {I : List AVal → List AObj → Prop} (h : Gp n0 ρ H I) : ∃ ρ1 H1, I ρ1 H1 ∧ ∀ I' : List AVal → List AObj → Prop, I' ρ1 H1 → Gp n0 ρ H I' := by
 rcases h with h | ⟨ids, ρ1, H1, a, b, c, d, h⟩
 ·exact ⟨ρ, H, h, fun _ h => .inl h⟩
 ·exact ⟨ρ1, H1, h, fun _ h => .inr ⟨ids, ρ1, H1, a, b, c, d, h⟩⟩
theorem nvK_det : ∀ (vs : List (Nat × Nat)) {ρ : List AVal} {H : List AObj} {k : List AVal → List AObj → Prop}, nvK vs ρ H k → ∃ ρ1 H1, k ρ1 H1 ∧ ∀ k' : List AVal → List AObj → Prop, k' ρ1 H1 → nvK vs ρ H k'
 | [], ρ, H, k, h => ⟨ρ, H, h, fun _ h => h⟩
 | (s, sz) :: vs, ρ, H, k, h => by
  simp only [nvK_cons, getK_eq, snocK_eq, setK_eq] at h ⊢
  split at h
  ·exact nvK_det vs h
  ·exact h.elim
def ACode.flat : ACode → Bool
 | .seq a b => a.flat && b.flat
 | .skip | .region _ | .draw _ | .ghost | .stuck => true
 | _ => false
theorem flat_det {P : Program} {n0 : List Nat} : ∀ (c : ACode), c.flat = true → ∀ {Q : AExit → List AVal → List AObj → Prop} {ρ : List AVal} {H : List AObj}, awpS P n0 c Q ρ H →
  ∃ ρ' H', Q .normal ρ' H' ∧ ∀ Q' : AExit → List AVal → List AObj → Prop, Q' .normal ρ' H' → awp P n0 c Q' ρ H
 | .skip, _, Q, ρ, H, h => ⟨ρ, H, h, fun _ h => h⟩
 | .region ops, _, Q, ρ, H, h => by
  obtain ⟨ρ', H', h1, h2⟩ := runS_det ops (show runS P ops ρ H (Q .normal) from h)
  exact ⟨ρ', H', h1, fun Q' hQ => h2 _ hQ⟩
 | .draw ops, _, Q, ρ, H, h => by
  obtain ⟨ρ', H', h1, h2⟩ := runGS_det (cs' := []) ops (fun c hc => by simp at hc) (show runGS P ops [] [] ρ H (Q .normal) from h)
  exact ⟨ρ', H', h1, fun Q' hQ => h2 _ hQ⟩
 | .seq a b, hf, Q, ρ, H, h => by
  simp only [ACode.flat, Bool.and_eq_true] at hf
  obtain ⟨ρ1, H1, h1, h2⟩ := flat_det a hf.1 (show awpS P n0 a _ ρ H from h)
  obtain ⟨ρ2, H2, h3, h4⟩ := flat_det b hf.2 (show awpS P n0 b Q ρ1 H1 from h1)
  exact ⟨ρ2, H2, h3, fun Q' hQ => by rw [awp_seq]; exact h2 _ (h4 _ hQ)⟩
 | .ghost, _, Q, ρ, H, h => by
  obtain ⟨ρ1, H1, h1, h2⟩ := Gp.det (show Gp n0 ρ H fun ρ1 H1 => forceK ρ1 fun ρ1 => Q .normal ρ1 H1 from h)
  rw [forceK_eq] at h1
  exact ⟨ρ1, H1, h1, fun Q' hQ => .mk (h2 _ (by rw [forceK_eq]; exact hQ))⟩
 | .stuck, _, Q, ρ, H, h => h.elim
theorem region0_flat {P : Program} {ops : Array Oper} {draw : Bool} {l : List AIns} {c : ACode} (h : region0 P ops draw l = some c) : c.flat = true := by
 unfold region0 at h
 split at h
 ·split at h
  ·cases h; rfl
  ·cases h
 ·cases h; rfl
theorem regionS_flat {P : Program} {ob : List Nat} {ops : Array Oper} {draw : Bool} {c : ACode} (h : regionS P ob ops draw = some c) : c.flat = true := by
 unfold regionS at h
 split at h
 ·split at h
  ·rename_i c0 hc
   cases h
   unfold regionA at hc
   split at hc
   ·rename_i c1 hc1
    have := region0_flat hc1
    split at hc
    ·cases hc; simp [ACode.flat, this]
    ·split at hc
     ·cases hc; simp [ACode.flat, this]
     ·cases hc; exact this
   ·cases hc
  ·cases h; rfl
 ·cases h; rfl
def Ends (P : Program) (n0 : List Nat) (c : Code) (ρ : List AVal) (H : List AObj) (e : AExit) (ρ' : List AVal) (H' : List AObj) : Prop :=
 ∀ (E : Env), E.H0.map AObj.olen = n0 → ∀ (C : Nat → Nat) (τ : Nat → Option Loc) (a : Act) (w : World), SA E C τ ρ H a w → c.wp P (QR E (fun e2 ρ2 H2 => e2 = e ∧ ρ2 = ρ' ∧ H2 = H')) a w
theorem QR.inv {E : Env} {e : AExit} {ρ' : List AVal} {H' : List AObj} {x : Exit} {a : Act} {w : World} (h : QR E (fun e2 ρ2 H2 => e2 = e ∧ ρ2 = ρ' ∧ H2 = H') x a w) :
  ∃ C τ, SA E C τ ρ' H' a w ∧ (match e with
   | .normal => x = .normal
   | .exit id => x = .exit id
   | .ret => x = .ret) := by
 cases x with
 | normal => obtain ⟨ρ, H, C, τ, ⟨rfl, rfl, rfl⟩, hs⟩ := h; exact ⟨C, τ, hs, rfl⟩
 | exit id => obtain ⟨ρ, H, C, τ, ⟨rfl, rfl, rfl⟩, hs⟩ := h; exact ⟨C, τ, hs, rfl⟩
 | ret => obtain ⟨ρ, H, C, τ, ⟨rfl, rfl, rfl⟩, hs⟩ := h; exact ⟨C, τ, hs, rfl⟩
 | _ => exact h.elim
theorem awpS_ends {P : Program} {ob : List Nat} {n0 : List Nat} : ∀ (c : Code) (ac : ACode) (Q : AExit → List AVal → List AObj → Prop) (ρ : List AVal) (H : List AObj),
  comp P ob c = some ac → awpS P n0 ac Q ρ H → ∃ e ρ' H', Q e ρ' H' ∧ Ends P n0 c ρ H e ρ' H' := by
 intro c
 induction c with
 | skip =>
  intro ac Q ρ H hc h
  simp only [comp, Option.some.injEq] at hc; subst hc
  exact ⟨.normal, ρ, H, h, fun E _ C τ a w hs => wp_skip ⟨ρ, H, C, τ, ⟨rfl, rfl, rfl⟩, hs⟩⟩
 | region id ops draw =>
  intro ac Q ρ H hc h
  obtain ⟨ρ', H', h1, h2⟩ := flat_det ac (regionS_flat (by simpa only [comp] using hc)) h
  refine ⟨.normal, ρ', H', h1, fun E he C τ a w hs => ?_⟩
  subst he
  exact code_sound (E := E) (fun id ops is Q C τ ρ H a w h1 h2 h3 h4 => draw_sound h1 h2 h3 h4) (.region id ops draw) ac _ C τ ρ H a w hc (h2 _ ⟨rfl, rfl, rfl⟩) hs
 | seq x y ihx ihy =>
  intro ac Q ρ H hc h
  simp only [comp, Option.bind_eq_bind, Option.bind_eq_some_iff, Option.pure_def, Option.some.injEq] at hc
  obtain ⟨ax, hx, ay, hy, rfl⟩ := hc
  obtain ⟨e, ρ1, H1, h1, h2⟩ := ihx ax _ ρ H hx (show awpS P n0 ax _ ρ H from h)
  cases e with
  | normal =>
   obtain ⟨e, ρ2, H2, h3, h4⟩ := ihy ay Q ρ1 H1 hy h1
   refine ⟨e, ρ2, H2, h3, fun E he C τ a w hs => wp_seq (wp_mono (h2 E he C τ a w hs) fun x a' w' hq => ?_)⟩
   obtain ⟨C', τ', hs', hx⟩ := hq.inv
   dsimp only at hx
   subst hx
   exact h4 E he C' τ' a' w' hs'
  | exit id =>
   refine ⟨.exit id, ρ1, H1, h1, fun E he C τ a w hs => wp_seq (wp_mono (h2 E he C τ a w hs) fun x a' w' hq => ?_)⟩
   obtain ⟨C', τ', hs', hx⟩ := hq.inv
   dsimp only at hx
   subst hx
   exact hq
  | ret =>
   refine ⟨.ret, ρ1, H1, h1, fun E he C τ a w hs => wp_seq (wp_mono (h2 E he C τ a w hs) fun x a' w' hq => ?_)⟩
   obtain ⟨C', τ', hs', hx⟩ := hq.inv
   dsimp only at hx
   subst hx
   exact hq
 | cond c x y ihx ihy =>
  intro ac Q ρ H hc h
  simp only [comp, Option.bind_eq_bind, Option.bind_eq_some_iff, Option.pure_def, Option.some.injEq] at hc
  obtain ⟨oc, hoc, ax, hx, ay, hy, rfl⟩ := hc
  have h : evK ρ oc fun v => match v with
   | .bool t => condA t fun t => match t with
    | true => awpS P n0 ax Q ρ H
    | false => awpS P n0 ay Q ρ H
   | _ => False := h
  simp only [evK_eq] at h
  split at h
  case h_2 => exact h.elim
  rename_i t hv
  rw [condA_eq] at h
  cases t with
  | true =>
   obtain ⟨e, ρ1, H1, h1, h2⟩ := ihx ax Q ρ H hx h
   refine ⟨e, ρ1, H1, h1, fun E he C τ a w hs => ?_⟩
   have hr := hs.ev hoc
   rw [hv] at hr
   exact wp_cond hr.bool_inv (h2 E he C τ a w hs)
  | false =>
   obtain ⟨e, ρ1, H1, h1, h2⟩ := ihy ay Q ρ H hy h
   refine ⟨e, ρ1, H1, h1, fun E he C τ a w hs => ?_⟩
   have hr := hs.ev hoc
   rw [hv] at hr
   exact wp_cond hr.bool_inv (h2 E he C τ a w hs)
 | block id x ih =>
  intro ac Q ρ H hc h
  simp only [comp, Option.bind_eq_bind, Option.bind_eq_some_iff, Option.pure_def, Option.some.injEq] at hc
  obtain ⟨ax, hx, rfl⟩ := hc
  have main : ∀ (Q : AExit → List AVal → List AObj → Prop), awpS P n0 (.block id ax) Q ρ H → ∃ e ρ' H', Q e ρ' H' ∧ Ends P n0 (.block id x) ρ H e ρ' H' := by
   intro Q h
   obtain ⟨e, ρ1, H1, h1, h2⟩ := ih ax _ ρ H hx (show awpS P n0 ax _ ρ H from h)
   cases e with
   | normal =>
    refine ⟨.normal, ρ1, H1, h1, fun E he C τ a w hs => wp_block (wp_mono (h2 E he C τ a w hs) fun x a' w' hq => ?_)⟩
    obtain ⟨C', τ', hs', hx⟩ := hq.inv
    dsimp only at hx
    subst hx
    exact hq
   | exit id' =>
    have h1 : (if id' = id then Q .normal ρ1 H1 else Q (.exit id') ρ1 H1) := h1
    by_cases hid : id' = id
    ·rw [if_pos hid] at h1
     refine ⟨.normal, ρ1, H1, h1, fun E he C τ a w hs => wp_block (wp_mono (h2 E he C τ a w hs) fun x a' w' hq => ?_)⟩
     obtain ⟨C', τ', hs', hx⟩ := hq.inv
     dsimp only at hx
     subst hx
     simp only [Exit.inBlock, hid, if_true]
     exact ⟨ρ1, H1, C', τ', ⟨rfl, rfl, rfl⟩, hs'⟩
    ·rw [if_neg hid] at h1
     refine ⟨.exit id', ρ1, H1, h1, fun E he C τ a w hs => wp_block (wp_mono (h2 E he C τ a w hs) fun x a' w' hq => ?_)⟩
     obtain ⟨C', τ', hs', hx⟩ := hq.inv
     dsimp only at hx
     subst hx
     simp only [Exit.inBlock, hid, if_false]
     exact hq
   | ret =>
    refine ⟨.ret, ρ1, H1, h1, fun E he C τ a w hs => wp_block (wp_mono (h2 E he C τ a w hs) fun x a' w' hq => ?_)⟩
    obtain ⟨C', τ', hs', hx⟩ := hq.inv
    dsimp only at hx
    subst hx
    exact hq
  unfold blockG at h
  split at h
  ·obtain ⟨e, ρ1, H1, h1, h2⟩ := main (fun e ρ' H' => match e with
    | .normal => Gp n0 ρ' H' fun ρ1 H1 => forceK ρ1 fun ρ1 => Q .normal ρ1 H1
    | .exit id => Q (.exit id) ρ' H'
    | .ret => Q .ret ρ' H') h
   cases e with
   | normal =>
    obtain ⟨ρ2, H2, h3, h4⟩ := Gp.det (show Gp n0 ρ1 H1 fun ρ1 H1 => forceK ρ1 fun ρ1 => Q .normal ρ1 H1 from h1)
    rw [forceK_eq] at h3
    refine ⟨.normal, ρ2, H2, h3, fun E he C τ a w hs => wp_mono (h2 E he C τ a w hs) fun x a' w' hq => ?_⟩
    obtain ⟨C', τ', hs', hx⟩ := hq.inv
    dsimp only at hx
    subst hx
    obtain ⟨ρ3, H3, C3, τ3, hI, hs3⟩ := hs'.regroup (h4 (fun ρ H => ρ = ρ2 ∧ H = H2) ⟨rfl, rfl⟩ |> fun g => by rw [he]; exact g)
    exact ⟨ρ3, H3, C3, τ3, ⟨rfl, hI⟩, hs3⟩
   | exit id' => exact ⟨.exit id', ρ1, H1, h1, h2⟩
   | ret => exact ⟨.ret, ρ1, H1, h1, h2⟩
  ·exact main Q h
 | loop x ih =>
  intro ac Q ρ H hc h
  simp only [comp, Option.bind_eq_bind, Option.bind_eq_some_iff, Option.pure_def, Option.some.injEq] at hc
  obtain ⟨ax, hx, rfl⟩ := hc
  obtain ⟨I, n, vs, X, h0, hround, hX⟩ := h
  have key : ∀ (n : Nat) (ρ : List AVal) (H : List AObj), I n ρ H → ∃ e ρ' H', Q e ρ' H' ∧ ∀ (E : Env), E.H0.map AObj.olen = n0 → ∀ (C : Nat → Nat) (τ : Nat → Option Loc) (a : Act) (w : World), SA E C τ ρ H a w →
    ∀ (b : Frame) (k : List Item) (cs : List Frame), ∃ x' a' w', QR E (fun e2 ρ2 H2 => e2 = e ∧ ρ2 = ρ' ∧ H2 = H') x' a' w' ∧ Arrives P (lone (b.at a (.code x :: .inLoop x :: k)) cs w) b k cs x' a' w' := by
   intro n
   induction n using Nat.strongRecOn with
   | _ n ihn =>
    intro ρ H hI
    have h := hround n ρ H hI
    rw [forceK_eq] at h
    obtain ⟨e1, ρ1, H1, h1, h2⟩ := ih ax _ ρ H hx h
    cases e1 with
    | normal =>
     obtain ⟨m, hlt, hg⟩ := h1
     obtain ⟨ρ2, H2, h3, h4⟩ := hg.det
     obtain ⟨e, ρ', H', h5, h6⟩ := ihn m hlt ρ2 H2 h3
     refine ⟨e, ρ', H', h5, fun E he C τ a w hs b k cs => ?_⟩
     obtain ⟨x', a1, w1, hq, harr⟩ := h2 E he C τ a w hs b (.inLoop x :: k) cs
     obtain ⟨C', τ', hs', hx⟩ := hq.inv
     dsimp only at hx
     subst hx
     obtain ⟨ρ3, H3, C3, τ3, ⟨rfl, rfl⟩, hs3⟩ := hs'.regroup (h4 (fun ρ H => ρ = ρ2 ∧ H = H2) ⟨rfl, rfl⟩ |> fun g => by rw [he]; exact g)
     obtain ⟨e2, a2, w2, hq2, harr2⟩ := h6 E he C3 τ3 a1 w1 hs3 b k cs
     exact ⟨e2, a2, w2, hq2, .of_steps (Steps.trans harr (.one step_inLoop)) harr2⟩
    | exit id =>
     obtain ⟨ρ2, H2, h3, h4⟩ := Gp.det (show Gp n0 ρ1 H1 (X id) from h1)
     have h5 := hX id ρ2 H2 h3
     rw [forceK_eq] at h5
     refine ⟨.exit id, ρ2, H2, h5, fun E he C τ a w hs b k cs => ?_⟩
     obtain ⟨x', a1, w1, hq, harr⟩ := h2 E he C τ a w hs b (.inLoop x :: k) cs
     obtain ⟨C', τ', hs', hx⟩ := hq.inv
     dsimp only at hx
     subst hx
     obtain ⟨ρ3, H3, C3, τ3, ⟨rfl, rfl⟩, hs3⟩ := hs'.regroup (h4 (fun ρ H => ρ = ρ2 ∧ H = H2) ⟨rfl, rfl⟩ |> fun g => by rw [he]; exact g)
     exact ⟨.exit id, a1, w1, ⟨_, _, C3, τ3, ⟨rfl, rfl, rfl⟩, hs3⟩, .pass (x := .inLoop x) rfl (fun _ _ => .inl (by simp)) harr⟩
    | ret =>
     refine ⟨.ret, ρ1, H1, h1, fun E he C τ a w hs b k cs => ?_⟩
     obtain ⟨x', a1, w1, hq, harr⟩ := h2 E he C τ a w hs b (.inLoop x :: k) cs
     obtain ⟨C', τ', hs', hx⟩ := hq.inv
     dsimp only at hx
     subst hx
     exact ⟨.ret, a1, w1, hq, .pass (x := .inLoop x) rfl (fun _ _ => .inl (by simp)) harr⟩
  obtain ⟨ρ1, H1, h1, h2⟩ := nvK_det vs h0
  obtain ⟨e, ρ', H', h3, h4⟩ := key n ρ1 H1 h1
  refine ⟨e, ρ', H', h3, fun E he C τ a w hs b k cs => ?_⟩
  obtain ⟨τ1, ρ2, H2, ⟨rfl, rfl⟩, hs1⟩ := hs.nv vs (h2 (fun ρ H => ρ = ρ1 ∧ H = H1) ⟨rfl, rfl⟩)
  obtain ⟨x', a', w', hq, harr⟩ := h4 E he C τ1 a w hs1 b k cs
  exact ⟨x', a', w', hq, .of_steps (.one step_loop) harr⟩
 | exit id =>
  intro ac Q ρ H hc h
  simp only [comp, Option.some.injEq] at hc; subst hc
  exact ⟨.exit id, ρ, H, h, fun E _ C τ a w hs => wp_exit ⟨ρ, H, C, τ, ⟨rfl, rfl, rfl⟩, hs⟩⟩
 | ret =>
  intro ac Q ρ H hc h
  simp only [comp, Option.some.injEq] at hc; subst hc
  exact ⟨.ret, ρ, H, h, fun E _ C τ a w hs => wp_ret ⟨ρ, H, C, τ, ⟨rfl, rfl, rfl⟩, hs⟩⟩
 | scope x ih =>
  intro ac Q ρ H hc h
  simp only [comp] at hc
  obtain ⟨e1, ρ1, H1, h1, h2⟩ := ih ac Q ρ H hc h
  refine ⟨e1, ρ1, H1, h1, fun E he C τ a w hs => wp_scope_straight (wp_mono (h2 E he C τ a w hs) fun e a' w' hq => ?_)⟩
  cases e with
  | goto l => exact hq.elim
  | normal => exact hq
  | exit id => exact hq
  | ret => exact hq
  | _ => exact hq.elim
 | label l =>
  intro ac Q ρ H hc h
  simp only [comp, Option.some.injEq] at hc; subst hc
  exact ⟨.normal, ρ, H, h, fun E _ C τ a w hs => wp_label ⟨ρ, H, C, τ, ⟨rfl, rfl, rfl⟩, hs⟩⟩
 | _ => intro ac Q ρ H hc h; simp only [comp, Option.some.injEq] at hc; subst hc; exact h.elim
theorem resK_det {ρ : List AVal} {H : List AObj} : ∀ (rs : List ARes) {k : List AVal → Prop}, resK ρ H rs k → ∃ vs, k vs ∧ ∀ k' : List AVal → Prop, k' vs → resK ρ H rs k'
 | [], k, h => ⟨[], h, fun _ h => h⟩
 | .tmp t :: rs, k, h => by
  simp only [resK_tmp, getK_eq] at h ⊢
  obtain ⟨vs, h1, h2⟩ := resK_det rs h
  exact ⟨_, h1, fun k' hk => h2 _ hk⟩
 | .cell ag sz t :: rs, k, h => by
  simp only [resK_cell, getK_eq, forceK_eq] at h ⊢
  split at h
  ·simp only [objK, idxA_iff] at h ⊢
   obtain ⟨ob, hob, h⟩ := h
   split at h
   ·simp only [elemA_iff, chkA_iff] at h
    obtain ⟨h1, e, h2, h3, h4⟩ := h
    obtain ⟨vs, h5, h6⟩ := resK_det rs h4
    exact ⟨_, h5, fun k' hk => ⟨_, hob, by simp only [elemA_iff, chkA_iff]; exact ⟨h1, e, h2, h3, h6 _ hk⟩⟩⟩
   ·exact h.elim
  ·exact h.elim
theorem tupK_det {vs : List AVal} {k : AVal → Prop} (h : tupK vs k) : ∃ v, k v ∧ ∀ k' : AVal → Prop, k' v → tupK vs k' := by
 unfold tupK at h ⊢
 split at h
 ·exact ⟨_, h, fun _ h => h⟩
 ·exact ⟨_, h, fun _ h => h⟩
def AExit.isOut : AExit → Bool
 | .exit _ => false
 | _ => true
theorem acallsS_of_body {P : Program} {f : FuncId} {ob : List Nat} {af : AFunc} {args : List AVal} {H : List AObj} {Q : AVal → List AObj → Prop} (hf : Has P f ob af)
  (h : forceK (args ++ List.replicate (af.ntmps - args.length) (.tuple [])) fun ρ => awpS P (H.map AObj.olen) af.code (fun e ρ' H' => match e with
   | .exit _ => False
   | _ => resK ρ' H' af.res fun vs => tupK vs fun v => Q v H') ρ H) : ∃ v H1, Q v H1 ∧ ACalls P f args H (fun r H' => r = v ∧ H' = H1) := by
 rw [forceK_eq] at h
 obtain ⟨fn, c, hfn, hname, hbody, hcomp, hnt, hres⟩ := hf
 obtain ⟨ae, ρ', H', h1, h2⟩ := awpS_ends c af.code _ _ H hcomp h
 have h1 : ae.isOut = true ∧ resK ρ' H' af.res fun vs => tupK vs fun v => Q v H' := by
  cases ae with
  | normal => exact ⟨rfl, h1⟩
  | exit id => exact h1.elim
  | ret => exact ⟨rfl, h1⟩
 obtain ⟨he, h1⟩ := h1
 obtain ⟨xs, h3, h4⟩ := resK_det _ h1
 obtain ⟨v, hv, h5⟩ := tupK_det h3
 refine ⟨v, H', hv, ?_⟩
 intro C τ w vs hw hl hr
 have hcall : (callFunc f vs).run P w = .ok (.enter f vs) w := by
  simp only [callFunc, Sem.run_bind, run_program, Result.andThen_ok, hfn, hname, Bool.false_eq_true, if_false, hbody, Option.isNone_some, Sem.run_pure]
 unfold CallsX
 rw [hcall]
 let E : Env := ⟨w, PrCall τ H w, C, τ, H, fun b hb hn => Classical.byContradiction fun ho => hn ⟨hb, ho⟩⟩
 have hsa : SA E C τ (args ++ List.replicate (af.ntmps - args.length) (.tuple [])) H { tmps := vs ++ Array.replicate (fn.ntmps - vs.size) undef, defers := [] } w := by
  refine ⟨St.start hw, Step.refl, fun t => ?_, by simp [hl, hnt], rfl⟩
  rw [getT_append_replicate]
  simp only [Array.getD_eq_getD_getElem?]
  by_cases ht : t < args.length
  ·rw [dif_pos ht, Array.getElem?_append_left (by omega), Array.getElem?_eq_getElem (by omega)]
   exact hr t _ _ (List.getElem?_eq_getElem ht) (Array.getElem?_eq_getElem (by omega))
  ·rw [dif_neg ht, Array.getElem?_append_right (by omega)]
   split
   ·rename_i h2
    rw [Array.getElem?_replicate, if_pos (by omega)]
    exact rel_skip
   ·exact .undef _
 refine calls_of_wp hfn hbody (wp_mono (h2 E rfl C τ _ w hsa) fun x a' w' hq => ?_)
 obtain ⟨C', τ', hs, hx⟩ := hq.inv
 have fin : a'.defers = [] ∧ ∃ u, (results fn a'.tmps).run P w' = .ok u w' ∧ ∃ v2 r C' τ' H1, Ending.returned u = .returned v2 ∧ (r = v ∧ H1 = H') ∧ Rel C' w' τ' H1 r v2 ∧ St w (PrCall τ H w) C' τ' H1 w' ∧ Step C τ H w C' τ' H1 w' := by
  refine ⟨hs.defers, ?_⟩
  obtain ⟨xs2, us, g1, g2, g3, g4⟩ := run_results hs fn.results.toList af.res _ hres (h4 (fun zs => tupK zs fun z => z = v) (h5 _ rfl))
  have hm : (fn.results.mapM (resOne a'.tmps)).run P w' = .ok us.toArray w' := by
   rw [Array.mapM_eq_mapM_toList, Sem.run_map, g2]; rfl
  have hrun : (results fn a'.tmps).run P w' = .ok (if h : us.toArray.size = 1 then us.toArray[0] else .tuple us.toArray) w' := by
   rw [results_eq, Sem.run_bind, hm]
   rfl
  refine ⟨_, hrun, ?_⟩
  unfold tupK at g1
  split at g1
  ·rename_i v0
   subst g1
   have hu : us.length = 1 := by rw [← g3]; rfl
   obtain ⟨u, rfl⟩ := List.length_eq_one_iff.1 hu
   exact ⟨_, v0, C', τ', H', rfl, ⟨rfl, rfl⟩, g4 0 v0 u rfl rfl, hs.st, hs.step⟩
  ·rename_i hne
   subst g1
   have hu : ¬ us.toArray.size = 1 := by
    intro hu
    simp at hu
    rw [← g3] at hu
    obtain ⟨v, hv⟩ := List.length_eq_one_iff.1 hu
    exact hne v hv
   refine ⟨_, _, C', τ', H', rfl, ⟨rfl, rfl⟩, ?_, hs.st, hs.step⟩
   rw [dif_neg hu]
   exact .tuple _ _ (by simpa using g3) fun i c v hc hv => g4 i c v hc (by simpa using hv)
 cases ae with
 | normal => dsimp only at hx; subst hx; exact fin
 | exit id => cases he
 | ret => dsimp only at hx; subst hx; exact fin
theorem dets_of_body {P : Program} {f : FuncId} {ob : List Nat} {af : AFunc} {args : List AVal} {S : AVal → Prop} (hf : Has P f ob af) (ha : args.all AVal.closed = true)
  (h : forceK (args ++ List.replicate (af.ntmps - args.length) (.tuple [])) fun ρ => awpS P [] af.code (fun e ρ' H' => match e with
   | .exit _ => False
   | _ => resK ρ' H' af.res fun vs => tupK vs fun v => ∃ r, Pub H' 0 [] v r ∧ S r) ρ []) : DetS P f args S := by
 obtain ⟨v, H1, ⟨r, hp, hs⟩, hc⟩ := acallsS_of_body (H := []) (Q := fun v H' => ∃ r, Pub H' 0 [] v r ∧ S r) hf h
 exact ⟨r, hs, fun H => ACalls.pure ha (hc.mono fun _ _ ⟨h1, h2⟩ => by subst h1 h2; exact hp)⟩
attribute [local irreducible] ACalls CallE CallS Gp
theorem bb {b : Bool} : (b == b) = true := by cases b <;> rfl
end Go.AW
namespace Go.AW
variable [Draws]
def AVal.low (n : Nat) : AVal → Bool
 | .ptr id _ _ _ => Nat.blt id n
 | .sl id _ _ _ => Nat.blt id n
 | .mp id => Nat.blt id n
 | v => v.closed
def AVal.lowC (n : Nat) : AVal → Bool
 | .ptr id _ _ _ => Nat.blt id n
 | .sl id _ _ _ => Nat.blt id n
 | v => v.isPure
def AObj.lowO (n : Nat) : AObj → Prop
 | .arr _ es => (es.all fun e => e.all (AVal.lowC n)) = true
 | .map kvs => (kvs.all fun kv => kv.2.closed) = true
 | _ => False
def LowH (n : Nat) : List AObj → Prop
 | [] => True
 | o :: r => o.lowO n ∧ LowH n r
theorem LowH.get {n : Nat} : ∀ {H : List AObj}, LowH n H → ∀ o ∈ H, o.lowO n
 | [], _, o, ho => by cases ho
 | x :: H, h, o, ho => by
  rcases List.mem_cons.1 ho with rfl | ho
  ·exact h.1
  ·exact LowH.get h.2 o ho
theorem pub_lowC {H : List AObj} {n : Nat} {v : AVal} (h : v.lowC n = true) : Pub H 0 (List.range n) v v ∧ v.isCell = true := by
 have get : ∀ {i : Nat}, i < n → (List.range n)[i]? = some i := fun {i} hi => by rw [List.getElem?_range hi]
 cases v with
 | ptr id ep idx fld =>
  have hid : id < n := by have := h; simp [AVal.lowC, Nat.blt] at this; omega
  have := Pub.keepP (H1 := H) (n := 0) (ids := List.range n) id ep idx fld id (get hid)
  rw [Nat.zero_add] at this
  exact ⟨this, rfl⟩
 | sl id ep off len =>
  have hid : id < n := by have := h; simp [AVal.lowC, Nat.blt] at this; omega
  have := Pub.keep (H1 := H) (n := 0) (ids := List.range n) id ep off len id (get hid)
  rw [Nat.zero_add] at this
  exact ⟨this, rfl⟩
 | _ => first
  | exact ⟨.closed _ h, rfl⟩
  | cases h
theorem pub_low {H : List AObj} {n : Nat} {v : AVal} (h : v.low n = true) : Pub H 0 (List.range n) v v := by
 cases v with
 | ptr id ep idx fld => exact (pub_lowC (v := .ptr id ep idx fld) h).1
 | sl id ep off len => exact (pub_lowC (v := .sl id ep off len) h).1
 | mp id =>
  have hid : id < n := by have := h; simp [AVal.low, Nat.blt] at this; omega
  have := Pub.keepM (H1 := H) (n := 0) (ids := List.range n) id id (by rw [List.getElem?_range hid])
  rwa [Nat.zero_add] at this
 | _ => exact .closed _ h
theorem ob_low {H : List AObj} {n : Nat} {o : AObj} (h : o.lowO n) : ObP H (List.range n) o o := by
 cases o with
 | arr esz es =>
  have hc : ∀ (i j : Nat) (e : List AVal) (d : AVal), es[i]? = some e → e[j]? = some d → d.lowC n = true := fun i j e d he hd =>
   List.all_eq_true.1 (List.all_eq_true.1 h e (List.mem_of_getElem? he)) d (List.mem_of_getElem? hd)
  refine .map esz es es rfl (fun i e e1 h1 h2 => by rw [h1] at h2; cases h2; rfl) fun i j e e1 d d1 h1 h2 h3 h4 => ?_
  rw [h1] at h2; cases h2
  rw [h3] at h4; cases h4
  exact pub_lowC (hc i j e d h1 h3)
 | map kvs => exact .mpc _ h
 | _ => exact h.elim
def lowS (n : Nat) : List (Nat × AVal) → Bool
 | [] => true
 | p :: r => p.2.low n && lowS n r
theorem SvPub.of {H : List AObj} {n : Nat} {ρ : List AVal} : ∀ {live : List (Nat × AVal)}, SvAll ρ live → lowS n live = true → SvPub H (List.range n) ρ live
 | [], _, _ => trivial
 | (j, v) :: r, h, hl => by
  simp only [lowS, Bool.and_eq_true] at hl
  refine ⟨?_, SvPub.of h.2 hl.2⟩
  rw [h.1]
  exact pub_low hl.1
theorem gpO_range {H G : List AObj} (hp : LowH H.length H) : ∀ (k : Nat), k ≤ H.length → gpO (H ++ G) (List.range H.length) (List.range' k (H.length - k)) (H.drop k) := by
 intro k hk
 obtain ⟨j, hj⟩ : ∃ j, j = H.length - k := ⟨_, rfl⟩
 induction j generalizing k with
 | zero =>
  rw [show H.length - k = 0 from hj.symm, List.drop_eq_nil_of_le (by omega)]
  trivial
 | succ j ih =>
  have hlt : k < H.length := by omega
  rw [show H.length - k = (H.length - (k + 1)) + 1 from by omega, List.range'_succ, List.drop_eq_getElem_cons hlt]
  refine ⟨⟨H[k], ?_, ob_low (hp.get _ (List.getElem_mem _))⟩, ih (k + 1) (by omega) (by omega)⟩
  rw [List.getElem?_append_left hlt, List.getElem?_eq_getElem hlt]
theorem Gp.cut {n : Nat} {live : List (Nat × AVal)} {ρ : List AVal} {H H' G : List AObj} {I : List AVal → List AObj → Prop} (hH : H' = H ++ G) (hp : LowH H.length H) (hl : ρ.length = n) (hlow : lowS H.length live = true) (h : SvAll ρ live)
  (hI : ∀ ρ1, Sv n live ρ1 → I ρ1 H) : Gp [] ρ H' I := by
 subst hH
 refine Gp.keepL (List.range H.length) List.nodup_range (fun k n h => by simp at h) (H1 := H) ?_ hl (SvPub.of h hlow) hI
 have := gpO_range (G := G) hp 0 (Nat.zero_le _)
 rw [List.drop_zero, Nat.sub_zero] at this
 rw [List.range_eq_range']
 rwa [List.range_eq_range'] at this
theorem recAd {c : Prop} [Decidable c] {p q : Prop} (ht : c → p) (hf : ¬ c → q) : @Bool.rec (fun _ => Prop) q p (decide c) := by
 by_cases h : c
 ·rw [decide_eq_true h]; exact ht h
 ·rw [decide_eq_false h]; exact hf h
theorem recAe {a b : Int} {p q : Prop} (ht : a = b → p) (hf : a ≠ b → q) : @Bool.rec (fun _ => Prop) q p (a == b) := by
 by_cases h : a = b
 ·rw [beq_iff_eq.2 h]; exact ht h
 ·rw [beq_eq_false_iff_ne.2 h]; exact hf h
theorem recAn {a b : Int} {p q : Prop} (ht : a ≠ b → p) (hf : a = b → q) : @Bool.rec (fun _ => Prop) q p (a != b) := by
 by_cases h : a = b
 ·rw [bne_eq_false_iff_eq.2 h]; exact hf h
 ·rw [bne_iff_ne.2 h]; exact ht h
theorem recNot {b : Bool} {p q : Prop} (ht : b = false → p) (hf : b = true → q) : @Bool.rec (fun _ => Prop) q p (!b) := by
 cases b
 ·exact ht rfl
 ·exact hf rfl
theorem recOm {α : Type} {f : α → List AVal} {l : List α} {i : Nat} {q : Prop} {k : List AVal → Prop} (hi : i < l.length) (h : ∀ x, l[i]? = some x → x ∈ l → k (f x)) : @Option.rec (List AVal) (fun _ => Prop) q (fun e => k e) (l.map f)[i]? := by
 have h1 : (l.map f)[i]? = some (f l[i]) := by rw [List.getElem?_map, List.getElem?_eq_getElem hi]; rfl
 exact recO h1 (h l[i] (List.getElem?_eq_getElem hi) (List.getElem_mem hi))
theorem map_at {α : Type} {f : α → List AVal} {l : List α} {i : Nat} {x : α} (h : l[i]? = some x) : (l.map f)[i]? = some (f x) := by rw [List.getElem?_map, h]; rfl
def mC {α : Type} (f : α → List AVal) (l : List α) : List (List AVal) := l.map f
@[simp] theorem mC_length {α : Type} (f : α → List AVal) (l : List α) : (mC f l).length = l.length := List.length_map ..
theorem mC_append {α : Type} (f : α → List AVal) (a b : List α) : mC f (a ++ b) = mC f a ++ mC f b := List.map_append
theorem mC_at {α : Type} {f : α → List AVal} {l : List α} {k : Nat} {x : α} (h : l[k]? = some x) : (mC f l)[k]? = some (f x) := by rw [mC, List.getElem?_map, h]; rfl
theorem mC_pure {α : Type} {f : α → List AVal} (hf : ∀ x, (f x).all AVal.isPure = true) (l : List α) : pureEs (mC f l) = true := by
 simp only [pureEs, mC, List.all_map, List.all_eq_true]
 exact fun x _ => hf x
attribute [simp] cC_length sC_length vC_length iC_length kyC_length eC_length
structure Nod where
 op : Int
 v : V
 name : ByteArray
 ar : Int
structure Sft where
 at' : Int
 off : Int
structure Zon where
 name : ByteArray
 off : Int
 shifts : List Sft
def nodC (n : Nod) : List AVal := [.int .i64 n.op, .int .i64 n.v.kind, .int .i64 n.v.num, .str n.v.str, .str n.name, .int .i64 n.ar]
def nL (l : List Nod) : AVal := .list false 6 (mC nodC l)
def sftC (s : Sft) : List AVal := [.int .i64 s.at', .int .i64 s.off]
def zonC (z : Zon) : List AVal := [.str z.name, .int .i64 z.off, .list false 2 (mC sftC z.shifts)]
def zoL (l : List Zon) : AVal := .list false 3 (mC zonC l)
theorem nod_pure (n : Nod) : (nodC n).all AVal.isPure = true := rfl
attribute [local irreducible] ACalls CallE CallS Gp
def IsI (r : AVal) : Prop := ∃ n : Int, r = .int .i64 n
theorem isI (n : Int) {H : List AObj} : ∃ r, Pub H 0 [] (.int .i64 n) r ∧ IsI r := ⟨_, .closed _ rfl, _, rfl⟩
def resW : List ByteArray := [bs [97, 110, 100], bs [111, 114], bs [110, 111, 116], bs [110, 117, 108, 108], bs [116, 114, 117, 101], bs [102, 97, 108, 115, 101], bs [98, 121], bs [115, 101, 108, 102]]
def arN (n : Nod) : Int := if n.op = 21 then n.ar else if n.op = 0 ∨ n.op = 1 then 0 else if n.op = 2 ∨ n.op = 3 ∨ n.op = 16 ∨ n.op = 19 ∨ n.op = 20 then 1 else if n.op = 17 then 3 else if 4 ≤ n.op ∧ n.op ≤ 18 then 2 else -1
end Go.AW
namespace Go.AW
variable [Draws]
def stk {α : Type} (f : Nod → List α → Option α) : List Nod → List α → Option (List α)
 | [], s => some s
 | n :: e, s => if (arN n).toNat ≤ s.length then (f n (s.drop (s.length - (arN n).toNat))).bind fun x => stk f e (s.take (s.length - (arN n).toNat) ++ [x]) else none
theorem stk_append {α : Type} (f : Nod → List α → Option α) : ∀ (a b : List Nod) (s : List α), stk f (a ++ b) s = (stk f a s).bind (stk f b)
 | [], _, _ => rfl
 | n :: a, b, s => by
  rw [List.cons_append, stk, stk]
  split
  ·cases f n (s.drop (s.length - (arN n).toNat)) with
   | none => rfl
   | some x => exact stk_append f a b _
  ·rfl
def Lv {α : Type} (f : Nod → List α → Option α) (e : List Nod) (x : α) : Prop := ∀ s, stk f e s = some (s ++ [x])
theorem Lv.node {α : Type} {f : Nod → List α → Option α} {n : Nod} {l : List α} {x : α} (ha : (arN n).toNat = l.length) (hf : f n l = some x) (s : List α) : stk f [n] (s ++ l) = some (s ++ [x]) := by
 have h1 : (s ++ l).length - (arN n).toNat = s.length := by rw [List.length_append]; omega
 rw [stk, if_pos (by rw [List.length_append]; omega), h1, List.drop_left, hf, List.take_left]
 rfl
theorem Lv.n0 {α : Type} {f : Nod → List α → Option α} {n : Nod} {x : α} (ha : (arN n).toNat = 0) (hf : f n [] = some x) : Lv f [n] x := fun s => by
 have := Lv.node (s := s) (l := []) ha hf
 rwa [List.append_nil] at this
theorem Lv.n1 {α : Type} {f : Nod → List α → Option α} {n : Nod} {e1 : List Nod} {a x : α} (h1 : Lv f e1 a) (ha : (arN n).toNat = 1) (hf : f n [a] = some x) : Lv f (e1 ++ [n]) x := fun s => by
 rw [stk_append, h1]
 exact Lv.node (s := s) (l := [a]) ha hf
theorem Lv.n2 {α : Type} {f : Nod → List α → Option α} {n : Nod} {e1 e2 : List Nod} {a b x : α} (h1 : Lv f e1 a) (h2 : Lv f e2 b) (ha : (arN n).toNat = 2) (hf : f n [a, b] = some x) : Lv f (e1 ++ e2 ++ [n]) x := fun s => by
 rw [stk_append, stk_append, h1, Option.bind_some, h2, Option.bind_some, List.append_assoc]
 exact Lv.node (s := s) (l := [a, b]) ha hf
theorem Lv.n3 {α : Type} {f : Nod → List α → Option α} {n : Nod} {e1 e2 e3 : List Nod} {a b c x : α} (h1 : Lv f e1 a) (h2 : Lv f e2 b) (h3 : Lv f e3 c) (ha : (arN n).toNat = 3) (hf : f n [a, b, c] = some x) : Lv f (e1 ++ e2 ++ e3 ++ [n]) x := fun s => by
 rw [stk_append, stk_append, stk_append, h1, Option.bind_some, h2, Option.bind_some, h3, Option.bind_some, List.append_assoc, List.append_assoc]
 exact Lv.node (s := s) (l := [a, b, c]) ha hf
def resB (s : ByteArray) : Bool := resW.any (eqS s)
def zNm : List ByteArray := [bs [122, 48], bs [122, 49], bs [122, 50]]
structure Gd (n : Nod) : Prop where
 ar : n.ar = 0
 op : 0 ≤ n.op ∧ n.op ≤ 20
 cst : n.op = 0 → n.name = bs [] ∧ validB n.v = true
 z : n.op ≠ 0 → n.v = ⟨0, 0, bs []⟩
 nm : n.op ≠ 1 → n.op ≠ 20 → n.name = bs []
 col : n.op = 1 → nameB n.name = true ∧ resB n.name = false ∧ n.name.size ≤ 24
 day : n.op = 20 → n.name ∈ zNm
theorem Gd.ar3 {n : Nod} (h : Gd n) : 0 ≤ arN n ∧ arN n ≤ 3 := by
 have := h.op
 unfold arN; (repeat' split) <;> omega
abbrev Kd := Int × Bool
def kft (a : Kd) (k : Int) : Bool := a.1 == k || a.1 == 0
def kcm (a b : Kd) : Int × Bool := if a.1 == 0 then (b.1, true) else (a.1, kft b a.1)
def tyO (op : Int) : List Kd → Kd × Bool
 | [a] => if op = 2 then ((1, a.2), kft a 1) else if op = 3 then ((2, a.2), kft a 2) else if op = 16 then ((1, false), true) else if op = 19 then ((2, a.2), kft a 3) else ((2, a.2), kft a 4)
 | [a, b] => if op = 4 then (if a.1 = 4 then ((4, true), kft b 2) else ((2, true), kft a 2 && kft b 2))
   else if op = 5 then (if b.1 = 4 then ((2, a.2 || b.2), kft a 4) else if a.1 = 4 then ((4, true), kft b 2) else ((2, true), kft a 2 && kft b 2))
   else if 6 ≤ op ∧ op ≤ 8 then ((2, true), kft a 2 && kft b 2)
   else if op = 9 then ((3, true), kft a 3 && kft b 3)
   else if 10 ≤ op ∧ op ≤ 13 then ((1, a.2 || b.2), (kcm a b).2)
   else if op = 14 ∨ op = 15 then ((1, a.2 || b.2), kft a 1 && kft b 1)
   else (((kcm a b).1, a.2 && b.2), (kcm a b).2)
 | [a, b, c] => (((kcm b c).1, b.2 || c.2), (kcm b c).2 && kft a 1)
 | _ => ((0, false), false)
def hgt (l : List Int) : Int := l.foldl (fun h x => max h (1 + x)) 1
open Classical in
noncomputable def fH (n : Nod) (l : List Int) : Option Int := if Gd n ∧ hgt l ≤ 64 then some (hgt l) else none
def fK (cs : List Col) (n : Nod) (l : List Kd) : Option Kd :=
 if n.op = 0 then some (n.v.kind, n.v.kind == 0)
 else if n.op = 1 then (if 0 ≤ colIdx cs n.name then (cs[(colIdx cs n.name).toNat]?).map fun c => (c.kind, c.nul) else none)
 else if (tyO n.op l).2 then some (tyO n.op l).1 else none
structure Ex (cs : List Col) (e : List Nod) (k : Kd) (N : Nat) (h : Int) : Prop where
 len : e.length ≤ N
 hh : ∃ h' : Int, 1 ≤ h' ∧ h' ≤ h ∧ Lv fH e h'
 kk : Lv (fK cs) e k
 gd : ∀ n ∈ e, Gd n
theorem stk_frame {α : Type} (f : Nod → List α → Option α) (b : List α) : ∀ (e : List Nod) (s t : List α), stk f e s = some t → stk f e (b ++ s) = some (b ++ t)
 | [], s, t, h => by cases h; rfl
 | n :: e, s, t, h => by
  rw [stk] at h ⊢
  split at h
  ·rename_i hl
   have h1 : (b ++ s).length - (arN n).toNat = b.length + (s.length - (arN n).toNat) := by rw [List.length_append]; omega
   rw [if_pos (by rw [List.length_append]; omega), h1, List.drop_append, List.take_append, List.drop_eq_nil_of_le (by omega), List.take_of_length_le (by omega)]
   simp only [Nat.add_sub_cancel_left, List.nil_append]
   cases hf : f n (s.drop (s.length - (arN n).toNat)) with
   | none => rw [hf] at h; cases h
   | some x =>
    rw [hf] at h
    show stk f e (b ++ s.take (s.length - (arN n).toNat) ++ [x]) = _
    rw [List.append_assoc]
    exact stk_frame f b e _ t h
  ·cases h
theorem Lv.of {α : Type} {f : Nod → List α → Option α} {e : List Nod} {x : α} (h : stk f e [] = some [x]) : Lv f e x := fun s => by
 have := stk_frame f s e [] [x] h
 rwa [List.append_nil] at this
theorem stk_total {α β : Type} (f : Nod → List α → Option α) (g : Nod → List β → Option β) (hg : ∀ n l, ∃ x, g n l = some x) : ∀ (e : List Nod) (s t : List α) (u : List β), stk f e s = some t → u.length = s.length → ∃ v, stk g e u = some v ∧ v.length = t.length
 | [], s, t, u, h, hu => by cases h; exact ⟨u, rfl, hu⟩
 | n :: e, s, t, u, h, hu => by
  rw [stk] at h
  split at h
  ·rename_i hl
   cases hf : f n (s.drop (s.length - (arN n).toNat)) with
   | none => rw [hf] at h; cases h
   | some x =>
    rw [hf] at h
    obtain ⟨y, hy⟩ := hg n (u.drop (u.length - (arN n).toNat))
    obtain ⟨v, h1, h2⟩ := stk_total f g hg e _ t (u.take (u.length - (arN n).toNat) ++ [y]) h (by simp; omega)
    exact ⟨v, by rw [stk, if_pos (by omega), hy]; exact h1, h2⟩
  ·cases h
theorem Lv.total {α β : Type} {f : Nod → List α → Option α} {e : List Nod} {x : α} (h : Lv f e x) (g : Nod → List β → Option β) (hg : ∀ n l, ∃ x, g n l = some x) : ∃ y, Lv g e y := by
 obtain ⟨v, h1, h2⟩ := stk_total f g hg e [] [x] [] (h []) rfl
 obtain ⟨y, rfl⟩ := List.length_eq_one_iff.1 h2
 exact ⟨y, .of h1⟩
theorem hgt1 {a h : Int} (h0 : 1 ≤ a ∧ a ≤ h) : 1 ≤ hgt [a] ∧ hgt [a] ≤ h + 1 := by unfold hgt; simp only [List.foldl]; omega
theorem hgt2 {a b h : Int} (h0 : 1 ≤ a ∧ a ≤ h) (h1 : 1 ≤ b ∧ b ≤ h) : 1 ≤ hgt [a, b] ∧ hgt [a, b] ≤ h + 1 := by unfold hgt; simp only [List.foldl]; omega
theorem hgt3 {a b c h : Int} (h0 : 1 ≤ a ∧ a ≤ h) (h1 : 1 ≤ b ∧ b ≤ h) (h2 : 1 ≤ c ∧ c ≤ h) : 1 ≤ hgt [a, b, c] ∧ hgt [a, b, c] ≤ h + 1 := by unfold hgt; simp only [List.foldl]; omega
theorem fK_op {cs : List Col} {n : Nod} {l : List Kd} {k : Kd} (h0 : 2 ≤ n.op) (h : tyO n.op l = (k, true)) : fK cs n l = some k := by
 rw [fK, if_neg (by omega), if_neg (by omega), h]; rfl
theorem fH_of {n : Nod} {l : List Int} (g : Gd n) (h : hgt l ≤ 64) : fH n l = some (hgt l) := by rw [fH, if_pos ⟨g, h⟩]
theorem Ex.n0 {cs : List Col} {n : Nod} {k : Kd} (g : Gd n) (ha : arN n = 0) (hk : fK cs n [] = some k) : Ex cs [n] k 1 1 :=
 ⟨Nat.le_refl _, ⟨1, by omega, by omega, .n0 (by omega) (fH_of g (by decide))⟩, .n0 (by omega) hk, fun m hm => by simp at hm; rw [hm]; exact g⟩
theorem Ex.n1 {cs : List Col} {n : Nod} {e1 : List Nod} {a k : Kd} {N : Nat} {h : Int} (x : Ex cs e1 a N h) (hh : h ≤ 63) (g : Gd n) (ho : 2 ≤ n.op) (ha : arN n = 1) (hk : tyO n.op [a] = (k, true)) : Ex cs (e1 ++ [n]) k (N + 1) (h + 1) := by
 obtain ⟨h1, b1, b2, hv⟩ := x.hh
 have := hgt1 ⟨b1, b2⟩
 refine ⟨by have := x.len; simp; omega, ⟨_, this.1, this.2, .n1 hv (by omega) (fH_of g (by omega))⟩, .n1 x.kk (by omega) (fK_op ho hk), fun m hm => ?_⟩
 rcases List.mem_append.1 hm with hm | hm
 ·exact x.gd m hm
 ·simp at hm; rw [hm]; exact g
theorem Ex.n2 {cs : List Col} {n : Nod} {e1 e2 : List Nod} {a b k : Kd} {N : Nat} {h : Int} (x : Ex cs e1 a N h) (y : Ex cs e2 b N h) (hh : h ≤ 63) (g : Gd n) (ho : 2 ≤ n.op) (ha : arN n = 2) (hk : tyO n.op [a, b] = (k, true)) : Ex cs (e1 ++ e2 ++ [n]) k (2 * N + 1) (h + 1) := by
 obtain ⟨h1, b1, b2, hv⟩ := x.hh
 obtain ⟨h2, c1, c2, hw⟩ := y.hh
 have := hgt2 ⟨b1, b2⟩ ⟨c1, c2⟩
 refine ⟨by have := x.len; have := y.len; simp; omega, ⟨_, this.1, this.2, .n2 hv hw (by omega) (fH_of g (by omega))⟩, .n2 x.kk y.kk (by omega) (fK_op ho hk), fun m hm => ?_⟩
 rcases List.mem_append.1 hm with hm | hm
 ·rcases List.mem_append.1 hm with hm | hm
  ·exact x.gd m hm
  ·exact y.gd m hm
 ·simp at hm; rw [hm]; exact g
theorem Ex.n3 {cs : List Col} {n : Nod} {e1 e2 e3 : List Nod} {a b c k : Kd} {N : Nat} {h : Int} (x : Ex cs e1 a N h) (y : Ex cs e2 b N h) (z : Ex cs e3 c N h) (hh : h ≤ 63) (g : Gd n) (ho : 2 ≤ n.op) (ha : arN n = 3) (hk : tyO n.op [a, b, c] = (k, true)) : Ex cs (e1 ++ e2 ++ e3 ++ [n]) k (3 * N + 1) (h + 1) := by
 obtain ⟨h1, b1, b2, hv⟩ := x.hh
 obtain ⟨h2, c1, c2, hw⟩ := y.hh
 obtain ⟨h3, d1, d2, hu⟩ := z.hh
 have := hgt3 ⟨b1, b2⟩ ⟨c1, c2⟩ ⟨d1, d2⟩
 refine ⟨by have := x.len; have := y.len; have := z.len; simp; omega, ⟨_, this.1, this.2, .n3 hv hw hu (by omega) (fH_of g (by omega))⟩, .n3 x.kk y.kk z.kk (by omega) (fK_op ho hk), fun m hm => ?_⟩
 rcases List.mem_append.1 hm with hm | hm
 ·rcases List.mem_append.1 hm with hm | hm
  ·rcases List.mem_append.1 hm with hm | hm
   ·exact x.gd m hm
   ·exact y.gd m hm
  ·exact z.gd m hm
 ·simp at hm; rw [hm]; exact g
theorem Ex.mono {cs : List Col} {e : List Nod} {k : Kd} {N M : Nat} {h g : Int} (x : Ex cs e k N h) (hN : N ≤ M) (hh : h ≤ g) : Ex cs e k M g := by
 obtain ⟨h1, b1, b2, hv⟩ := x.hh
 exact ⟨Nat.le_trans x.len hN, ⟨h1, b1, by omega, hv⟩, x.kk, x.gd⟩
def ExK (cs : List Col) (kind : Int) (N : Nat) (h : Int) (e : List Nod) : Prop := ∃ k : Kd, (k.1 = kind ∨ k.1 = 0) ∧ Ex cs e k N h
def opN (op : Int) : Nod := ⟨op, ⟨0, 0, bs []⟩, bs [], 0⟩
theorem opN_gd {op : Int} (h : 2 ≤ op ∧ op ≤ 19) : Gd (opN op) := ⟨rfl, ⟨by show 0 ≤ op; omega, by show op ≤ 20; omega⟩, fun h => absurd (show op = 0 from h) (by omega), fun _ => rfl, fun _ _ => rfl, fun h => absurd (show op = 1 from h) (by omega), fun h => absurd (show op = 20 from h) (by omega)⟩
theorem arN1 {op : Int} (h : op = 2 ∨ op = 3 ∨ op = 16 ∨ op = 19 ∨ op = 20) {v : V} {s : ByteArray} {a : Int} : arN ⟨op, v, s, a⟩ = 1 := by unfold arN; rcases h with rfl | rfl | rfl | rfl | rfl <;> rfl
theorem arN2 {op : Int} (h : 4 ≤ op ∧ op ≤ 15 ∨ op = 18) {v : V} {s : ByteArray} {a : Int} : arN ⟨op, v, s, a⟩ = 2 := by unfold arN; simp only; (repeat' split) <;> omega
theorem kftI {a : Kd} {k : Int} (h : a.1 = k ∨ a.1 = 0) : kft a k = true := by unfold kft; rcases h with h | h <;> simp [h]
theorem kcmI {a b : Kd} {k : Int} (h : a.1 = k ∨ a.1 = 0) (g : b.1 = k ∨ b.1 = 0) : (kcm a b).2 = true ∧ ((kcm a b).1 = k ∨ (kcm a b).1 = 0) := by
 unfold kcm
 by_cases h0 : a.1 = 0
 ·rw [if_pos (by simpa using h0)]; exact ⟨rfl, g⟩
 ·rw [if_neg (by simpa using h0)]
  have : a.1 = k := by omega
  exact ⟨kftI (by rw [this]; exact g), .inl this⟩
section
variable {cs : List Col} {N : Nat} {h : Int} {e1 e2 e3 : List Nod}
theorem ExK.not (x : ExK cs 1 N h e1) (hh : h ≤ 63) : ExK cs 1 (N + 1) (h + 1) (e1 ++ [opN 2]) := by
 obtain ⟨a, ha, x⟩ := x
 exact ⟨(1, a.2), .inl rfl, x.n1 hh (opN_gd (by decide)) (by decide) rfl (by show (((1, a.2) : Kd), kft a 1) = _; rw [kftI ha])⟩
theorem ExK.neg (x : ExK cs 2 N h e1) (hh : h ≤ 63) : ExK cs 2 (N + 1) (h + 1) (e1 ++ [opN 3]) := by
 obtain ⟨a, ha, x⟩ := x
 exact ⟨(2, a.2), .inl rfl, x.n1 hh (opN_gd (by decide)) (by decide) rfl (by show (((2, a.2) : Kd), kft a 2) = _; rw [kftI ha])⟩
theorem ExK.isn {k : Int} (x : ExK cs k N h e1) (hh : h ≤ 63) : ExK cs 1 (N + 1) (h + 1) (e1 ++ [opN 16]) := by
 obtain ⟨a, ha, x⟩ := x
 exact ⟨(1, false), .inl rfl, x.n1 hh (opN_gd (by decide)) (by decide) rfl rfl⟩
theorem ExK.len (x : ExK cs 3 N h e1) (hh : h ≤ 63) : ExK cs 2 (N + 1) (h + 1) (e1 ++ [opN 19]) := by
 obtain ⟨a, ha, x⟩ := x
 exact ⟨(2, a.2), .inl rfl, x.n1 hh (opN_gd (by decide)) (by decide) rfl (by show (((2, a.2) : Kd), kft a 3) = _; rw [kftI ha])⟩
theorem ExK.day (x : ExK cs 4 N h e1) (hh : h ≤ 63) {s : ByteArray} (hs : s ∈ zNm) : ExK cs 2 (N + 1) (h + 1) (e1 ++ [⟨20, ⟨0, 0, bs []⟩, s, 0⟩]) := by
 obtain ⟨a, ha, x⟩ := x
 exact ⟨(2, a.2), .inl rfl, x.n1 hh ⟨rfl, (by decide : (0 : Int) ≤ 20 ∧ (20 : Int) ≤ 20), fun h => by simp at h, fun _ => rfl, fun _ h => absurd rfl h, fun h => by simp at h, fun _ => hs⟩ (by decide : (2 : Int) ≤ 20) rfl (by show (((2, a.2) : Kd), kft a 4) = _; rw [kftI ha])⟩
theorem ExK.iff (x : ExK cs 1 N h e1) {k : Int} (y : ExK cs k N h e2) (z : ExK cs k N h e3) (hh : h ≤ 63) : ExK cs k (3 * N + 1) (h + 1) (e1 ++ e2 ++ e3 ++ [opN 17]) := by
 obtain ⟨a, ha, x⟩ := x
 obtain ⟨b, hb, y⟩ := y
 obtain ⟨c, hc, z⟩ := z
 obtain ⟨p, q⟩ := kcmI hb hc
 exact ⟨((kcm b c).1, b.2 || c.2), q, x.n3 y z hh (opN_gd (by decide)) (by decide) rfl (by show ((((kcm b c).1, b.2 || c.2) : Kd), (kcm b c).2 && kft a 1) = _; rw [p, kftI ha]; rfl)⟩
theorem ExK.coa {k : Int} (y : ExK cs k N h e1) (z : ExK cs k N h e2) (hh : h ≤ 63) : ExK cs k (2 * N + 1) (h + 1) (e1 ++ e2 ++ [opN 18]) := by
 obtain ⟨b, hb, y⟩ := y
 obtain ⟨c, hc, z⟩ := z
 obtain ⟨p, q⟩ := kcmI hb hc
 exact ⟨((kcm b c).1, b.2 && c.2), q, y.n2 z hh (opN_gd (by decide)) (by decide) rfl (by show ((((kcm b c).1, b.2 && c.2) : Kd), (kcm b c).2) = _; rw [p])⟩
theorem ExK.lgc {op : Int} (ho : op = 14 ∨ op = 15) (y : ExK cs 1 N h e1) (z : ExK cs 1 N h e2) (hh : h ≤ 63) : ExK cs 1 (2 * N + 1) (h + 1) (e1 ++ e2 ++ [opN op]) := by
 obtain ⟨b, hb, y⟩ := y
 obtain ⟨c, hc, z⟩ := z
 refine ⟨(1, b.2 || c.2), .inl rfl, y.n2 z hh (opN_gd (by omega)) (show 2 ≤ op by omega) (arN2 (by omega)) ?_⟩
 show tyO op [b, c] = _
 rcases ho with rfl | rfl
 all_goals
  show (((1, b.2 || c.2) : Kd), kft b 1 && kft c 1) = _
  rw [kftI hb, kftI hc]; rfl
theorem ExK.cmp {op k : Int} (ho : 10 ≤ op ∧ op ≤ 13) (y : ExK cs k N h e1) (z : ExK cs k N h e2) (hh : h ≤ 63) : ExK cs 1 (2 * N + 1) (h + 1) (e1 ++ e2 ++ [opN op]) := by
 obtain ⟨b, hb, y⟩ := y
 obtain ⟨c, hc, z⟩ := z
 refine ⟨(1, b.2 || c.2), .inl rfl, y.n2 z hh (opN_gd (by omega)) (show 2 ≤ op by omega) (arN2 (by omega)) ?_⟩
 show tyO op [b, c] = _
 have p := (kcmI hb hc).1
 obtain rfl | rfl | rfl | rfl : op = 10 ∨ op = 11 ∨ op = 12 ∨ op = 13 := by omega
 all_goals
  show (((1, b.2 || c.2) : Kd), (kcm b c).2) = _
  rw [p]
theorem ExK.cat (y : ExK cs 3 N h e1) (z : ExK cs 3 N h e2) (hh : h ≤ 63) : ExK cs 3 (2 * N + 1) (h + 1) (e1 ++ e2 ++ [opN 9]) := by
 obtain ⟨b, hb, y⟩ := y
 obtain ⟨c, hc, z⟩ := z
 refine ⟨(3, true), .inl rfl, y.n2 z hh (opN_gd (by decide)) (by decide) rfl ?_⟩
 show (((3, true) : Kd), kft b 3 && kft c 3) = _
 rw [kftI hb, kftI hc]; rfl
theorem ExK.ari {op : Int} (ho : 4 ≤ op ∧ op ≤ 8) (y : ExK cs 2 N h e1) (z : ExK cs 2 N h e2) (hh : h ≤ 63) : ExK cs 2 (2 * N + 1) (h + 1) (e1 ++ e2 ++ [opN op]) := by
 obtain ⟨b, hb, y⟩ := y
 obtain ⟨c, hc, z⟩ := z
 refine ⟨(2, true), .inl rfl, y.n2 z hh (opN_gd (by omega)) (show 2 ≤ op by omega) (arN2 (by omega)) ?_⟩
 show tyO op [b, c] = _
 have h1 : b.1 ≠ 4 := by omega
 have h2 : c.1 ≠ 4 := by omega
 have h3 := kftI hb
 have h4 := kftI hc
 unfold tyO
 simp only
 (repeat' split) <;> first | omega | (rw [h3, h4]; rfl)
theorem ExK.dif {c : Kd} (hc : c.1 = 4) (y : ExK cs 4 N h e1) (z : Ex cs e2 c N h) (hh : h ≤ 63) : ExK cs 2 (2 * N + 1) (h + 1) (e1 ++ e2 ++ [opN 5]) := by
 obtain ⟨b, hb, y⟩ := y
 refine ⟨(2, b.2 || c.2), .inl rfl, y.n2 z hh (opN_gd (by decide)) (by decide) rfl ?_⟩
 show (if c.1 = 4 then (((2, b.2 || c.2) : Kd), kft b 4) else _) = _
 rw [if_pos hc, kftI hb]
theorem ExK.mov {op : Int} (ho : op = 4 ∨ op = 5) {b : Kd} (hb : b.1 = 4) (y : Ex cs e1 b N h) (z : ExK cs 2 N h e2) (hh : h ≤ 63) : ExK cs 4 (2 * N + 1) (h + 1) (e1 ++ e2 ++ [opN op]) := by
 obtain ⟨c, hc, z⟩ := z
 refine ⟨(4, true), .inl rfl, y.n2 z hh (opN_gd (by omega)) (show 2 ≤ op by omega) (arN2 (by omega)) ?_⟩
 show tyO op [b, c] = _
 have h2 : c.1 ≠ 4 := by omega
 have h4 := kftI hc
 unfold tyO
 simp only
 rcases ho with rfl | rfl
 ·rw [if_pos rfl, if_pos hb, h4]
 ·rw [if_neg (by decide), if_pos rfl, if_neg h2, if_pos hb, h4]
theorem ExK.mono {k : Int} {M : Nat} {g : Int} (x : ExK cs k N h e1) (hN : N ≤ M) (hh : h ≤ g) : ExK cs k M g e1 := by
 obtain ⟨a, ha, x⟩ := x
 exact ⟨a, ha, x.mono hN hh⟩
end
attribute [local irreducible] ACalls CallE CallS Gp
theorem take_succ' {α : Type} {l : List α} {k : Nat} {x : α} (h : l[k]? = some x) : l.take (k + 1) = l.take k ++ [x] := by rw [List.take_add_one, h]; rfl
def kC (k : Int × Bool) : List AVal := [.int .i64 k.1, .bool k.2]
theorem kC_pure (l : List (Int × Bool)) : pureEs (mC kC l) = true := mC_pure (fun _ => rfl) l
end Go.AW
namespace Go.AW
variable [Draws]
def DetR (P : Program) (f : FuncId) (vs : List AVal) (sz : Nat) (S : List (List AVal) → Prop) : Prop :=
 ∃ es, S es ∧ pureEs es = true ∧ ACalls P f vs [] (fun r H' => r = .sl 0 es.length 0 es.length ∧ H' = [.arr sz es])
theorem DetR.own {P : Program} {f : FuncId} {vs : List AVal} {sz : Nat} {S : List (List AVal) → Prop} {H : List AObj} {k : AVal → List AObj → Prop} (h : DetR P f vs sz S) (ha : vs.all AVal.closed = true) (hk : ∀ es, S es → pureEs es = true → k (.sl H.length es.length 0 es.length) (H ++ [.arr sz es])) : CallE P f vs H k := by
 obtain ⟨es, hs, hp, h⟩ := h
 exact CallE.of (ACalls.own1 ha h hp) (hk es hs hp)
theorem DetR.frz {P : Program} {f : FuncId} {vs : List AVal} {sz : Nat} {S : List (List AVal) → Prop} (h : DetR P f vs sz S) (ha : vs.all AVal.closed = true) : DetS P f vs (fun r => ∃ es, r = .list false sz es ∧ S es) := by
 obtain ⟨es, hs, hp, h⟩ := h
 exact ⟨_, ⟨es, rfl, hs⟩, fun H => ACalls.frz1 ha h rfl hp⟩
theorem DetR.mono {P : Program} {f : FuncId} {vs : List AVal} {sz : Nat} {S T : List (List AVal) → Prop} (h : DetR P f vs sz S) (hs : ∀ es, S es → T es) : DetR P f vs sz T := by
 obtain ⟨es, h1, h2, h3⟩ := h
 exact ⟨es, hs es h1, h2, h3⟩
theorem detR_of_body {P : Program} {f : FuncId} {ob : List Nat} {af : AFunc} {args : List AVal} {sz : Nat} {S : List (List AVal) → Prop} (hf : Has P f ob af)
  (h : forceK (args ++ List.replicate (af.ntmps - args.length) (.tuple [])) fun ρ => awpS P [] af.code (fun e ρ' H' => match e with
   | .exit _ => False
   | _ => resK ρ' H' af.res fun vs => tupK vs fun v => ∃ id n es, v = .sl id n 0 n ∧ H'[id]? = some (.arr sz es) ∧ n = es.length ∧ pureEs es = true ∧ S es) ρ []) : DetR P f args sz S := by
 obtain ⟨v, H1, ⟨id, n, es, rfl, ho, rfl, hp, hs⟩, hc⟩ := acallsS_of_body (H := []) (Q := fun v H' => ∃ id n es, v = .sl id n 0 n ∧ H'[id]? = some (.arr sz es) ∧ n = es.length ∧ pureEs es = true ∧ S es) hf h
 refine ⟨es, hs, hp, ACalls.gpI hc [id] (by simp) (fun k m hk => by simp at hk) ⟨⟨_, ho, .same _ _ hp⟩, trivial⟩ ?_⟩
 have := Pub.keep (H1 := H1) (n := 0) (ids := [id]) id es.length 0 es.length 0 rfl
 rwa [Nat.zero_add] at this
end Go.AW
