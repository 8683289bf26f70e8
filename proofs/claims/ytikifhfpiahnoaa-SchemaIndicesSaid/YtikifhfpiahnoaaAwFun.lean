/-
  Contracts of functions from their bodies, on the abstract machine.
  No condition: plain laws over any program.
-/
import Derived.Test.YtikifhfpiahnoaaAwDraw
namespace Go.AW

inductive ARes where
  | tmp (t : Nat)
  | cell (ag : Bool) (sz : Nat) (t : Nat)

structure AFunc where
  ntmps : Nat
  res : List ARes
  code : ACode

def compRes (P : Program) : List ResultVar → Option (List ARes)
  | [] => some []
  | .tmp t :: r => match compRes P r with
    | some l => some (.tmp t :: l)
    | none => none
  | .cell a t :: r => match tagOf P t, sizeA P t, compRes P r with
    | some ag, some n, some l => some (.cell ag n a :: l)
    | _, _, _ => none

/-- **Function f of the program has this code.** -/
def Has (P : Program) (f : FuncId) (ob : List Nat) (af : AFunc) : Prop :=
  ∃ fn c, P.funcs[f]? = some fn ∧ (fn.name == "runtime.NumGoroutine") = false ∧ fn.body = some c ∧ comp P ob c = some af.code ∧ fn.ntmps = af.ntmps ∧ compRes P fn.results.toList = some af.res

/-- The result variables' values. -/
def resK (ρ : List AVal) (H : List AObj) (rs : List ARes) (k : List AVal → Prop) : Prop :=
  @List.rec ARes (fun _ => (List AVal → Prop) → Prop) (fun k => k [])
    (fun r _ ih k => match r with
      | .tmp t => getK ρ t fun v => ih fun vs => k (v :: vs)
      | .cell ag sz t => getK ρ t fun p => match p with
        | .ptr id ep idx fld => objK H id fun o => match o with
          | .arr _ es => elemA es ep idx fun e => chkA (decide (fld + sz ≤ e.length) && (ag || decide (sz = 1))) (forceK ((e.drop fld).take sz) fun cs => ih fun vs => k (mkVal ag cs :: vs))
          | _ => False
        | _ => False) rs k

theorem resK_nil (ρ : List AVal) (H : List AObj) (k : List AVal → Prop) : resK ρ H [] k = k [] := rfl
theorem resK_tmp (ρ : List AVal) (H : List AObj) (t : Nat) (r : List ARes) (k : List AVal → Prop) : resK ρ H (.tmp t :: r) k = getK ρ t fun v => resK ρ H r fun vs => k (v :: vs) := rfl
theorem resK_cell (ρ : List AVal) (H : List AObj) (ag : Bool) (sz t : Nat) (r : List ARes) (k : List AVal → Prop) : resK ρ H (.cell ag sz t :: r) k = getK ρ t fun p => match p with
        | .ptr id ep idx fld => objK H id fun o => match o with
          | .arr _ es => elemA es ep idx fun e => chkA (decide (fld + sz ≤ e.length) && (ag || decide (sz = 1))) (forceK ((e.drop fld).take sz) fun cs => resK ρ H r fun vs => k (mkVal ag cs :: vs))
          | _ => False
        | _ => False := rfl

def tupK (vs : List AVal) (k : AVal → Prop) : Prop :=
  match vs with
  | [v] => k v
  | vs => k (.tuple vs)

/-- One result variable's value. -/
def resOne (tmps : Array Value) (r : ResultVar) : Sem Value :=
  match r with
  | .tmp t => pure (tmps.getD t undef)
  | .cell a t => do loadVar t (← asAddr (tmps.getD a undef))

theorem results_eq (fn : Func) (tmps : Array Value) : results fn tmps = (do
    let vs ← fn.results.mapM (resOne tmps)
    pure (if h : vs.size = 1 then vs[0] else .tuple vs)) := rfl

section
variable {E : Env} {P : Program} {C : Nat → Nat} {τ : Nat → Option Loc} {ρ : List AVal} {H : List AObj} {a : Act} {w : World} {K : AVal → List AObj → Prop}

theorem run_results (hs : SA E C τ ρ H a w) : ∀ (rs : List ResultVar) (as : List ARes) (k : List AVal → Prop), compRes P rs = some as → resK ρ H as k →
    ∃ (vs : List AVal) (us : List Value), k vs ∧ (rs.mapM (resOne a.tmps)).run P w = .ok us w ∧ vs.length = us.length ∧ ∀ (i : Nat) (c : AVal) (v : Value), vs[i]? = some c → us[i]? = some v → Rel C w τ H c v
  | [], as, k, hc, h => by
    simp only [compRes, Option.some.injEq] at hc; subst hc
    exact ⟨[], [], h, by simp, rfl, fun i c v h => by simp at h⟩
  | .tmp t :: rs, as, k, hc, h => by
    simp only [compRes] at hc
    split at hc
    · rename_i l hl
      cases hc
      simp only [resK_tmp, getK_eq] at h
      obtain ⟨vs, us, h1, h2, h3, h4⟩ := run_results hs rs l _ hl h
      refine ⟨_, a.tmps.getD t undef :: us, h1, ?_, ?_, ?_⟩
      · simp only [List.mapM_cons, resOne, Sem.run_bind, Sem.run_pure, Result.andThen_ok, h2]
      · simp [h3]
      · intro i c v hc hv
        cases i with
        | zero => simp at hc hv; subst hc hv; have := hs.tmps t; simpa only [Array.getD_eq_getD_getElem?] using this
        | succ i => exact h4 i c v (by simpa using hc) (by simpa using hv)
    · cases hc
  | .cell ad t :: rs, as, k, hc, h => by
    simp only [compRes] at hc
    split at hc
    · rename_i ag n l ht hn hl
      cases hc
      simp only [resK_cell, getK_eq] at h
      have hr := hs.tmps ad
      split at h
      case h_2 => exact h.elim
      rename_i id ep idx fld hv
      rw [hv] at hr
      simp only [objK, idxA_iff] at h
      obtain ⟨ob, hob, h⟩ := h
      split at h
      case h_2 => exact h.elim
      rename_i esz es
      simp only [elemA_iff, chkA_iff, Bool.and_eq_true, Bool.or_eq_true, decide_eq_true_eq] at h
      obtain ⟨hep, e, he, ⟨hl2, hag⟩, hk⟩ := h
      have hk := forceK_mono hk
      obtain ⟨lc, hl1, hu⟩ := hr.ptr_inv hob hep
      obtain ⟨u, g1, g2⟩ := (hs.st.wf.reads hob hl1 he).load ht hn hl2 hag
      obtain ⟨vs, us, h1, h2, h3, h4⟩ := run_results hs rs l _ hl hk
      refine ⟨_, u :: us, h1, ?_, by simp [h3], fun i c v hc hv => ?_⟩
      · simp only [List.mapM_cons, resOne, hu, asAddr, Sem.run_bind, Sem.run_pure, Result.andThen_ok, g1, h2]
      · cases i with
        | zero => simp at hc hv; subst hc hv; exact g2
        | succ i => exact h4 i c v (by simpa using hc) (by simpa using hv)
    · cases hc

theorem getT_append_replicate : ∀ (args : List AVal) (n t : Nat), getT (args ++ List.replicate n (.tuple [])) t = if h : t < args.length then args[t] else if t < args.length + n then .tuple [] else .undef
  | [], n, t => by
    induction n generalizing t with
    | zero => simp [getT]
    | succ n ih =>
      cases t with
      | zero => simp [List.replicate_succ, getT]
      | succ t =>
        have := ih t
        simp [List.replicate_succ, getT] at this ⊢
        rw [this]
  | x :: xs, n, t => by
    cases t with
    | zero => simp [getT]
    | succ t =>
      have := getT_append_replicate xs n t
      simp only [List.cons_append, getT, this, List.length_cons]
      by_cases h : t < xs.length
      · simp [h]
      · have h2 : ¬ t + 1 < xs.length + 1 := by omega
        rw [dif_neg h, dif_neg h2]
        by_cases h3 : t < xs.length + n
        · rw [if_pos h3, if_pos (by omega)]
        · rw [if_neg h3, if_neg (by omega)]

/-- **A function's contract from its body.** -/
theorem acalls_of_body {f : FuncId} {ob : List Nat} {af : AFunc} {args : List AVal} {Q : AVal → List AObj → Prop}
    (hf : Has P f ob af)
    (h : forceK (args ++ List.replicate (af.ntmps - args.length) (.tuple [])) fun ρ => awp P H.length af.code (fun e ρ' H' => match e with
      | .exit _ => False
      | _ => resK ρ' H' af.res fun vs => tupK vs fun v => Q v H') ρ H) : ACalls P f args H Q := by
  rw [forceK_eq] at h
  obtain ⟨fn, c, hfn, hname, hbody, hcomp, hnt, hres⟩ := hf
  intro C τ w vs hw hl hr
  have hcall : (callFunc f vs).run P w = .ok (.enter f vs) w := by
    simp only [callFunc, Sem.run_bind, run_program, Result.andThen_ok, hfn, hname, Bool.false_eq_true, if_false, hbody, Option.isNone_some, Sem.run_pure]
  unfold CallsX
  rw [hcall]
  let E : Env := ⟨w, PrCall τ H w, C, τ, H, fun h b hb => ⟨hb, by rintro ⟨id, l, h1, _⟩; rw [h] at h1; exact absurd h1 (Nat.not_lt_zero _)⟩⟩
  have hsa : SA E C τ (args ++ List.replicate (af.ntmps - args.length) (.tuple [])) H { tmps := vs ++ Array.replicate (fn.ntmps - vs.size) undef, defers := [] } w := by
    refine ⟨St.start hw, Step.refl, fun t => ?_, by simp [hl, hnt], rfl⟩
    rw [getT_append_replicate]
    simp only [Array.getD_eq_getD_getElem?]
    by_cases ht : t < args.length
    · rw [dif_pos ht, Array.getElem?_append_left (by omega), Array.getElem?_eq_getElem (by omega)]
      exact hr t _ _ (List.getElem?_eq_getElem ht) (Array.getElem?_eq_getElem (by omega))
    · rw [dif_neg ht, Array.getElem?_append_right (by omega)]
      split
      · rename_i h2
        rw [Array.getElem?_replicate, if_pos (by omega)]
        exact rel_skip
      · exact .undef _
  refine calls_of_wp hfn hbody (wp_mono (code_sound (E := E) (fun id ops is Q C τ ρ H a w h1 h2 h3 h4 => draw_sound h1 h2 h3 h4) c af.code _ C τ _ H _ w hcomp h hsa) fun e a' w' hq => ?_)
  have fin : ∀ (ρ' : List AVal) (H' : List AObj) (C' : Nat → Nat) (τ' : Nat → Option Loc), (resK ρ' H' af.res fun vs => tupK vs fun v => Q v H') → SA E C' τ' ρ' H' a' w' →
      a'.defers = [] ∧ ∃ v, (results fn a'.tmps).run P w' = .ok v w' ∧ ∃ v2 r C' τ' H', Ending.returned v = .returned v2 ∧ Q r H' ∧ Rel C' w' τ' H' r v2 ∧ St w (PrCall τ H w) C' τ' H' w' ∧ Step C τ H w C' τ' H' w' := by
    intro ρ' H' C' τ' hk hs
    refine ⟨hs.defers, ?_⟩
    obtain ⟨xs, us, h1, h2, h3, h4⟩ := run_results hs fn.results.toList af.res _ hres hk
    have hm : (fn.results.mapM (resOne a'.tmps)).run P w' = .ok us.toArray w' := by
      rw [Array.mapM_eq_mapM_toList, Sem.run_map, h2]; rfl
    have hrun : (results fn a'.tmps).run P w' = .ok (if h : us.toArray.size = 1 then us.toArray[0] else .tuple us.toArray) w' := by
      rw [results_eq, Sem.run_bind, hm]
      rfl
    refine ⟨_, hrun, ?_⟩
    unfold tupK at h1
    split at h1
    · rename_i v
      have hu : us.length = 1 := by rw [← h3]; rfl
      obtain ⟨u, rfl⟩ := List.length_eq_one_iff.1 hu
      exact ⟨_, v, C', τ', H', rfl, h1, h4 0 v u rfl rfl, hs.st, hs.step⟩
    · rename_i hne
      have hu : ¬ us.toArray.size = 1 := by
        intro hu
        simp at hu
        rw [← h3] at hu
        obtain ⟨v, hv⟩ := List.length_eq_one_iff.1 hu
        exact hne v hv
      refine ⟨_, _, C', τ', H', rfl, h1, ?_, hs.st, hs.step⟩
      rw [dif_neg hu]
      exact .tuple _ _ (by simpa using h3) fun i c v hc hv => h4 i c v hc (by simpa using hv)
  cases e with
  | normal => obtain ⟨ρ', H', C', τ', hk, hs⟩ := hq; exact fin ρ' H' C' τ' hk hs
  | ret => obtain ⟨ρ', H', C', τ', hk, hs⟩ := hq; exact fin ρ' H' C' τ' hk hs
  | exit id => obtain ⟨_, _, _, _, hk, _⟩ := hq; exact hk.elim
  | _ => exact hq.elim

theorem ACalls.mono {f : FuncId} {args : List AVal} {Q Q' : AVal → List AObj → Prop} (h : ACalls P f args H Q) (hq : ∀ r H', Q r H' → Q' r H') : ACalls P f args H Q' := by
  intro C τ w vs hw hl hr
  have h := h C τ w vs hw hl hr
  unfold CallsX at h ⊢
  split at h
  · exact Calls.mono h fun e w' ⟨v, r, C', τ', H', h1, h2, h3⟩ => ⟨v, r, C', τ', H', h1, hq _ _ h2, h3⟩
  · obtain ⟨v, r, C', τ', H', h1, h2, h3⟩ := h
    exact ⟨v, r, C', τ', H', h1, hq _ _ h2, h3⟩
  · exact h

/-- A contract that gives one value and leaves the heap as it was: how it is used. -/
theorem ACalls.ret {f : FuncId} {args : List AVal} {R : AVal} {Q : AVal → List AObj → Prop} (h : ACalls P f args H (fun r H' => r = R ∧ H' = H)) (hq : Q R H) : ACalls P f args H Q :=
  h.mono fun r H' ⟨h1, h2⟩ => by subst h1 h2; exact hq
end
end Go.AW
