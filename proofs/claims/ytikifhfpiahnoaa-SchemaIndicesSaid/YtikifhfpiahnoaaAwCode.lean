/-
  The abstract machine's code is sound: regions, branches, blocks, loops, calls.
  No condition: plain laws over any program.
-/
import Derived.Test.YtikifhfpiahnoaaAwSound9
namespace Go.AW

section
variable {E : Env} {P : Program} {C : Nat → Nat} {τ : Nat → Option Loc} {ρ : List AVal} {H : List AObj} {a : Act} {w : World} {K : AVal → List AObj → Prop}

theorem opRes_of_callsX {f : FuncId} {args : List AVal} {vs : Array Value} (hs : SA E C τ ρ H a w) (hl : args.length = vs.size)
    (hr : ∀ (i : Nat) (c : AVal) (v : Value), args[i]? = some c → vs[i]? = some v → Rel C w τ H c v) (h : ACalls P f args H K) :
    OpRes P ((callFunc f vs).run P w) (Out E ρ a K) := by
  have h := h C τ w vs hs.st.wf hl hr
  have fin : ∀ {e : Ending} {w' : World}, (∃ v r C' τ' H', e = .returned v ∧ K r H' ∧ Rel C' w' τ' H' r v ∧ St w (PrCall τ H w) C' τ' H' w' ∧ Step C τ H w C' τ' H' w') → ∃ v, e = .returned v ∧ Out E ρ a K v w' := by
    rintro e w' ⟨v, r, C', τ', H', he, hk, hrel, hst, hstep⟩
    exact ⟨v, he, r, C', τ', H', hk, hrel, hs.go (hs.st.after hst) hstep⟩
  unfold CallsX at h
  unfold OpRes
  split at h
  · rename_i g as w' e
    rw [e]
    exact h.mono fun e w'' hh => fin hh
  · rename_i v w' e
    rw [e]
    obtain ⟨v', he, hout⟩ := fin h
    cases he
    exact hout
  · exact h.elim

theorem snd_call {o : Oper} {f : FuncId} {args : Array Operand} {tys : Array TypeId} {ys : List AOpd} (ho : o.op = .call { callee := .value (.func f), args := args, argTypes := tys }) (hc : compOpds args.toList = some ys)
    (hs : SA E C τ ρ H a w) (h : opA P (.call f ys) ρ H K) : OpRes P ((execOp a.eval o).run P w) (Out E ρ a K) := by
  simp only [opA, evsK_eq] at h
  have hr := evsK_rel hs _ _ hc
  have run : (execOp a.eval o).run P w = (callFunc f (args.map a.eval)).run P w := by
    simp [execOp, ho, resolve, Deferred.ofValue, invoke, Act.eval]
  rw [run]
  exact opRes_of_callsX hs (by simpa using hr.1) (fun i c v h1 h2 => hr.2 i c v h1 (by rw [← h2]; simp)) h

theorem snd_callv {o : Oper} {t : Nat} {args : Array Operand} {tys : Array TypeId} {ys : List AOpd} (ho : o.op = .call { callee := .value (.tmp t), args := args, argTypes := tys }) (hc : compOpds args.toList = some ys)
    (hs : SA E C τ ρ H a w) (h : opA P (.callv (.t t) ys) ρ H K) : OpRes P ((execOp a.eval o).run P w) (Out E ρ a K) := by
  simp only [opA, evsK_eq, evK_eq] at h
  have hr := evsK_rel hs _ _ hc
  have hrf := hs.ev (x := .tmp t) (y := .t t) rfl
  split at h
  case h_2 => exact h.elim
  rename_i f caps hv
  rw [hv] at hrf
  obtain ⟨vs, e, hl, hrel⟩ : ∃ vs, a.eval (.tmp t) = .func (.func f) #[] vs ∧ caps.length = vs.size ∧ ∀ (i : Nat) (c : AVal) (v : Value), caps[i]? = some c → vs[i]? = some v → Rel C w τ H c v := by
    generalize a.eval (.tmp t) = z at hrf
    cases hrf with
    | rd hrf => cases hrf; exact ⟨#[], rfl, rfl, fun i c v h => by simp at h⟩
    | fn f cs vs hl h => exact ⟨vs, rfl, hl, h⟩
  have run : (execOp a.eval o).run P w = (callFunc f (args.map a.eval ++ vs)).run P w := by
    simp [execOp, ho, resolve, Deferred.ofValue, invoke, e]
  rw [run]
  refine opRes_of_callsX hs (by have := hr.1; simp at this ⊢; omega) (fun i c v h1 h2 => ?_) h
  by_cases hi : i < ys.length
  · rw [List.getElem?_append_left (by simpa using hi)] at h1
    have hsz : args.size = ys.length := by have := hr.1; simp at this; omega
    rw [Array.getElem?_append_left (by simpa using (by omega : i < args.size))] at h2
    exact hr.2 i c v h1 (by rw [← h2]; simp)
  · have hsz : args.size = ys.length := by have := hr.1; simp at this; omega
    rw [List.getElem?_append_right (by simpa using hi)] at h1
    rw [Array.getElem?_append_right (by simp; omega)] at h2
    simp only [List.length_map, Array.size_map] at h1 h2
    exact hrel _ c v h1 (by rw [← h2, hsz])

/-- **An operation is sound.** -/
theorem op_sound {o : Oper} {oj : Bool} {ao : AOp} (hc : compOp P oj o.op = some ao) (hs : SA E C τ ρ H a w) (h : opA P ao ρ H K) : OpRes P ((execOp a.eval o).run P w) (Out E ρ a K) := by
  cases ho : o.op with
  | move x => rw [ho] at hc; simp only [compOp, Option.bind_eq_bind, Option.bind_eq_some_iff, Option.pure_def, Option.some.injEq] at hc; obtain ⟨x', hx, rfl⟩ := hc; exact snd_move (.inl ho) hx hs h
  | assign x => rw [ho] at hc; simp only [compOp, Option.bind_eq_bind, Option.bind_eq_some_iff, Option.pure_def, Option.some.injEq] at hc; obtain ⟨x', hx, rfl⟩ := hc; exact snd_move (.inr ho) hx hs h
  | pick c x y =>
    rw [ho] at hc; simp only [compOp, Option.bind_eq_bind, Option.bind_eq_some_iff, Option.pure_def, Option.some.injEq] at hc
    obtain ⟨c', hc', x', hx, y', hy, rfl⟩ := hc; exact snd_pick ho hc' hx hy hs h
  | alloc e => rw [ho] at hc; simp only [compOp, Option.bind_eq_bind, Option.bind_eq_some_iff, Option.pure_def, Option.some.injEq] at hc; obtain ⟨z, hz, rfl⟩ := hc; exact snd_alloc ho hz hs h
  | box e x => rw [ho] at hc; simp only [compOp, Option.bind_eq_bind, Option.bind_eq_some_iff, Option.pure_def, Option.some.injEq] at hc; obtain ⟨x', hx, rfl⟩ := hc; exact snd_box ho hx hs h
  | build t parts =>
    rw [ho] at hc; simp only [compOp] at hc
    split at hc
    · rename_i fs hu
      split at hc
      · rename_i hp
        simp only [Option.bind_eq_bind, Option.bind_eq_some_iff, Option.pure_def, Option.some.injEq] at hc
        obtain ⟨z, hz, qs, hq, rfl⟩ := hc
        exact snd_build ho hu hz hp hq hs h
      · cases hc
    · cases hc
  | buildSlice t len parts =>
    rw [ho] at hc; simp only [compOp] at hc
    cases oj <;> simp only [Bool.false_eq_true, if_false, if_true, Option.bind_eq_bind, Option.bind_eq_some_iff, Option.pure_def, Option.some.injEq] at hc <;> obtain ⟨e, he, s, hsz, z, hz, r, hr, rfl⟩ := hc
    · exact snd_buildSlice ho he hsz hz hr hs (.inl h)
    · exact snd_buildSlice ho he hsz hz hr hs (.inr h)
  | load t x =>
    rw [ho] at hc; simp only [compOp, Option.bind_eq_bind, Option.bind_eq_some_iff, Option.pure_def, Option.some.injEq] at hc
    obtain ⟨ag, ht, s, hsz, x', hx, rfl⟩ := hc; exact snd_load ho hx ht hsz hs h
  | store t x y =>
    rw [ho] at hc; simp only [compOp, Option.bind_eq_bind, Option.bind_eq_some_iff, Option.pure_def, Option.some.injEq] at hc
    obtain ⟨s, hsz, x', hx, y', hy, rfl⟩ := hc; exact snd_store ho hx hy hsz hs h
  | nilCheck x => rw [ho] at hc; simp only [compOp, Option.bind_eq_bind, Option.bind_eq_some_iff, Option.pure_def, Option.some.injEq] at hc; obtain ⟨x', hx, rfl⟩ := hc; exact snd_nop ho hx hs h
  | binOp op t x y u =>
    rw [ho] at hc; simp only [compOp, Option.bind_eq_bind, Option.bind_eq_some_iff] at hc
    obtain ⟨x', hx, y', hy, hc⟩ := hc
    have eqcase : op = .eql ∨ op = .neq → (match P.underlying t with
      | some (.slice _) => if isNilA y then pure (.isNil (decide (op = .neq)) x') else none
      | some .bool => pure (.eqb (decide (op = .neq)) x' y')
      | some (.int _) | some .string => pure (.bin op x' y')
      | some (.struct fs) => if P.stoodInHeld t || P.eqGuardType P.depth t then none else do pure (.eqs (decide (op = .neq)) (← fieldKinds P fs.toList 0) x' y')
      | _ => none : Option AOp) = some ao → OpRes P ((execOp a.eval o).run P w) (Out E ρ a K) := by
      intro hop hc
      split at hc
      · rename_i hu
        split at hc
        · rename_i hy'; simp only [Option.pure_def, Option.some.injEq] at hc; subst hc; exact snd_isNil ho hx hy' hu hop hs h
        · cases hc
      · rename_i hu; simp only [Option.pure_def, Option.some.injEq] at hc; subst hc; exact snd_eqb ho hx hy hu hop hs h
      · simp only [Option.pure_def, Option.some.injEq] at hc; subst hc; exact snd_bin ho hx hy hs h
      · simp only [Option.pure_def, Option.some.injEq] at hc; subst hc; exact snd_bin ho hx hy hs h
      · rename_i fs hu
        split at hc
        · cases hc
        · rename_i hg
          simp only [Option.bind_eq_bind, Option.bind_eq_some_iff, Option.pure_def, Option.some.injEq] at hc
          obtain ⟨ks, hks, rfl⟩ := hc
          simp only [Bool.or_eq_true, not_or, Bool.not_eq_true] at hg
          exact snd_eqs ho hx hy hu hop hg.1 hg.2 hks hs h
      · cases hc
    split at hc
    · exact eqcase (.inl rfl) hc
    · exact eqcase (.inr rfl) hc
    · simp only [Option.pure_def, Option.some.injEq] at hc; subst hc; exact snd_bin ho hx hy hs h
  | unOp op t x => rw [ho] at hc; simp only [compOp, Option.bind_eq_bind, Option.bind_eq_some_iff, Option.pure_def, Option.some.injEq] at hc; obtain ⟨x', hx, rfl⟩ := hc; exact snd_un ho hx hs h
  | convert s d x =>
    rw [ho] at hc; simp only [compOp, Option.bind_eq_bind, Option.bind_eq_some_iff] at hc
    obtain ⟨x', hx, hc⟩ := hc
    have byte : ∀ e, isByteA P e = true → P.underlying e = some (.int .u8) := by
      intro e he
      unfold isByteA at he
      split at he
      · assumption
      · cases he
    split at hc
    · rename_i h1 h2; simp only [Option.pure_def, Option.some.injEq] at hc; subst hc; exact snd_conv ho hx h1 h2 hs h
    · rename_i h1 h2; simp only [Option.pure_def, Option.some.injEq] at hc; subst hc; exact snd_convSS ho hx h1 h2 hs h
    · rename_i h1 h2
      split at hc
      · rename_i hb; simp only [Option.pure_def, Option.some.injEq] at hc; subst hc; exact snd_convBS ho hx h1 h2 (byte _ hb) hs h
      · cases hc
    · rename_i h1 h2
      split at hc
      · rename_i hb; simp only [Option.pure_def, Option.some.injEq] at hc; subst hc; exact snd_convSB ho hx h1 h2 (byte _ hb) hs h
      · cases hc
    · rename_i e1 e2 h1 h2
      split at hc
      · rename_i hb
        simp only [Bool.and_eq_true, decide_eq_true_eq] at hb
        obtain ⟨rfl, hb⟩ := hb
        rw [h1] at h2; cases h2
        simp only [Option.pure_def, Option.some.injEq] at hc; subst hc; exact snd_mark ho hx h1 (byte _ hb) hs h
      · cases hc
    · cases hc
  | makeFunc fn first caps =>
    rw [ho] at hc; cases fn <;> simp only [compOp] at hc <;> try (cases hc; done)
    split at hc
    · rename_i hf
      simp only [Option.bind_eq_bind, Option.bind_eq_some_iff, Option.pure_def, Option.some.injEq] at hc
      obtain ⟨ys, hy, rfl⟩ := hc; exact snd_makeFunc ho hf hy hs h
    · cases hc
  | makeSlice t l c =>
    rw [ho] at hc; simp only [compOp, Option.bind_eq_bind, Option.bind_eq_some_iff, Option.pure_def, Option.some.injEq] at hc
    obtain ⟨e, he, s, hsz, b, hb, z, hz, l', hl, c', hc', rfl⟩ := hc; exact snd_mkSlice ho hl hc' he hsz hb hz hs h
  | slice t x lo hi mx =>
    rw [ho] at hc; simp only [compOp] at hc
    unfold compSlice at hc
    split at hc
    · split at hc
      · rename_i hu
        simp only [Option.bind_eq_bind, Option.bind_eq_some_iff, Option.pure_def, Option.some.injEq] at hc
        obtain ⟨x', hx, lo', hlo, hi', hhi, rfl⟩ := hc
        exact snd_sliceStr ho hx hlo hhi hu hs h
      · rename_i e hu
        simp only [Option.bind_eq_bind, Option.bind_eq_some_iff, Option.pure_def, Option.some.injEq] at hc
        obtain ⟨n, hn, x', hx, lo', hlo, hi', hhi, rfl⟩ := hc
        exact snd_slice ho hx hlo hhi hu hn hs h
      · cases hc
    · split at hc
      · rename_i m _ _ _ hh e hu
        split at hc
        · rename_i hz
          have zero : ∀ q : Operand, isZeroA q = true → q = .const (.int .i64 0) := by
            intro q hq
            unfold isZeroA at hq
            split at hq
            · rfl
            · cases hq
          simp only [Bool.and_eq_true] at hz
          cases zero _ hz.1
          cases zero _ hz.2
          simp only [Option.bind_eq_bind, Option.bind_eq_some_iff, Option.pure_def, Option.some.injEq] at hc
          obtain ⟨n, hn, x', hx, rfl⟩ := hc
          exact snd_slice00 ho hx hu hn hs h
        · cases hc
      · cases hc
  | fieldAddr s x f =>
    rw [ho] at hc; simp only [compOp] at hc
    split at hc
    · rename_i fs hu
      simp only [Option.bind_eq_bind, Option.bind_eq_some_iff] at hc
      obtain ⟨fd, hf, n, hn, hc⟩ := hc
      split at hc
      · cases hc
      · rename_i hne
        simp only [Option.bind_eq_some_iff, Option.pure_def, Option.some.injEq] at hc
        obtain ⟨x', hx, rfl⟩ := hc
        exact snd_fieldAddr ho hx hu hf hn hne hs h
    · cases hc
  | field s x f =>
    rw [ho] at hc; simp only [compOp] at hc
    split at hc
    · rename_i fs hu
      simp only [Option.bind_eq_bind, Option.bind_eq_some_iff, Option.pure_def, Option.some.injEq] at hc
      obtain ⟨fd, hf, ag, ht, n, hn, x', hx, rfl⟩ := hc
      exact snd_field ho hx hu hf hn ht hs h
    · cases hc
  | indexAddr t x i =>
    rw [ho] at hc; simp only [compOp, Option.bind_eq_bind, Option.bind_eq_some_iff, Option.pure_def, Option.some.injEq] at hc
    obtain ⟨e, he, s, hsz, x', hx, i', hi, rfl⟩ := hc; exact snd_indexAddr ho hx hi he hsz hs h
  | index t x i =>
    rw [ho] at hc; simp only [compOp] at hc
    split at hc
    · rename_i hu
      simp only [Option.bind_eq_bind, Option.bind_eq_some_iff, Option.pure_def, Option.some.injEq] at hc
      obtain ⟨x', hx, i', hi, rfl⟩ := hc
      exact snd_indexStr ho hx hi hu hs h
    · cases hc
  | extract x i => rw [ho] at hc; simp only [compOp, Option.bind_eq_bind, Option.bind_eq_some_iff, Option.pure_def, Option.some.injEq] at hc; obtain ⟨x', hx, rfl⟩ := hc; exact snd_extract ho hx hs h
  | range t x =>
    rw [ho] at hc; simp only [compOp] at hc
    split at hc
    · rename_i hu
      simp only [Option.bind_eq_bind, Option.bind_eq_some_iff, Option.pure_def, Option.some.injEq] at hc
      obtain ⟨x', hx, rfl⟩ := hc
      exact snd_range ho hx hu hs h
    · cases hc
  | next x b =>
    rw [ho] at hc
    cases b <;> simp only [compOp, Option.bind_eq_bind, Option.bind_eq_some_iff, Option.pure_def, Option.some.injEq] at hc
    · cases hc
    · obtain ⟨x', hx, rfl⟩ := hc; exact snd_next ho hx hs h
  | call c =>
    rw [ho] at hc; simp only [compOp] at hc
    obtain ⟨callee, ⟨args⟩, ⟨tys⟩⟩ := c
    unfold compCall at hc
    split at hc
    · rename_i f he
      simp only [] at he; subst he
      simp only [Option.bind_eq_bind, Option.bind_eq_some_iff, Option.pure_def] at hc
      obtain ⟨ys, hy, hc⟩ := hc
      cases oj <;> simp only [Bool.false_eq_true, if_false, if_true, Option.some.injEq] at hc <;> subst hc
      · exact snd_call ho hy hs h
      · exact snd_call ho hy hs (show opA P (.call f ys) ρ H K from h)
    · rename_i t he
      simp only [] at he; subst he
      simp only [Option.bind_eq_bind, Option.bind_eq_some_iff, Option.pure_def] at hc
      obtain ⟨ys, hy, hc⟩ := hc
      cases oj <;> simp only [Bool.false_eq_true, if_false, if_true, Option.some.injEq] at hc <;> subst hc
      · exact snd_callv ho hy hs h
      · exact snd_callv ho hy hs (show opA P (.callv (.t t) ys) ρ H K from h)
    · rename_i he
      simp only [] at he hc; subst he
      unfold compLen at hc
      split at hc
      · split at hc
        · rename_i hu
          simp only [Option.bind_eq_bind, Option.bind_eq_some_iff, Option.pure_def, Option.some.injEq] at hc
          obtain ⟨x', hx, rfl⟩ := hc
          exact snd_lenS ho hx hu hs h
        · rename_i hu
          simp only [Option.bind_eq_bind, Option.bind_eq_some_iff, Option.pure_def, Option.some.injEq] at hc
          obtain ⟨x', hx, rfl⟩ := hc
          exact snd_len ho hx hu hs h
        · cases hc
      · cases hc
    · rename_i he
      simp only [] at he hc; subst he
      unfold compAppend at hc
      split at hc
      · split at hc
        · rename_i x y t u hsrc
          simp only [Option.bind_eq_bind, Option.bind_eq_some_iff, Option.pure_def, Option.some.injEq] at hc
          obtain ⟨e, he, n, hn, b, hb, z, hz, x', hx, y', hy, rfl⟩ := hc
          refine snd_append ho hx hy he ?_ hn hb hz hs h
          unfold srcType at hsrc
          split at hsrc
          · rename_i e' hu; exact .inl ⟨_, hu⟩
          · rename_i hu; exact .inr hu
          · cases hsrc
        · cases hc
      · cases hc
    · rename_i he
      simp only [] at he hc; subst he
      unfold compMn at hc
      split at hc
      · simp only [Option.bind_eq_bind, Option.bind_eq_some_iff, Option.pure_def, Option.some.injEq] at hc
        obtain ⟨x', hx, y', hy, rfl⟩ := hc
        exact snd_mn ho hx hy hs h
      · cases hc
    · rename_i he
      simp only [] at he hc; subst he
      unfold compMx at hc
      split at hc
      · simp only [Option.bind_eq_bind, Option.bind_eq_some_iff, Option.pure_def, Option.some.injEq] at hc
        obtain ⟨x', hx, y', hy, rfl⟩ := hc
        exact snd_mx ho hx hy hs h
      · cases hc
    · cases hc
  | _ => rw [ho] at hc; simp only [compOp] at hc; cases hc
end
end Go.AW
