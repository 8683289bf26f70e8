/-
  The abstract machine's operations are sound. Second part: operations that make no memory and no call.
  No condition: plain laws over any program.
-/
import Derived.Test.YtikifhfpiahnoaaAwSound1
import Derived.Lib.Strings
namespace Go.AW

section
variable {E : Env} {P : Program} {C : Nat → Nat} {τ : Nat → Option Loc} {ρ : List AVal} {H : List AObj} {a : Act} {w : World} {K : AVal → List AObj → Prop}

/-- A value in the same world. -/
theorem out_same (hs : SA E C τ ρ H a w) {v : AVal} {u : Value} (hk : K v H) (hr : Rel C w τ H v u) : Out E ρ a K u w := ⟨v, C, τ, H, hk, hr, hs⟩

theorem out_step {C' : Nat → Nat} {τ' : Nat → Option Loc} {H' : List AObj} {w' : World} (hs : SA E C τ ρ H a w) {v : AVal} {u : Value} (hk : K v H') (hr : Rel C' w' τ' H' v u)
    (st : St E.w0 E.Pr C' τ' H' w') (s : Step C τ H w C' τ' H' w') : Out E ρ a K u w' := ⟨v, C', τ', H', hk, hr, hs.go st s⟩

theorem snd_move {o : Oper} {x : Operand} {x' : AOpd} (ho : o.op = .move x ∨ o.op = .assign x) (hx : compOpd x = some x') (hs : SA E C τ ρ H a w)
    (h : opA P (.move x') ρ H K) : OpRes P ((execOp a.eval o).run P w) (Out E ρ a K) := by
  simp only [opA, evK_eq] at h
  have hr := hs.ev hx
  rcases ho with ho | ho <;> simp only [execOp, ho, Sem.run_pure, OpRes] <;> exact out_same hs h hr

theorem snd_pick {o : Oper} {c x y : Operand} {c' x' y' : AOpd} (ho : o.op = .pick c x y) (hc : compOpd c = some c') (hx : compOpd x = some x') (hy : compOpd y = some y') (hs : SA E C τ ρ H a w)
    (h : opA P (.pick c' x' y') ρ H K) : OpRes P ((execOp a.eval o).run P w) (Out E ρ a K) := by
  simp only [opA, evK_eq] at h
  have hrc := hs.ev hc
  have hrx := hs.ev hx
  have hry := hs.ev hy
  cases hv : ev ρ c' <;> rw [hv] at h hrc <;> simp only [] at h
  rename_i b
  have e := hrc.bool_inv
  rw [condA_eq] at h
  simp only [execOp, ho, e, asBool]
  cases b <;> simp only [] at h
  · exact out_same hs h hry
  · exact out_same hs h hrx

theorem run_eqGuard {op : BinOp} {t : TypeId} {x y : Operand} {v u : Value} (h1 : v.oneCell' = true) (h2 : v ≠ .nilIface) : (eqGuard op t x y v u).run P w = .ok () w := by
  cases op <;> cases v <;> first | (exact absurd rfl h2) | (simp [Value.oneCell'] at h1; done) | (simp [eqGuard]; done) | (cases u <;> simp [eqGuard])

theorem run_binBool {op : BinOp} {t : TypeId} {b c : Bool} (hd : P.underlying t = some .bool) (hop : op = .eql ∨ op = .neq) :
    (binOp op t (.bool b) (.bool c)).run P w = .ok (.bool (if decide (op = .neq) then !(b == c) else b == c)) w := by
  have : (Op.equal t (.bool b) (.bool c)).run P w = .ok (b == c) w := by
    show (Op.equalIn (9999 + 1) t (.bool b) (.bool c)).run P w = _
    rw [Op.equalIn]
    simp only [Sem.run_bind, run_und hd, Result.andThen_ok, Sem.run_pure]
  rcases hop with rfl | rfl <;> simp [binOp, this]

theorem snd_eqb {o : Oper} {op : BinOp} {t u : TypeId} {x y : Operand} {x' y' : AOpd} (ho : o.op = .binOp op t x y u) (hx : compOpd x = some x') (hy : compOpd y = some y')
    (hd : P.underlying t = some .bool) (hop : op = .eql ∨ op = .neq) (hs : SA E C τ ρ H a w)
    (h : opA P (.eqb (decide (op = .neq)) x' y') ρ H K) : OpRes P ((execOp a.eval o).run P w) (Out E ρ a K) := by
  simp only [opA, evK_eq] at h
  have hrx := hs.ev hx
  have hry := hs.ev hy
  split at h
  case h_2 => exact h.elim
  rename_i b c e1 e2
  rw [e1] at hrx
  rw [e2] at hry
  simp only [execOp, ho, hrx.bool_inv, hry.bool_inv, Sem.run_bind, run_eqGuard (v := .bool _) rfl (by simp), Result.andThen_ok, run_binBool hd hop, Sem.run_pure, OpRes]
  rcases hop with rfl | rfl <;> exact out_same hs h (.rd (.bool _))

theorem snd_bin {o : Oper} {op : BinOp} {t u : TypeId} {x y : Operand} {x' y' : AOpd} (ho : o.op = .binOp op t x y u) (hx : compOpd x = some x') (hy : compOpd y = some y')
    (hs : SA E C τ ρ H a w) (h : opA P (.bin op x' y') ρ H K) : OpRes P ((execOp a.eval o).run P w) (Out E ρ a K) := by
  simp only [opA, evK_eq] at h
  have hrx := hs.ev hx
  have hry := hs.ev hy
  unfold binV at h
  split at h
  case h_3 => exact h.elim
  case h_1 ka na kb nb hv hu =>
    rw [hv] at hrx
    rw [hu] at hry
    have fin : ∀ r : AVal, ∀ v : Value, K r H → Rel C w τ H r v → (binOp op t (.int ka na) (.int kb nb)).run P w = .ok v w →
        OpRes P ((execOp a.eval o).run P w) (Out E ρ a K) := by
      intro r v hk hr he
      simp only [execOp, ho, hrx.int_inv, hry.int_inv, Sem.run_bind, run_eqGuard (v := .int _ _) rfl (by simp), Result.andThen_ok, he, Sem.run_pure, OpRes]
      exact out_same hs hk hr
    cases op <;> simp only [chkA_iff, decide_eq_true_eq] at h <;> first
      | exact h.elim
      | exact h.2.elim
      | skip
    case shl => exact fin _ _ h.2 (.rd (.int _ _)) (by simp [binOp, Op.shift, Int.not_lt.2 h.1])
    case shr => exact fin _ _ h.2 (.rd (.int _ _)) (by simp [binOp, Op.shift, Int.not_lt.2 h.1])
    case quo => obtain ⟨rfl, h1, h2⟩ := h; exact fin _ _ h2 (.rd (.int _ _)) (by simp [binOp, Op.intDiv, h1])
    case rem => obtain ⟨rfl, h1, h2⟩ := h; exact fin _ _ h2 (.rd (.int _ _)) (by simp [binOp, Op.intDiv, h1])
    all_goals
      obtain ⟨rfl, h2⟩ := h
      first
        | exact fin _ _ h2 (.rd (.int _ _)) (by simp only [binOp, ne_eq, not_true_eq_false, if_false]; rfl)
        | exact fin _ _ h2 (.rd (.bool _)) (by simp [binOp, Op.intCmp])
  case h_2 sa sb hv hu =>
    rw [hv] at hrx
    rw [hu] at hry
    have fin : ∀ r : AVal, ∀ v : Value, K r H → Rel C w τ H r v → (binOp op t (.string sa) (.string sb)).run P w = .ok v w →
        OpRes P ((execOp a.eval o).run P w) (Out E ρ a K) := by
      intro r v hk hr he
      simp only [execOp, ho, hrx.str_inv, hry.str_inv, Sem.run_bind, run_eqGuard (v := .string _) rfl (by simp), Result.andThen_ok, he, Sem.run_pure, OpRes]
      exact out_same hs hk hr
    cases op <;> simp only [] at h
    case add =>
      refine fin _ _ h.2 (.rd (.str _)) ?_
      have hm : ¬ (((sa.size + sb.size : Nat) : Int) > IntKind.i64.max) := by
        have := h.1
        have e : IntKind.i64.max = 9223372036854775807 := by decide
        rw [e]; omega
      simp only [binOp, Op.stringOp, if_neg hm, Sem.run_pure]
    all_goals exact fin _ _ h (.rd (.bool _)) (by simp [binOp, Op.stringOp, Lib.toList_data])

theorem snd_un {o : Oper} {op : UnOp} {t : TypeId} {x : Operand} {x' : AOpd} (ho : o.op = .unOp op t x) (hx : compOpd x = some x') (hs : SA E C τ ρ H a w)
    (h : opA P (.un op x') ρ H K) : OpRes P ((execOp a.eval o).run P w) (Out E ρ a K) := by
  simp only [opA, evK_eq] at h
  have hr := hs.ev hx
  cases op <;> cases hv : ev ρ x' <;> rw [hv] at h hr <;> simp only [unV] at h
  · have e := hr.int_inv
    simp only [execOp, ho, e, Op.unary, Op.intArith]
    exact out_same hs h (.rd (.int _ _))
  · have e := hr.bool_inv
    simp only [execOp, ho, e, Op.unary]
    exact out_same hs h (.rd (.bool _))

theorem snd_conv {o : Oper} {s d : TypeId} {x : Operand} {x' : AOpd} {k j : IntKind} (ho : o.op = .convert s d x) (hx : compOpd x = some x') (h1 : P.underlying s = some (.int j)) (h2 : P.underlying d = some (.int k))
    (hs : SA E C τ ρ H a w) (h : opA P (.conv k x') ρ H K) : OpRes P ((execOp a.eval o).run P w) (Out E ρ a K) := by
  simp only [opA, evK_eq] at h
  have hr := hs.ev hx
  cases hv : ev ρ x' <;> rw [hv] at h hr <;> simp only [] at h
  have e := hr.int_inv
  simp only [execOp, ho, e, convert, Sem.run_bind, run_und h1, run_und h2, Result.andThen_ok, Conv.intToInt, Sem.run_pure, OpRes]
  exact out_same hs h (.rd (.int _ _))

theorem snd_convSS {o : Oper} {s d : TypeId} {x : Operand} {x' : AOpd} (ho : o.op = .convert s d x) (hx : compOpd x = some x') (h1 : P.underlying s = some .string) (h2 : P.underlying d = some .string)
    (hs : SA E C τ ρ H a w) (h : opA P (.convSS x') ρ H K) : OpRes P ((execOp a.eval o).run P w) (Out E ρ a K) := by
  simp only [opA, evK_eq] at h
  have hr := hs.ev hx
  split at h
  case h_2 => exact h.elim
  rename_i b hb
  rw [hb] at hr
  have e := hr.str_inv
  simp only [execOp, ho, e, convert, Sem.run_bind, run_und h1, run_und h2, Result.andThen_ok, Sem.run_pure, OpRes]
  exact out_same hs h (.rd (.str _))

theorem snd_extract {o : Oper} {x : Operand} {x' : AOpd} {i : Nat} (ho : o.op = .extract x i) (hx : compOpd x = some x') (hs : SA E C τ ρ H a w)
    (h : opA P (.extract x' i) ρ H K) : OpRes P ((execOp a.eval o).run P w) (Out E ρ a K) := by
  simp only [opA, evK_eq] at h
  have hr := hs.ev hx
  cases hv : ev ρ x' <;> rw [hv] at h hr <;> simp only [] at h
  rename_i vs
  obtain ⟨us, e, hl, hrel⟩ := hr.tuple_inv
  rw [idxA_iff] at h
  obtain ⟨v, hv1, hk⟩ := h
  have hi := (List.getElem?_eq_some_iff.1 hv1).1
  have hu : us[i]? = some us[i] := Array.getElem?_eq_getElem (by omega)
  simp only [execOp, ho, e, Instr.extract, hu]
  exact out_same hs hk (hrel i v _ hv1 hu)

theorem snd_nop {o : Oper} {x : Operand} {x' : AOpd} (ho : o.op = .nilCheck x) (hx : compOpd x = some x') (hs : SA E C τ ρ H a w)
    (h : opA P (.nop x') ρ H K) : OpRes P ((execOp a.eval o).run P w) (Out E ρ a K) := by
  simp only [opA, evK_eq] at h
  have hr := hs.ev hx
  cases hv : ev ρ x' <;> rw [hv] at h hr <;> simp only [] at h
  case ptr =>
    obtain ⟨ad, e⟩ : ∃ ad, a.eval x = .pointer (some ad) := by
      generalize a.eval x = z at hr
      cases hr with
      | rd hr => cases hr
      | ptr _ _ _ _ ad esz es h1 h2 h3 => exact ⟨ad, rfl⟩
    simp only [execOp, ho, e, Sem.run_pure, OpRes]
    rw [e] at hr
    exact out_same hs h hr
  case cptr =>
    obtain ⟨ad, e⟩ : ∃ ad, a.eval x = .pointer (some ad) := by
      generalize a.eval x = z at hr
      cases hr with
      | rd hr => cases hr; exact ⟨_, rfl⟩
    simp only [execOp, ho, e, Sem.run_pure, OpRes]
    rw [e] at hr
    exact out_same hs h hr
  case fn =>
    obtain ⟨f, vs, e⟩ : ∃ f vs, a.eval x = .func (.func f) #[] vs := by
      generalize a.eval x = z at hr
      cases hr with
      | rd hr => cases hr; exact ⟨_, _, rfl⟩
      | fn f cs vs h1 h2 => exact ⟨_, _, rfl⟩
    simp only [execOp, ho, e, Sem.run_pure, OpRes]
    rw [e] at hr
    exact out_same hs h hr

end
end Go.AW
