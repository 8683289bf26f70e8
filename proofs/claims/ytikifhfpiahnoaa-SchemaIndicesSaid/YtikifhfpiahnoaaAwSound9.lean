/-
  The abstract machine's operations are sound. Ninth part: equality of structs, iterators over strings.
  No condition: plain laws over any program.
-/
import Derived.Test.YtikifhfpiahnoaaAwSound8
import Derived.Laws.StructEq
namespace Go.AW

section
variable {E : Env} {P : Program} {C : Nat → Nat} {τ : Nat → Option Loc} {ρ : List AVal} {H : List AObj} {a : Act} {w : World} {K : AVal → List AObj → Prop}

theorem beq_bytes (a b : ByteArray) : (a == b) = (a.data.toList == b.data.toList) := by
  rw [beq_toListBytes, Lib.toList_data, Lib.toList_data]

theorem eqCell0 {c c' : AVal} {b : Bool} (h : eqCell 0 c c' = some b) : ∃ x y, c = .bool x ∧ c' = .bool y ∧ b = (x == y) := by
  cases c <;> cases c' <;> simp [eqCell] at h
  exact ⟨_, _, rfl, rfl, h.symm⟩
theorem eqCell1 {c c' : AVal} {b : Bool} (h : eqCell 1 c c' = some b) : ∃ k x y, c = .int k x ∧ c' = .int k y ∧ b = (x == y) := by
  cases c <;> cases c' <;> simp [eqCell] at h
  obtain ⟨rfl, h⟩ := h
  exact ⟨_, _, _, rfl, rfl, h.symm⟩
theorem eqCell2 {c c' : AVal} {b : Bool} (h : eqCell 2 c c' = some b) : ∃ x y, c = .str x ∧ c' = .str y ∧ b = (x.data.toList == y.data.toList) := by
  cases c <;> cases c' <;> simp only [eqCell, Option.some.injEq] at h <;> try (cases h; done)
  exact ⟨_, _, rfl, rfl, h.symm⟩

/-- One field. -/
theorem run_eqField {f : Field} {n : Nat} {c c' : AVal} {v v' : Value} {b : Bool} {xs ys : Array Value} (d : Nat)
    (hk : (P.underlying f.type = some .bool ∧ n = 0) ∨ ((∃ k, P.underlying f.type = some (.int k)) ∧ n = 1) ∨ (P.underlying f.type = some .string ∧ n = 2))
    (hx : xs[f.offset]? = some v) (hy : ys[f.offset]? = some v') (hc : Rel C w τ H c v) (hc' : Rel C w τ H c' v') (he : eqCell n c c' = some b) :
    (part f.type xs f.offset).run P w = .ok v w ∧ (part f.type ys f.offset).run P w = .ok v' w ∧ (Op.equalIn (d + 1) f.type v v').run P w = .ok b w := by
  have part1 : ∀ {zs : Array Value} {u : Value}, zs[f.offset]? = some u → tagOf P f.type = some false → (part f.type zs f.offset).run P w = .ok u w := by
    intro zs u hz ht
    simp only [part, Sem.run_bind, run_isAgg ht, Result.andThen_ok, Bool.false_eq_true, if_false, hz, Sem.run_pure]
  rcases hk with ⟨hu, rfl⟩ | ⟨⟨k, hu⟩, rfl⟩ | ⟨hu, rfl⟩
  all_goals
    have ht : tagOf P f.type = some false := by simp [tagOf, hu]
    refine ⟨part1 hx ht, part1 hy ht, ?_⟩
    rw [Op.equalIn]
  · obtain ⟨x, y, rfl, rfl, rfl⟩ := eqCell0 he
    cases hc.bool_inv; cases hc'.bool_inv
    simp only [Sem.run_bind, run_und hu, Result.andThen_ok, Sem.run_pure]
  · obtain ⟨k', x, y, rfl, rfl, rfl⟩ := eqCell1 he
    cases hc.int_inv; cases hc'.int_inv
    simp only [Sem.run_bind, run_und hu, Result.andThen_ok, if_true, Sem.run_pure]
  · obtain ⟨x, y, rfl, rfl, rfl⟩ := eqCell2 he
    cases hc.str_inv; cases hc'.str_inv
    simp only [Sem.run_bind, run_und hu, Result.andThen_ok, Sem.run_pure, beq_bytes]

def eqLoop (d : Nat) (xs ys : Array Value) (fs : List Field) : Sem (Option Bool × Unit) :=
  forIn fs (none, ()) fun f _ =>
    if f.name ≠ "_" then do
      let u ← part f.type xs f.offset
      let v ← part f.type ys f.offset
      let b ← Op.equalIn d f.type u v
      if (!b) = true then pure (ForInStep.done (some false, ())) else pure (ForInStep.yield (none, ()))
    else pure (ForInStep.yield (none, ()))

theorem run_eqLoop (d : Nat) {xs ys : Array Value} {cs ds : List AVal} (hl : cs.length = xs.size) (hl' : ds.length = ys.size) (hr : ∀ (i : Nat) (c : AVal) (v : Value), cs[i]? = some c → xs[i]? = some v → Rel C w τ H c v)
    (hr' : ∀ (i : Nat) (c : AVal) (v : Value), ds[i]? = some c → ys[i]? = some v → Rel C w τ H c v) : ∀ (fs : List Field) (i : Nat) (ks : List Nat) (Kb : Bool → Prop), fieldKinds P fs i = some ks → eqCellsM ks (cs.drop i) (ds.drop i) Kb →
    ∃ b, Kb b ∧ (eqLoop (d + 1) xs ys fs).run P w = .ok (if b then (none, ()) else (some false, ())) w
  | [], i, ks, Kb, hk, h => by
    simp only [fieldKinds, Option.some.injEq] at hk; subst hk
    unfold eqCellsM at h
    split at h
    · exact ⟨true, h, rfl⟩
    · rename_i e _ _; cases e
    · exact h.elim
  | f :: fs, i, ks, Kb, hk, h => by
    unfold fieldKinds at hk
    split at hk
    case isFalse => cases hk
    rename_i hf
    obtain ⟨hoff, hname⟩ := hf
    have main : ∀ (n : Nat) (l : List Nat), ks = n :: l → fieldKinds P fs (i + 1) = some l → ((P.underlying f.type = some .bool ∧ n = 0) ∨ ((∃ k, P.underlying f.type = some (.int k)) ∧ n = 1) ∨ (P.underlying f.type = some .string ∧ n = 2)) →
        ∃ b, Kb b ∧ (eqLoop (d + 1) xs ys (f :: fs)).run P w = .ok (if b then (none, ()) else (some false, ())) w := by
      rintro n l rfl hl2 hkind
      unfold eqCellsM at h
      split at h
      · rename_i e _ _; cases e
      · rename_i n' ns x xs' y ys' e1 e2 e3
        cases e1
        have hx : cs[i]? = some x := by
          have := congrArg (·[0]?) e2
          simpa using this
        have hy : ds[i]? = some y := by
          have := congrArg (·[0]?) e3
          simpa using this
        have hx' : cs.drop (i + 1) = xs' := by rw [← List.drop_drop, e2]; rfl
        have hy' : ds.drop (i + 1) = ys' := by rw [← List.drop_drop, e3]; rfl
        have hxi := (List.getElem?_eq_some_iff.1 hx).1
        have hyi := (List.getElem?_eq_some_iff.1 hy).1
        have hxv : xs[f.offset]? = some xs[i] := by rw [hoff]; exact Array.getElem?_eq_getElem (by omega)
        have hyv : ys[f.offset]? = some ys[i] := by rw [hoff]; exact Array.getElem?_eq_getElem (by omega)
        split at h
        · rename_i b hb
          obtain ⟨p1, p2, p3⟩ := run_eqField d hkind hxv hyv (hr i x _ hx (by have := hxv; rwa [hoff] at this)) (hr' i y _ hy (by have := hyv; rwa [hoff] at this)) hb
          rw [← hx', ← hy'] at h
          obtain ⟨c, hc, hrun⟩ := run_eqLoop d hl hl' hr hr' fs (i + 1) l _ hl2 h
          refine ⟨b && c, hc, ?_⟩
          unfold eqLoop at hrun ⊢
          rw [List.forIn_cons]
          cases b with
          | false =>
            simp only [ne_eq, hname, not_false_eq_true, if_true, Sem.run_bind, p1, p2, p3, Result.andThen_ok, Bool.not_false, Sem.run_pure, Bool.false_and, Bool.false_eq_true, if_false]
          | true =>
            simp only [ne_eq, hname, not_false_eq_true, if_true, Sem.run_bind, p1, p2, p3, Result.andThen_ok, Bool.not_true, Bool.false_eq_true, if_false, Sem.run_pure, Bool.true_and]
            exact hrun
        · exact h.elim
      · exact h.elim
    split at hk
    · rename_i l hu hl2; cases hk; exact main 0 l rfl hl2 (.inl ⟨hu, rfl⟩)
    · rename_i k l hu hl2; cases hk; exact main 1 l rfl hl2 (.inr (.inl ⟨⟨_, hu⟩, rfl⟩))
    · rename_i l hu hl2; cases hk; exact main 2 l rfl hl2 (.inr (.inr ⟨hu, rfl⟩))
    · cases hk

theorem snd_eqs {o : Oper} {op : BinOp} {t u : TypeId} {x y : Operand} {x' y' : AOpd} {fs : Array Field} {ks : List Nat} (ho : o.op = .binOp op t x y u) (hx : compOpd x = some x') (hy : compOpd y = some y')
    (hd : P.underlying t = some (.struct fs)) (hop : op = .eql ∨ op = .neq) (hst : P.stoodInHeld t = false) (hgu : P.eqGuardType P.depth t = false) (hks : fieldKinds P fs.toList 0 = some ks) (hs : SA E C τ ρ H a w)
    (h : opA P (.eqs (decide (op = .neq)) ks x' y') ρ H K) : OpRes P ((execOp a.eval o).run P w) (Out E ρ a K) := by
  simp only [opA, evK_eq] at h
  have hrx := hs.ev hx
  have hry := hs.ev hy
  split at h
  case h_2 => exact h.elim
  rename_i cs ds e1 e2
  rw [e1] at hrx
  rw [e2] at hry
  obtain ⟨xs, f1, f2, f3⟩ := hrx.agg_inv
  obtain ⟨ys, g1, g2, g3⟩ := hry.agg_inv
  obtain ⟨b, hk, hrun⟩ := run_eqLoop (P := P) 9998 f2 g2 f3 g3 fs.toList 0 ks _ hks (by rw [← eqCells_eqM]; simpa using h)
  have heq : (Op.equal t (.agg xs) (.agg ys)).run P w = .ok b w := by
    show (Op.equalIn (9999 + 1) t (.agg xs) (.agg ys)).run P w = _
    rw [Op.equalIn]
    simp only [Sem.run_bind, run_und hd, Result.andThen_ok, run_program, hst, Bool.false_eq_true, if_false]
    unfold eqLoop at hrun
    rw [← Array.forIn_toList, hrun]
    cases b <;> rfl
  have hguard : (eqGuard op t x y (.agg xs) (.agg ys)).run P w = .ok () w := by
    rcases hop with rfl | rfl <;> simp [eqGuard, hgu]
  rcases hop with rfl | rfl
  · have hbin : (binOp .eql t (.agg xs) (.agg ys)).run P w = .ok (.bool b) w := by simp [binOp, heq]
    simp only [execOp, ho, f1, g1, Sem.run_bind, hguard, Result.andThen_ok, hbin, Sem.run_pure, OpRes]
    exact out_same hs hk (.rd (.bool _))
  · have hbin : (binOp .neq t (.agg xs) (.agg ys)).run P w = .ok (.bool !b) w := by simp [binOp, heq]
    simp only [execOp, ho, f1, g1, Sem.run_bind, hguard, Result.andThen_ok, hbin, Sem.run_pure, OpRes]
    exact out_same hs hk (.rd (.bool _))

theorem snd_range {o : Oper} {t : TypeId} {x : Operand} {x' : AOpd} (ho : o.op = .range t x) (hx : compOpd x = some x') (hu : P.underlying t = some .string) (hs : SA E C τ ρ H a w)
    (h : opA P (.range x') ρ H K) : OpRes P ((execOp a.eval o).run P w) (Out E ρ a K) := by
  simp only [opA, evK_eq] at h
  have hr := hs.ev hx
  split at h
  case h_2 => exact h.elim
  rename_i s hv
  rw [hv] at hr
  simp only [snocK_eq, Nat.zero_add] at h
  have run : (execOp a.eval o).run P w = .ok (.value (.pointer (some ⟨w.heap.size, 0, none⟩))) (w.alloc (.stringIter s 0)) := by
    simp only [execOp, ho, hr.str_inv, Instr.range, Sem.run_bind, run_und hu, Result.andThen_ok, Sem.run_pure, run_newObj_alloc]
  rw [run]
  obtain ⟨st, s1⟩ := hs.st.alloc_obj (.stringIter s 0) (.iter s 0) 0 trivial fun C' τ' H' w' _ hh => hh
  exact out_step hs h (.it H.length s 0 _ (by simp) (updF_same _ _ _)) st s1

theorem snd_next {o : Oper} {x : Operand} {x' : AOpd} (ho : o.op = .next x true) (hx : compOpd x = some x') (hs : SA E C τ ρ H a w)
    (h : opA P (.next x') ρ H K) : OpRes P ((execOp a.eval o).run P w) (Out E ρ a K) := by
  simp only [opA, evK_eq] at h
  have hr := hs.ev hx
  split at h
  case h_2 => exact h.elim
  rename_i id hv
  rw [hv] at hr
  simp only [objK, idxA_iff] at h
  obtain ⟨ob, hob, h⟩ := h
  split at h
  case h_2 => exact h.elim
  rename_i s pos
  rw [condA_eq] at h
  obtain ⟨l, hl, hu⟩ : ∃ l, τ id = some l ∧ a.eval x = .pointer (some ⟨l.b, 0, none⟩) := by
    generalize a.eval x = z at hr
    cases hr with
    | rd hr => cases hr
    | it _ s' p' l ho' ht => exact ⟨l, ht, rfl⟩
  have hat := hs.st.wf.objs id _ l hob hl
  have hget : (getObj l.b).run P w = .ok (.stringIter s pos) w := by
    have hh : w.heap[l.b]? = some (.stringIter s pos) := hat
    simp only [getObj, Sem.run, hh]
  split at h
  · rename_i hc
    have hlt : pos < s.size := by simpa using hc
    simp only [setO_eq] at h
    generalize hw' : ({ w with heap := w.heap.setIfInBounds l.b (.stringIter s (pos + (Utf8.decode s pos).2)) } : World) = w'
    have run : (execOp a.eval o).run P w = .ok (.value (.tuple #[.bool true, goInt pos, .int .i32 (Utf8.decode s pos).1])) w' := by
      have hh : w.heap[l.b]? = some (.stringIter s pos) := hat
      have hset : (setObj l.b (.stringIter s (pos + (Utf8.decode s pos).2))).run P w = .ok () w' := by
        simp only [setObj, Sem.run, hh, hw']
      simp only [execOp, ho, hu, Instr.next, Sem.run_bind, hget, Result.andThen_ok, if_pos hlt, hset, Sem.run_pure]
    rw [run]
    have hb := lt_of_heap (w := w) hat
    obtain ⟨st, s1⟩ := hs.st.set_obj (w' := w') (o' := .iter s (pos + (Utf8.decode s pos).2)) hob hl (fun b hne => by
      rw [← hw']; simp only []; rw [Array.getElem?_setIfInBounds_ne (fun e => hne e.symm)]) (by rw [← hw']; simp) (by rw [← hw']) (by rw [← hw']) (by rw [← hw']) rfl trivial fun C' τ' H' _ => by
        show w'.heap[l.b]? = _
        rw [← hw']
        simp only []
        rw [Array.getElem?_setIfInBounds_self_of_lt hb]
    refine out_step hs h (.tuple _ _ rfl fun i c v hc hv => ?_) st s1
    match i, hc, hv with
    | 0, hc, hv => simp at hc hv; subst hc hv; exact .rd (.bool _)
    | 1, hc, hv => simp at hc hv; subst hc hv; exact .rd (.int _ _)
    | 2, hc, hv => simp at hc hv; subst hc hv; exact .rd (.int _ _)
    | i + 3, hc, hv => simp at hc
  · rename_i hc
    have hlt : ¬ pos < s.size := by simpa using hc
    have run : (execOp a.eval o).run P w = .ok (.value (.tuple #[.bool false])) w := by
      simp only [execOp, ho, hu, Instr.next, Sem.run_bind, hget, Result.andThen_ok, if_neg hlt, Sem.run_pure]
    rw [run]
    refine out_same hs h (.tuple _ _ rfl fun i c v hc hv => ?_)
    match i, hc, hv with
    | 0, hc, hv => simp at hc hv; subst hc hv; exact .rd (.bool _)
    | i + 1, hc, hv => simp at hc
end
end Go.AW
