/-
  The abstract machine's operations are sound. Fourth part: slices of slices and strings, texts of bytes, equality of structs, iterators.
  No condition: plain laws over any program.
-/
import Derived.Test.YtikifhfpiahnoaaAwSound3
namespace Go.AW

section
variable {E : Env} {P : Program} {C : Nat → Nat} {τ : Nat → Option Loc} {ρ : List AVal} {H : List AObj} {a : Act} {w : World} {K : AVal → List AObj → Prop}

theorem evsK_rel (hs : SA E C τ ρ H a w) : ∀ (xs : List Operand) (ys : List AOpd), compOpds xs = some ys → (ys.map (ev ρ)).length = (xs.map a.eval).length ∧
    ∀ (i : Nat) (c : AVal) (v : Value), (ys.map (ev ρ))[i]? = some c → (xs.map a.eval)[i]? = some v → Rel C w τ H c v
  | [], ys, h => by
    simp only [compOpds, Option.some.injEq] at h; subst h
    exact ⟨rfl, fun i c v h => by simp at h⟩
  | x :: xs, ys, h => by
    simp only [compOpds, Option.bind_eq_bind, Option.bind_eq_some_iff, Option.pure_def, Option.some.injEq] at h
    obtain ⟨y, hy, zs, hz, rfl⟩ := h
    obtain ⟨h1, h2⟩ := evsK_rel hs xs zs hz
    refine ⟨by simpa using h1, fun i c v hc hv => ?_⟩
    cases i with
    | zero => simp at hc hv; subst hc hv; exact hs.ev hy
    | succ i => simp at hc hv; exact h2 i c v (by simpa using hc) (by simpa using hv)

theorem snd_makeFunc {o : Oper} {f : FuncId} {first caps : Array Operand} {ys : List AOpd} (ho : o.op = .makeFunc (.func f) first caps) (hf : first.isEmpty = true) (hc : compOpds caps.toList = some ys)
    (hs : SA E C τ ρ H a w) (h : opA P (.makeFunc f ys) ρ H K) : OpRes P ((execOp a.eval o).run P w) (Out E ρ a K) := by
  simp only [opA, evsK_eq] at h
  have hr := evsK_rel hs _ _ hc
  have hf0 : first = #[] := by simpa using hf
  simp only [execOp, ho, Instr.makeFunc, Sem.run_bind, Sem.run_pure, Result.andThen_ok, OpRes, hf0]
  rw [Array.map_empty]
  refine out_same hs h (.fn _ _ (caps.map a.eval) (by simpa using hr.1) fun i c v h1 h2 => hr.2 i c v h1 ?_)
  rw [← h2]; simp

theorem snd_mn {o : Oper} {t u : TypeId} {x y : Operand} {x' y' : AOpd} (hop : o.op = .call { callee := .builtin .min, args := #[x, y], argTypes := #[t, u] }) (hx : compOpd x = some x') (hy : compOpd y = some y')
    (hs : SA E C τ ρ H a w) (h : opA P (.mn x' y') ρ H K) : OpRes P ((execOp a.eval o).run P w) (Out E ρ a K) := by
  simp only [opA, evK_eq] at h
  have hrx := hs.ev hx
  have hry := hs.ev hy
  split at h
  case h_2 => exact h.elim
  rename_i k m j n e1 e2
  rw [e1] at hrx
  rw [e2] at hry
  have : (execOp a.eval o).run P w = .ok (.value (.int k (if n < m then n else m))) w := by
    simp [execOp, hop, resolve, invoke, builtin, Builtin.min_, Builtin.min2, hrx.int_inv, hry.int_inv]
  rw [this]
  exact out_same hs h (.rd (.int _ _))

theorem snd_mx {o : Oper} {t u : TypeId} {x y : Operand} {x' y' : AOpd} (hop : o.op = .call { callee := .builtin .max, args := #[x, y], argTypes := #[t, u] }) (hx : compOpd x = some x') (hy : compOpd y = some y')
    (hs : SA E C τ ρ H a w) (h : opA P (.mx x' y') ρ H K) : OpRes P ((execOp a.eval o).run P w) (Out E ρ a K) := by
  simp only [opA, evK_eq] at h
  have hrx := hs.ev hx
  have hry := hs.ev hy
  split at h
  case h_2 => exact h.elim
  rename_i k m j n e1 e2
  rw [e1] at hrx
  rw [e2] at hry
  have : (execOp a.eval o).run P w = .ok (.value (.int k (if n > m then n else m))) w := by
    simp [execOp, hop, resolve, invoke, builtin, Builtin.max_, Builtin.max2, hrx.int_inv, hry.int_inv]
  rw [this]
  exact out_same hs h (.rd (.int _ _))

/-! ### Slice expressions -/

theorem optOpd_some {x : Operand} {y : Option AOpd} (h : optOpd (some x) = some y) : ∃ z, y = some z ∧ compOpd x = some z := by
  simp only [optOpd, Option.map_eq_some_iff] at h
  obtain ⟨z, h1, h2⟩ := h
  exact ⟨z, h2.symm, h1⟩

theorem run_bounds (hs : SA E C τ ρ H a w) {lo hi : Option Operand} {lo' hi' : Option AOpd} (h1 : optOpd lo = some lo') (h2 : optOpd hi = some hi') {len cap : Nat} (hlc : len ≤ cap) {Kb : Nat → Nat → Prop} (isSlice : Bool)
    (h : boundsK ρ lo' hi' len Kb) : ∃ l r, (Instr.sliceBounds isSlice len cap (lo.map a.eval) (hi.map a.eval) none).run P w = .ok (l, r, cap) w ∧ l ≤ r ∧ r ≤ len ∧ (hi'.isNone = true → r = len) ∧ Kb l r := by
  have bnd : ∀ (k : IntKind) (n : Int) (m : Nat) (code : BoundsCode), 0 ≤ n → n ≤ m → (Instr.sliceBound (.int k n) m code).run P w = .ok n.toNat w := by
    intro k n m code h0 h1
    simp [Instr.sliceBound, asIntOf, h0, h1]
  cases lo with
  | none =>
    simp only [optOpd, Option.some.injEq] at h1; subst h1
    cases hi with
    | none =>
      simp only [optOpd, Option.some.injEq] at h2; subst h2
      simp only [boundsK] at h
      exact ⟨0, len, by simp [Instr.sliceBounds], Nat.zero_le _, Nat.le_refl _, fun _ => rfl, h⟩
    | some y =>
      obtain ⟨y', rfl, hy⟩ := optOpd_some h2
      have hr := hs.ev hy
      simp only [boundsK, evK_eq] at h
      split at h
      case h_2 => exact h.elim
      rename_i k n e
      rw [e] at hr
      obtain ⟨⟨h0, hn⟩, hk⟩ := h
      refine ⟨0, n.toNat, ?_, Nat.zero_le _, by omega, (fun e => by cases e), hk⟩
      simp only [Instr.sliceBounds, Option.map_none, Option.map_some, hr.int_inv, Sem.run_bind, Sem.run_pure, Result.andThen_ok, bnd k n cap _ h0 (by omega)]
  | some x =>
    obtain ⟨x', rfl, hx⟩ := optOpd_some h1
    have hr := hs.ev hx
    cases hi with
    | none =>
      simp only [optOpd, Option.some.injEq] at h2; subst h2
      simp only [boundsK, evK_eq] at h
      split at h
      case h_2 => exact h.elim
      rename_i k n e
      rw [e] at hr
      obtain ⟨⟨h0, hn⟩, hk⟩ := h
      refine ⟨n.toNat, len, ?_, by omega, Nat.le_refl _, fun _ => rfl, hk⟩
      simp only [Instr.sliceBounds, Option.map_none, Option.map_some, hr.int_inv, Sem.run_bind, Sem.run_pure, Result.andThen_ok, bnd k n len _ h0 (by omega)]
    | some y =>
      obtain ⟨y', rfl, hy⟩ := optOpd_some h2
      have hr2 := hs.ev hy
      simp only [boundsK, evK_eq] at h
      split at h
      case h_2 => exact h.elim
      rename_i k n k2 n2 e e2
      rw [e] at hr
      rw [e2] at hr2
      obtain ⟨⟨h0, hn, hn2⟩, hk⟩ := h
      refine ⟨n.toNat, n2.toNat, ?_, by omega, by omega, (fun e => by cases e), hk⟩
      simp only [Instr.sliceBounds, Option.map_some, hr.int_inv, hr2.int_inv, Sem.run_bind, Sem.run_pure, Result.andThen_ok, bnd k2 n2 cap _ (by omega) (by omega), bnd k n n2.toNat _ h0 (by omega)]

theorem snd_sliceStr {o : Oper} {t : TypeId} {x : Operand} {x' : AOpd} {lo hi : Option Operand} {lo' hi' : Option AOpd} (ho : o.op = .slice t x lo hi none) (hx : compOpd x = some x') (h1 : optOpd lo = some lo') (h2 : optOpd hi = some hi')
    (hu : P.underlying t = some .string) (hs : SA E C τ ρ H a w) (h : opA P (.sliceStr x' lo' hi') ρ H K) : OpRes P ((execOp a.eval o).run P w) (Out E ρ a K) := by
  simp only [opA, evK_eq] at h
  have hr := hs.ev hx
  split at h
  case h_2 => exact h.elim
  rename_i s e
  rw [e] at hr
  obtain ⟨l, r, hb, _, _, _, hk⟩ := run_bounds (P := P) hs h1 h2 (Nat.le_refl s.size) false h
  have : (execOp a.eval o).run P w = .ok (.value (.string (s.extract l r))) w := by
    simp [execOp, ho, hr.str_inv, Instr.sliceAt, Instr.slice, run_und hu, hb]
  rw [this]
  exact out_same hs hk (.rd (.str _))

theorem Rd.subslice {x : Bool} {sz : Nat} {es : List (List AVal)} {ad : Option Addr} {cap l r : Nat} (h : Rel C w τ H (.list x sz es) (.slice ad es.length cap)) (hlr : l ≤ r) (hr : r ≤ es.length) (y : Bool) (hy : y = true → x = true ∧ r = es.length) :
    Rel C w τ H (.list y sz ((es.take r).drop l)) (.slice (if cap = l then ad else ad.map (·.add (l * sz))) (r - l) (cap - l)) := by
  obtain ⟨ad', cap', e, hcap, hx, hd⟩ := h.list_inv
  cases e
  have hlen : ((es.take r).drop l).length = r - l := by simp; omega
  by_cases hz : r - l = 0
  · have : (es.take r).drop l = [] := List.eq_nil_of_length_eq_zero (by omega)
    rw [this, hz]
    refine .rd (.list0 _ _ _ _ fun e => ?_)
    obtain ⟨e1, e2⟩ := hy e
    have := hx e1
    omega
  · rcases hd with rfl | ⟨b, off, rfl, hC, hsz, vs, hcell, hp, hrd⟩
    · simp at hr; omega
    · have hne : ¬ cap = l := by omega
      rw [if_neg hne, ← hlen]
      simp only [Option.map_some, addr_add]
      have get : ∀ i, ((es.take r).drop l)[i]? = if i < r - l then es[l + i]? else none := by
        intro i
        rw [List.getElem?_drop]
        by_cases hi : i < r - l
        · rw [if_pos hi, List.getElem?_take_of_lt (by omega)]
        · rw [if_neg hi, List.getElem?_eq_none (by simp; omega)]
      have mul : l * sz + (r - l) * sz ≤ es.length * sz := by rw [← Nat.add_mul]; exact Nat.mul_le_mul_right _ (by omega)
      refine .rd (.list _ _ _ b (off + l * sz) _ (fun i j => vs (l + i) j) (fun e => ?_) (by omega) (fun e he => ?_) (by rw [hlen]; omega) (fun i j hi hj => ?_) (fun i j e d he hd => ?_) (fun i j e d he hd => ?_))
      · obtain ⟨e1, e2⟩ := hy e
        have := hx e1
        omega
      · exact hsz e (List.mem_of_mem_take (List.mem_of_mem_drop he))
      · rw [hlen] at hi
        have := hcell (l + i) j (by omega) hj
        rw [Nat.add_mul] at this
        rw [show off + l * sz + i * sz + j = off + (l * sz + i * sz) + j from by omega]
        exact this
      · rw [get] at he
        split at he
        · exact hp _ _ _ _ he hd
        · cases he
      · rw [get] at he
        split at he
        · exact hrd _ _ _ _ he hd
        · cases he

theorem snd_slice {o : Oper} {t el : TypeId} {x : Operand} {x' : AOpd} {n : Nat} {lo hi : Option Operand} {lo' hi' : Option AOpd} (ho : o.op = .slice t x lo hi none) (hx : compOpd x = some x') (h1 : optOpd lo = some lo') (h2 : optOpd hi = some hi')
    (hu : P.underlying t = some (.slice el)) (hsz : sizeA P el = some n) (hs : SA E C τ ρ H a w) (h : opA P (.slice n x' lo' hi') ρ H K) : OpRes P ((execOp a.eval o).run P w) (Out E ρ a K) := by
  simp only [opA, evK_eq] at h
  have hr := hs.ev hx
  have run : ∀ ad len cap l r, a.eval x = .slice ad len cap → (Instr.sliceBounds true len cap (lo.map a.eval) (hi.map a.eval) none).run P w = .ok (l, r, cap) w →
      (execOp a.eval o).run P w = .ok (.value (.slice (if cap = l then ad else ad.map (·.add (l * n))) (r - l) (cap - l))) w := by
    intro ad len cap l r e hb
    simp only [execOp, ho, e, Instr.sliceAt, Instr.slice, Option.map_none, Sem.run_bind, run_und hu, Result.andThen_ok, hb, run_size hsz, Sem.run_pure]
  split at h
  case h_4 => exact h.elim
  case h_1 hv =>
    rw [hv] at hr
    obtain ⟨l, r, hb, hlr, hrl, _, hk⟩ := run_bounds (P := P) hs h1 h2 (Nat.le_refl 0) true h
    rw [run none 0 0 l r hr.nil_inv hb]
    have : l = 0 := by omega
    have : r = 0 := by omega
    subst l r
    exact out_same hs hk (.rd .nil)
  case h_2 ex s es hv =>
    rw [hv] at hr
    simp only [chkA_iff, Nat.beq_eq] at h
    obtain ⟨rfl, h⟩ := h
    obtain ⟨ad, cap, e, hcap, _⟩ := hr.list_inv
    rw [e] at hr
    obtain ⟨l, r, hb, hlr, hrl, hn, hk⟩ := run_bounds (P := P) hs h1 h2 hcap true h
    rw [run _ _ _ l r e hb]
    refine out_same hs hk (Rd.subslice hr hlr hrl _ fun e => ?_)
    simp at e
    exact ⟨e.1, hn (by simp [e.2])⟩
  case h_3 id ep off len hv =>
    rw [hv] at hr
    simp only [objK, idxA_iff] at h
    obtain ⟨ob, hob, h⟩ := h
    split at h
    case h_2 => exact h.elim
    rename_i s es
    simp only [chkA_iff, Nat.beq_eq] at h
    obtain ⟨rfl, hep, h⟩ := h
    obtain ⟨ad, cap, hz, g1, hlc, g3⟩ := hr.sl_inv hob hep
    obtain ⟨l, r, hb, hlr, hrl, hn, hk⟩ := run_bounds (P := P) hs h1 h2 hlc true h
    rw [run _ _ _ l r hz hb]
    refine out_same hs hk (.sl _ _ _ _ _ _ _ _ hob (by omega) fun _ => ?_)
    refine ⟨by omega, by omega, ?_⟩
    rcases g3 with ⟨g, rfl⟩ | ⟨lc, g3, g4, g5⟩
    · exact .inl ⟨g, by omega⟩
    · refine .inr ⟨lc, g3, by omega, ?_⟩
      by_cases hcl : cap = l
      · exact .inl (by omega)
      · rcases g5 with g5 | rfl
        · omega
        · refine .inr ?_
          rw [if_neg hcl]
          simp only [Option.map_some, addr_add]
          rw [Nat.add_mul]

theorem snd_slice00 {o : Oper} {t el : TypeId} {x : Operand} {x' : AOpd} {n : Nat} (ho : o.op = .slice t x none (some (.const (.int .i64 0))) (some (.const (.int .i64 0)))) (hx : compOpd x = some x')
    (hu : P.underlying t = some (.slice el)) (hsz : sizeA P el = some n) (hs : SA E C τ ρ H a w) (h : opA P (.slice00 n x') ρ H K) : OpRes P ((execOp a.eval o).run P w) (Out E ρ a K) := by
  simp only [opA, evK_eq] at h
  have hr := hs.ev hx
  have run : ∀ ad len cap, a.eval x = .slice ad len cap → (execOp a.eval o).run P w = .ok (.value (.slice ad 0 0)) w := by
    intro ad len cap e
    have hb : (Instr.sliceBounds true len cap none (some (.int .i64 0)) (some (.int .i64 0))).run P w = .ok (0, 0, 0) w := by
      simp [Instr.sliceBounds, Instr.sliceBound, asIntOf]
    have h0 : ((none : Option Operand).map a.eval) = none := rfl
    have h1 : ((some (Operand.const (.int .i64 0))).map a.eval) = some (.int .i64 0) := rfl
    simp only [execOp, ho, e, h0, h1, Instr.sliceAt, Instr.slice, Sem.run_bind, run_und hu, Result.andThen_ok, hb, run_size hsz, Sem.run_pure, if_true, Nat.sub_self]
  split at h
  case h_4 => exact h.elim
  case h_1 hv =>
    rw [hv] at hr
    rw [run _ _ _ hr.nil_inv]
    exact out_same hs h (.rd .nil)
  case h_2 hv =>
    rw [hv] at hr
    simp only [chkA_iff, Nat.beq_eq] at h
    obtain ⟨rfl, h⟩ := h
    obtain ⟨ad, cap, e, _⟩ := hr.list_inv
    rw [run _ _ _ e]
    exact out_same hs h (.rd (.list0 _ _ _ _ fun _ => rfl))
  case h_3 hv =>
    rw [hv] at hr
    obtain ⟨ad, cap, e⟩ := hr.sl_slice
    rw [run _ _ _ e]
    exact out_same hs h (.rd (.list0 _ _ _ _ fun _ => rfl))
end
end Go.AW
