/-
  The abstract machine's operations are sound. Third part: reading memory.
  No condition: plain laws over any program.
-/
import Derived.Test.YtikifhfpiahnoaaAwSound2
namespace Go.AW

section
variable {E : Env} {P : Program} {C : Nat → Nat} {τ : Nat → Option Loc} {ρ : List AVal} {H : List AObj} {a : Act} {w : World} {K : AVal → List AObj → Prop}

/-- From this place on memory reads as these cells. -/
def ReadsAt (C : Nat → Nat) (w : World) (τ : Nat → Option Loc) (H : List AObj) (b base : Nat) (cs : List AVal) : Prop :=
  ∀ (j : Nat) (d : AVal), cs[j]? = some d → d.isCell = true ∧ ∃ v, w.cell? ⟨b, base + j, none⟩ = some v ∧ Rel C w τ H d v

theorem forceK_mono {l : List AVal} {k : List AVal → Prop} (h : forceK l k) : k l := by rwa [forceK_eq] at h

theorem ReadsAt.values {b base : Nat} {cs : List AVal} (h : ReadsAt C w τ H b base cs) (fld sz : Nat) (hl : fld + sz ≤ cs.length) :
    ∃ vs : List Value, vs.length = sz ∧ (∀ j v, vs[j]? = some v → w.cell? ((⟨b, base + fld, none⟩ : Addr).add j) = some v) ∧
      (∀ (j : Nat) (c : AVal) (v : Value), ((cs.drop fld).take sz)[j]? = some c → vs[j]? = some v → Rel C w τ H c v ∧ c.isCell = true) := by
  refine ⟨(List.range sz).map fun j => (w.cell? ⟨b, base + (fld + j), none⟩).getD undef, by simp, fun j v hv => ?_, fun j c v hc hv => ?_⟩
  · rw [List.getElem?_map] at hv
    by_cases hj : j < sz
    · rw [List.getElem?_range hj] at hv
      simp only [Option.map_some, Option.some.injEq] at hv
      have hc : cs[fld + j]? = some cs[fld + j] := List.getElem?_eq_getElem (by omega)
      obtain ⟨_, u, hu, _⟩ := h _ _ hc
      rw [hu] at hv
      simp at hv
      rw [addr_add, show base + fld + j = base + (fld + j) from by omega, hu, hv]
    · rw [List.getElem?_eq_none (by simp; omega)] at hv; cases hv
  · rw [List.getElem?_map] at hv
    by_cases hj : j < sz
    · rw [List.getElem?_range hj] at hv
      simp only [Option.map_some, Option.some.injEq] at hv
      rw [List.getElem?_take_of_lt hj, List.getElem?_drop] at hc
      obtain ⟨h1, u, hu, h2⟩ := h _ _ hc
      rw [hu] at hv
      simp at hv
      subst hv
      exact ⟨h2, h1⟩
    · rw [List.getElem?_eq_none (by simp; omega)] at hv; cases hv

/-- A variable is loaded. -/
theorem ReadsAt.load {b base : Nat} {cs : List AVal} (h : ReadsAt C w τ H b base cs) {t : TypeId} {ag : Bool} {sz fld : Nat} (ht : tagOf P t = some ag) (hsz : sizeA P t = some sz)
    (hl : fld + sz ≤ cs.length) (hag : ag = true ∨ sz = 1) :
    ∃ u, (loadVar t ⟨b, base + fld, none⟩).run P w = .ok u w ∧ Rel C w τ H (mkVal ag ((cs.drop fld).take sz)) u := by
  obtain ⟨vs, hv1, hv2, hv3⟩ := h.values fld sz hl
  cases ag with
  | true =>
    refine ⟨.agg vs.toArray, ?_, ?_⟩
    · have := run_loadCells_list (P := P) w ⟨b, base + fld, none⟩ vs hv2
      rw [hv1] at this
      simp only [loadVar, Sem.run_bind, run_isAgg ht, Result.andThen_ok, if_true, run_size hsz, this, Sem.run_pure]
    · refine .agg _ _ (by simp [hv1]; omega) fun j c v hc hv => ?_
      exact (hv3 j c v hc (by simpa using hv)).1
  | false =>
    have hs1 : sz = 1 := by simpa using hag
    subst hs1
    have hc : cs[fld]? = some cs[fld] := List.getElem?_eq_getElem (by omega)
    obtain ⟨_, u, hu, hr⟩ := h _ _ hc
    refine ⟨u, ?_, ?_⟩
    · simp only [loadVar, Sem.run_bind, run_isAgg ht, Result.andThen_ok, Bool.false_eq_true, if_false, run_load, hu]
    · have : (cs.drop fld).take 1 = [cs[fld]] := by
        rw [List.drop_eq_getElem_cons (by omega)]; rfl
      rw [this]
      exact hr

/-- An object's element. -/
theorem WF.reads (h : WF C τ H w) {id idx : Nat} {esz : Nat} {es : List (List AVal)} {e : List AVal} {l : Loc} (ho : H[id]? = some (.arr esz es)) (hl : τ id = some l) (he : es[idx]? = some e) :
    ReadsAt C w τ H l.b (idx * esz) e := by
  intro j d hd
  obtain ⟨_, cells, elem, fz, h1, h2, h3, h4⟩ := h.objs id _ l ho hl
  obtain ⟨v, hv, hr⟩ := h4 idx j e d he hd
  have hok := (h.ok id _ ho e (List.mem_of_getElem? he)).2 d (List.mem_of_getElem? hd)
  exact ⟨hok, v, by simp [World.cell?, h1, hv], hr⟩

theorem Rel.cptr_inv {cs : List AVal} {fld : Nat} {u : Value} (h : Rel C w τ H (.cptr cs fld) u) :
    ∃ b off, u = .pointer (some ⟨b, off + fld, none⟩) ∧ ReadsAt C w τ H b off cs := by
  cases h with
  | rd h =>
    cases h with
    | cptr _ _ b off vs hC hcell hp hrd =>
      refine ⟨b, off, rfl, fun j d hd => ⟨hp j d hd, vs j, hcell j (List.getElem?_eq_some_iff.1 hd).1, .rd (hrd j d hd)⟩⟩

theorem Rel.ptr_inv {id ep idx fld : Nat} {esz : Nat} {es : List (List AVal)} {u : Value} (h : Rel C w τ H (.ptr id ep idx fld) u) (ho : H[id]? = some (.arr esz es)) (hep : ep = es.length) :
    ∃ l, τ id = some l ∧ u = .pointer (some ⟨l.b, idx * esz + fld, none⟩) := by
  cases h with
  | rd h => cases h
  | ptr _ _ _ _ ad esz' es' ho' hep' h =>
    rw [ho] at ho'; cases ho'
    obtain ⟨l, h1, h2⟩ := h hep
    exact ⟨l, h1, by rw [h2]⟩

theorem Rel.sl_inv {id ep off len : Nat} {esz : Nat} {es : List (List AVal)} {u : Value} (h : Rel C w τ H (.sl id ep off len) u) (ho : H[id]? = some (.arr esz es)) (hep : ep = es.length) :
    ∃ ad cap, u = .slice ad len cap ∧ off + len ≤ es.length ∧ len ≤ cap ∧
      ((τ id = none ∧ cap = 0) ∨ ∃ l, τ id = some l ∧ off + cap ≤ l.cap ∧ (cap = 0 ∨ ad = some ⟨l.b, off * esz, none⟩)) := by
  cases h with
  | rd h => cases h
  | sl _ _ _ _ ad cap esz' es' ho' hep' h =>
    rw [ho] at ho'; cases ho'
    obtain ⟨h1, h2, h3⟩ := h hep
    exact ⟨ad, cap, rfl, h1, h2, h3⟩

theorem Rel.sl_slice {id ep off len : Nat} {u : Value} (h : Rel C w τ H (.sl id ep off len) u) : ∃ ad cap, u = .slice ad len cap := by
  cases h with
  | rd h => cases h
  | sl _ _ _ _ ad cap esz' es' ho' hep' h => exact ⟨ad, cap, rfl⟩

theorem Rel.list_inv {x : Bool} {sz : Nat} {es : List (List AVal)} {u : Value} (h : Rel C w τ H (.list x sz es) u) :
    ∃ ad cap, u = .slice ad es.length cap ∧ es.length ≤ cap ∧ (x = true → cap = es.length) ∧ (es = [] ∨ ∃ b off, ad = some ⟨b, off, none⟩ ∧
      off + es.length * sz ≤ C b ∧ (∀ e ∈ es, e.length = sz) ∧ ∃ vs : Nat → Nat → Value,
        (∀ i j, i < es.length → j < sz → w.cell? ⟨b, off + i * sz + j, none⟩ = some (vs i j)) ∧
        (∀ (i j : Nat) (e : List AVal) (d : AVal), es[i]? = some e → e[j]? = some d → d.isCell = true) ∧
        (∀ (i j : Nat) (e : List AVal) (d : AVal), es[i]? = some e → e[j]? = some d → Rd C w d (vs i j))) := by
  cases h with
  | rd h =>
    cases h with
    | list0 _ _ ad cap hx => exact ⟨ad, cap, rfl, Nat.zero_le _, hx, .inl rfl⟩
    | list _ _ _ b off cap vs hx hcap hsz hC hcell hp hrd =>
      exact ⟨_, _, rfl, hcap, hx, .inr ⟨b, off, rfl, hC, hsz, vs, hcell, hp, hrd⟩⟩

/-- The element of a list as a place in memory. -/
theorem Rel.list_elem {x : Bool} {sz : Nat} {es : List (List AVal)} {ad : Option Addr} {n cap : Nat} (h : Rel C w τ H (.list x sz es) (.slice ad n cap)) {i : Nat} {e : List AVal} (he : es[i]? = some e) :
    ∃ b off, ad = some ⟨b, off, none⟩ ∧ Rd C w (.cptr e 0) (.pointer (some ⟨b, off + i * sz, none⟩)) := by
  have hi := (List.getElem?_eq_some_iff.1 he).1
  obtain ⟨ad', cap', e1, hcap, hx, hr⟩ := h.list_inv
  cases e1
  rcases hr with rfl | ⟨b, off, rfl, hC, hsz, vs, hcell, hp, hrd⟩
  · simp at hi
  · refine ⟨b, off, rfl, ?_⟩
    have hel := hsz e (List.mem_of_getElem? he)
    have := Rd.cptr (C := C) (w := w) e 0 b (off + i * sz) (vs i) ?_ (fun j hj => ?_) (fun j d hd => hp i j e d he hd) (fun j d hd => hrd i j e d he hd)
    · exact this
    · have h1 : (i + 1) * sz ≤ es.length * sz := Nat.mul_le_mul_right _ hi
      rw [Nat.add_mul] at h1
      omega
    · exact hcell i j hi (by omega)

theorem snd_load {o : Oper} {t : TypeId} {x : Operand} {x' : AOpd} {ag : Bool} {sz : Nat} (ho : o.op = .load t x) (hx : compOpd x = some x') (ht : tagOf P t = some ag) (hsz : sizeA P t = some sz)
    (hs : SA E C τ ρ H a w) (h : opA P (.load ag sz x') ρ H K) : OpRes P ((execOp a.eval o).run P w) (Out E ρ a K) := by
  simp only [opA, evK_eq] at h
  have hr := hs.ev hx
  split at h
  case h_3 => exact h.elim
  case h_1 id ep idx fld hv =>
    rw [hv] at hr
    simp only [objK, idxA_iff] at h
    obtain ⟨ob, hob, h⟩ := h
    split at h
    case h_2 => exact h.elim
    rename_i esz es
    simp only [elemA_iff, chkA_iff, Bool.and_eq_true, Bool.or_eq_true, decide_eq_true_eq] at h
    obtain ⟨hep, e, he, ⟨hl, hag⟩, hk⟩ := h
    have hk := forceK_mono hk
    obtain ⟨l, hl1, hu⟩ := hr.ptr_inv hob hep
    obtain ⟨u, h1, h2⟩ := (hs.st.wf.reads hob hl1 he).load ht hsz hl hag
    simp only [execOp, ho, hu, Instr.loadAt, Instr.sureAddr, Sem.run_bind, Sem.run_pure, Result.andThen_ok, h1, OpRes]
    exact out_same hs hk h2
  case h_2 e fld hv =>
    rw [hv] at hr
    simp only [chkA_iff, Bool.and_eq_true, Bool.or_eq_true, decide_eq_true_eq] at h
    obtain ⟨⟨hl, hag⟩, hk⟩ := h
    have hk := forceK_mono hk
    obtain ⟨b, off, hu, hrd⟩ := hr.cptr_inv
    obtain ⟨u, h1, h2⟩ := hrd.load ht hsz hl hag
    simp only [execOp, ho, hu, Instr.loadAt, Instr.sureAddr, Sem.run_bind, Sem.run_pure, Result.andThen_ok, h1, OpRes]
    exact out_same hs hk h2

theorem snd_fieldAddr {o : Oper} {s : TypeId} {x : Operand} {x' : AOpd} {f : Nat} {fs : Array Field} {fd : Field} {n : Nat} (ho : o.op = .fieldAddr s x f) (hx : compOpd x = some x') (hu : P.underlying s = some (.struct fs))
    (hf : fs[f]? = some fd) (hsz : sizeA P fd.type = some n) (hn : n ≠ 0) (hs : SA E C τ ρ H a w) (h : opA P (.fieldAddr fd.offset x') ρ H K) : OpRes P ((execOp a.eval o).run P w) (Out E ρ a K) := by
  simp only [opA, evK_eq] at h
  have hr := hs.ev hx
  have run : ∀ b off, a.eval x = .pointer (some ⟨b, off, none⟩) → (execOp a.eval o).run P w = .ok (.value (.pointer (some ⟨b, off + fd.offset, none⟩))) w := by
    intro b off e
    simp only [execOp, ho, e, Instr.fieldAt, Instr.sureAddr, Sem.run_bind, run_und hu, Result.andThen_ok, hf, fieldPlace, run_size hsz, if_neg hn, Sem.run_ite, Sem.run_pure, addr_add]
  split at h
  case h_3 => exact h.elim
  case h_1 id ep idx fld hv =>
    rw [hv] at hr
    generalize hz : a.eval x = z at hr
    cases hr with
    | rd hr => cases hr
    | ptr _ _ _ _ ad esz es h1 h2 h3 =>
      obtain ⟨b, off, spot⟩ := ad
      by_cases hep : ep = es.length
      · obtain ⟨l, h4, h5⟩ := h3 hep
        cases h5
        rw [run _ _ hz]
        refine out_same hs h (.ptr _ _ _ _ _ _ _ h1 h2 fun _ => ⟨l, h4, ?_⟩)
        rw [Nat.add_assoc]
      · have : ∃ ad', (execOp a.eval o).run P w = .ok (.value (.pointer (some ad'))) w := by
          refine ⟨(⟨b, off, spot⟩ : Addr).add fd.offset, ?_⟩
          simp only [execOp, ho, hz, Instr.fieldAt, Instr.sureAddr, Sem.run_bind, run_und hu, Result.andThen_ok, hf, fieldPlace, run_size hsz, if_neg hn, Sem.run_ite, Sem.run_pure]
        obtain ⟨ad', e⟩ := this
        rw [e]
        exact out_same hs h (.ptr _ _ _ _ _ _ _ h1 h2 fun e => absurd e hep)
  case h_2 e fld hv =>
    rw [hv] at hr
    generalize hz : a.eval x = z at hr
    cases hr with
    | rd hr =>
      cases hr with
      | cptr _ _ b off vs hC hcell hp hrd =>
        rw [run _ _ hz]
        refine out_same hs h (.rd ?_)
        rw [Nat.add_assoc]
        exact .cptr _ _ b off vs hC hcell hp hrd

theorem snd_field {o : Oper} {s : TypeId} {x : Operand} {x' : AOpd} {f : Nat} {fs : Array Field} {fd : Field} {ag : Bool} {n : Nat} (ho : o.op = .field s x f) (hx : compOpd x = some x') (hu : P.underlying s = some (.struct fs))
    (hf : fs[f]? = some fd) (hsz : sizeA P fd.type = some n) (ht : tagOf P fd.type = some ag) (hs : SA E C τ ρ H a w) (h : opA P (.field ag fd.offset n x') ρ H K) : OpRes P ((execOp a.eval o).run P w) (Out E ρ a K) := by
  simp only [opA, evK_eq] at h
  have hr := hs.ev hx
  split at h
  case h_2 => exact h.elim
  rename_i cs hv
  rw [hv] at hr
  obtain ⟨vs, e, hl, hrel⟩ := hr.agg_inv
  simp only [chkA_iff, Bool.and_eq_true, Bool.or_eq_true, decide_eq_true_eq] at h
  obtain ⟨⟨h1, h2⟩, hk⟩ := h
  have hk := forceK_mono hk
  cases ag with
  | true =>
    simp only [execOp, ho, e, Instr.field, Sem.run_bind, run_und hu, Result.andThen_ok, hf, asAgg, part, Sem.run_pure, run_isAgg ht, if_true, run_size hsz, OpRes]
    refine out_same hs hk (.agg _ _ (by simp; omega) fun i c v hc hv => ?_)
    by_cases hi : i < n
    · rw [List.getElem?_take_of_lt hi, List.getElem?_drop] at hc
      rw [Array.getElem?_extract] at hv
      have : fd.offset + i < vs.size := by omega
      rw [if_pos (by omega)] at hv
      exact hrel _ _ _ hc hv
    · rw [List.getElem?_eq_none (by simp; omega)] at hc; cases hc
  | false =>
    have hn : n = 1 := by simpa using h2
    subst hn
    have hc : cs[fd.offset]? = some cs[fd.offset] := List.getElem?_eq_getElem (by omega)
    have hv' : vs[fd.offset]? = some vs[fd.offset] := Array.getElem?_eq_getElem (by omega)
    simp only [execOp, ho, e, Instr.field, Sem.run_bind, run_und hu, Result.andThen_ok, hf, asAgg, part, Sem.run_pure, run_isAgg ht, Bool.false_eq_true, if_false, hv', OpRes]
    have : (cs.drop fd.offset).take 1 = [cs[fd.offset]] := by
      rw [List.drop_eq_getElem_cons (by omega)]; rfl
    rw [this] at hk
    exact out_same hs hk (hrel _ _ _ hc hv')

theorem elem_und {t e : TypeId} (h : elemA? P t = some e) : P.underlying t = some (.slice e) := by
  unfold elemA? at h
  split at h
  · cases h; assumption
  · cases h

theorem snd_indexAddr {o : Oper} {t e : TypeId} {x i : Operand} {x' i' : AOpd} {n : Nat} (ho : o.op = .indexAddr t x i) (hx : compOpd x = some x') (hi : compOpd i = some i') (he : elemA? P t = some e)
    (hsz : sizeA P e = some n) (hs : SA E C τ ρ H a w) (h : opA P (.indexAddr n x' i') ρ H K) : OpRes P ((execOp a.eval o).run P w) (Out E ρ a K) := by
  simp only [opA, evK_eq] at h
  have hrx := hs.ev hx
  have hri := hs.ev hi
  have hu := elem_und he
  split at h
  case h_2 => exact h.elim
  rename_i k m hm
  rw [hm] at hri
  have em := hri.int_inv
  have run : ∀ b off len cap, a.eval x = .slice (some ⟨b, off, none⟩) len cap → 0 ≤ m → m < len → (execOp a.eval o).run P w = .ok (.value (.pointer (some ⟨b, off + m.toNat * n, none⟩))) w := by
    intro b off len cap e1 h0 h1
    simp only [execOp, ho, e1, em, Instr.indexAt, asIntOf, Sem.run_bind, run_und hu, Result.andThen_ok, Sem.run_pure, Bool.and_false, if_pos (And.intro h0 h1), run_size hsz, addr_add]
  split at h
  case h_3 => exact h.elim
  case h_1 ex s es hv =>
    rw [hv] at hrx
    simp only [chkA_iff, Nat.beq_eq, idxA_iff] at h
    obtain ⟨rfl, h0, el, hel, hk⟩ := h
    obtain ⟨ad, cap, e1, _⟩ := hrx.list_inv
    rw [e1] at hrx
    obtain ⟨b, off, rfl, hrd⟩ := hrx.list_elem hel
    have hlt := (List.getElem?_eq_some_iff.1 hel).1
    rw [run _ _ _ _ e1 h0 (by omega)]
    exact out_same hs hk (.rd hrd)
  case h_2 id ep off len hv =>
    rw [hv] at hrx
    simp only [objK, idxA_iff] at h
    obtain ⟨ob, hob, h⟩ := h
    split at h
    case h_2 => exact h.elim
    rename_i s es
    simp only [chkA_iff, Nat.beq_eq] at h
    obtain ⟨rfl, hep, ⟨h0, h1⟩, hk⟩ := h
    obtain ⟨ad, cap, e1, h2, h3, h4⟩ := hrx.sl_inv hob hep
    rcases h4 with ⟨_, hc⟩ | ⟨l, hl, hl2, hl3⟩
    · omega
    · rcases hl3 with hc | rfl
      · omega
      · rw [run _ _ _ _ e1 h0 h1]
        refine out_same hs hk (.ptr _ _ _ _ _ _ _ hob (by omega) fun _ => ⟨l, hl, ?_⟩)
        rw [Nat.add_mul]; rfl

theorem snd_indexStr {o : Oper} {t : TypeId} {x i : Operand} {x' i' : AOpd} (ho : o.op = .index t x i) (hx : compOpd x = some x') (hi : compOpd i = some i') (hu : P.underlying t = some .string)
    (hs : SA E C τ ρ H a w) (h : opA P (.indexStr x' i') ρ H K) : OpRes P ((execOp a.eval o).run P w) (Out E ρ a K) := by
  simp only [opA, evK_eq] at h
  have hrx := hs.ev hx
  have hri := hs.ev hi
  split at h
  case h_2 => exact h.elim
  rename_i s k m e1 e2
  rw [e1] at hrx
  rw [e2] at hri
  simp only [idxA_iff] at h
  obtain ⟨h0, b, hb, hk⟩ := h
  have hb' : s[m.toNat]? = some b := by
    have hlt := (List.getElem?_eq_some_iff.1 hb).1
    have hsz : m.toNat < s.size := by simpa using hlt
    rw [getElem?_pos s m.toNat hsz]
    rw [List.getElem?_eq_getElem hlt] at hb
    simp only [Array.getElem_toList, Option.some.injEq] at hb
    exact congrArg some hb
  simp only [execOp, ho, hrx.str_inv, hri.int_inv, Instr.index, asIntOf, Sem.run_bind, run_und hu, Result.andThen_ok, Sem.run_pure, if_pos h0, hb', OpRes]
  exact out_same hs hk (.rd (.int _ _))

theorem snd_lenS {o : Oper} {t : TypeId} {x : Operand} {x' : AOpd} (hop : o.op = .call { callee := .builtin .len, args := #[x], argTypes := #[t] }) (hx : compOpd x = some x')
    (hu : P.underlying t = some .string) (hs : SA E C τ ρ H a w) (h : opA P (.lenS x') ρ H K) : OpRes P ((execOp a.eval o).run P w) (Out E ρ a K) := by
  simp only [opA, evK_eq] at h
  have hr := hs.ev hx
  split at h
  case h_2 => exact h.elim
  rename_i s hv
  rw [hv] at hr
  have : (execOp a.eval o).run P w = .ok (.value (.int .i64 s.size)) w := by
    simp [execOp, hop, resolve, invoke, builtin, Builtin.len_, hr.str_inv, run_und hu, goInt]
  rw [this]
  exact out_same hs h (.rd (.int _ _))

theorem snd_len {o : Oper} {t el : TypeId} {x : Operand} {x' : AOpd} (hop : o.op = .call { callee := .builtin .len, args := #[x], argTypes := #[t] }) (hx : compOpd x = some x')
    (hu : P.underlying t = some (.slice el)) (hs : SA E C τ ρ H a w) (h : opA P (.len x') ρ H K) : OpRes P ((execOp a.eval o).run P w) (Out E ρ a K) := by
  simp only [opA, evK_eq] at h
  have hr := hs.ev hx
  have run2 : ∀ ad n cap, a.eval x = .slice ad n cap → (execOp a.eval o).run P w = .ok (.value (.int .i64 n)) w := by
    intro ad n cap e
    simp [execOp, hop, resolve, invoke, builtin, Builtin.len_, e, run_und hu, goInt]
  split at h
  case h_1 hv =>
    rw [hv] at hr
    rw [run2 _ _ _ hr.nil_inv]
    exact out_same hs h (.rd (.int _ _))
  case h_2 hv =>
    rw [hv] at hr
    obtain ⟨ad, cap, e, _⟩ := hr.list_inv
    rw [run2 _ _ _ e]
    exact out_same hs h (.rd (.int _ _))
  case h_3 hv =>
    rw [hv] at hr
    simp only [objK, idxA_iff] at h
    obtain ⟨ob, hob, h⟩ := h
    split at h
    case h_2 => exact h.elim
    simp only [chkA_iff] at h
    obtain ⟨ad, cap, e⟩ := hr.sl_slice
    rw [run2 _ _ _ e]
    exact out_same hs h.2 (.rd (.int _ _))
  case h_4 => exact h.elim
end
end Go.AW
