/-
  The abstract machine's operations are sound. Eighth part: literals of structs and slices, bytes of a string, equality of structs, iterators.
  No condition: plain laws over any program.
-/
import Derived.Test.YtikifhfpiahnoaaAwSound7
namespace Go.AW

section
variable {E : Env} {P : Program} {C : Nat → Nat} {τ : Nat → Option Loc} {ρ : List AVal} {H : List AObj} {a : Act} {w : World} {K : AVal → List AObj → Prop}

/-- Cells laid over a row, as the model's literals do it. -/
theorem foldl_set (cs : List Value) : ∀ (off k : Nat) (base : Array Value), off + k + cs.length ≤ base.size →
    ∀ m, ((cs.zipIdx k).foldl (fun (b : Array Value) (p : Value × Nat) => b.setIfInBounds (off + p.2) p.1) base)[m]? = if off + k ≤ m ∧ m < off + k + cs.length then cs[m - (off + k)]? else base[m]? := by
  induction cs with
  | nil => intro off k base _ m; rw [if_neg (by simp only [List.length_nil]; omega)]; rfl
  | cons c cs ih =>
    intro off k base h m
    simp only [List.length_cons] at h
    rw [List.zipIdx_cons, List.foldl_cons, ih off (k + 1) _ (by simp; omega)]
    simp only [List.length_cons]
    by_cases h1 : off + (k + 1) ≤ m ∧ m < off + (k + 1) + cs.length
    · rw [if_pos h1, if_pos (by omega)]
      obtain ⟨n, hn⟩ : ∃ n, m - (off + k) = n + 1 := ⟨m - (off + k) - 1, by omega⟩
      rw [hn, show m - (off + (k + 1)) = n from by omega]; rfl
    · rw [if_neg h1]
      by_cases h2 : m = off + k
      · subst h2
        rw [if_pos (by omega), Array.getElem?_setIfInBounds_self_of_lt (by omega)]; simp
      · rw [Array.getElem?_setIfInBounds_ne (by omega), if_neg (by omega)]

theorem foldl_size (cs : List Value) : ∀ (off k : Nat) (base : Array Value), ((cs.zipIdx k).foldl (fun (b : Array Value) (p : Value × Nat) => b.setIfInBounds (off + p.2) p.1) base).size = base.size := by
  induction cs with
  | nil => intro off k base; rfl
  | cons c cs ih => intro off k base; rw [List.zipIdx_cons, List.foldl_cons, ih]; simp

theorem arr_foldl (cells base : Array Value) (off : Nat) : cells.zipIdx.foldl (fun cs (c, j) => cs.setIfInBounds (off + j) c) base =
    (cells.toList.zipIdx 0).foldl (fun (b : Array Value) (p : Value × Nat) => b.setIfInBounds (off + p.2) p.1) base := by
  rw [← Array.foldl_toList, Array.toList_zipIdx]

theorem run_places : ∀ (fs : List Field) (l : List (Nat × Nat)), places P fs = some l → (fs.mapM fun f => (do pure (f.offset, ← sizeOf f.type) : Sem (Nat × Nat))).run P w = .ok l w
  | [], l, h => by simp only [places, Option.some.injEq] at h; subst h; simp
  | f :: r, l, h => by
    unfold places at h
    split at h
    · rename_i n l' h1 h2
      cases h
      have ih := run_places r l' h2
      simp only [List.mapM_cons, Sem.run_bind, run_size h1, Result.andThen_ok, Sem.run_pure, ih]
    · cases h

theorem places_get : ∀ (fs : List Field) (l : List (Nat × Nat)) (i : Nat) (f : Field), places P fs = some l → fs[i]? = some f → ∃ n, sizeA P f.type = some n ∧ l[i]? = some (f.offset, n)
  | [], l, i, f, h, hf => by simp at hf
  | g :: r, l, i, f, h, hf => by
    unfold places at h
    split at h
    · rename_i n l' h1 h2
      cases h
      cases i with
      | zero => simp at hf; subst hf; exact ⟨n, h1, rfl⟩
      | succ i => simp at hf; obtain ⟨m, h3, h4⟩ := places_get r l' i f h2 hf; exact ⟨m, h3, by simpa using h4⟩
    · cases h

/-- A literal's parts. -/
theorem fill_ok (hs : SA E C τ ρ H a w) {fs : Array Field} {l : List (Nat × Nat)} (hp : places P fs.toList = some l) : ∀ (ps : List (Nat × Operand)) (qs : List (Nat × Nat × AOpd)) (cs : List AVal) (cells : Array Value) (Kf : List AVal → Prop),
    compParts P fs ps = some qs → cs.length = cells.size → (∀ (i : Nat) (c : AVal) (v : Value), cs[i]? = some c → cells[i]? = some v → Rel C w τ H c v) → fillK ρ qs cs Kf →
    ∃ cs' cells', Instr.fill (l[·]?) cells (ps.map fun p => (p.1, a.eval p.2)) = some cells' ∧ cs'.length = cells'.size ∧ (∀ (i : Nat) (c : AVal) (v : Value), cs'[i]? = some c → cells'[i]? = some v → Rel C w τ H c v) ∧ Kf cs'
  | [], qs, cs, cells, Kf, hc, hl, hr, h => by
    simp only [compParts, Option.some.injEq] at hc; subst hc
    exact ⟨cs, cells, rfl, hl, hr, h⟩
  | (i, x) :: ps, qs, cs, cells, Kf, hc, hl, hr, h => by
    simp only [compParts, Option.bind_eq_bind, Option.bind_eq_some_iff, Option.pure_def, Option.some.injEq] at hc
    obtain ⟨f, hf, s, hsz, y, hy, qs', hq, rfl⟩ := hc
    simp only [fillK_cons, evK_eq] at h
    have hrx := hs.ev hy
    split at h
    case h_2 => exact h.elim
    rename_i u hu
    simp only [chkA_iff, Bool.and_eq_true, decide_eq_true_eq] at h
    obtain ⟨⟨hus, hfit⟩, h⟩ := h
    obtain ⟨c1, c2⟩ := hrx.cells hu
    obtain ⟨n, hn, hli⟩ := places_get fs.toList l i f hp (by simpa using hf)
    rw [hsz] at hn; cases hn
    have hfold := arr_foldl (a.eval x).cells cells f.offset
    obtain ⟨cs', cells', e1, e2, e3, e4⟩ := fill_ok hs hp ps qs' (putCells cs f.offset u) ((a.eval x).cells.zipIdx.foldl (fun cs (c, j) => cs.setIfInBounds (f.offset + j) c) cells) Kf hq (by rw [length_putCells, hfold, foldl_size]; exact hl) (fun m c v hm hv => by
      rw [putCells_getElem? u cs f.offset (by omega)] at hm
      rw [hfold, foldl_set _ _ _ _ (by simp; omega)] at hv
      simp only [Array.length_toList, Nat.add_zero] at hv
      by_cases hin : f.offset ≤ m ∧ m < f.offset + u.length
      · rw [if_pos hin] at hm
        rw [if_pos (by omega)] at hv
        rw [Array.getElem?_toList] at hv
        exact c2 _ c v hm hv
      · rw [if_neg hin] at hm
        rw [if_neg (by omega)] at hv
        exact hr m c v hm hv) h
    refine ⟨cs', cells', ?_, e2, e3, e4⟩
    have hcond : (decide ((a.eval x).cells.size ≠ s) || decide (f.offset + (a.eval x).cells.size > cells.size)) = false := by
      simp only [Bool.or_eq_false_iff, decide_eq_false_iff_not]; omega
    simp only [List.map_cons, Instr.fill, hli, hcond, Bool.false_eq_true, if_false, e1]

theorem snd_build {o : Oper} {t : TypeId} {parts : Array (Nat × Operand)} {fs : Array Field} {zero : List AVal} {qs : List (Nat × Nat × AOpd)} (ho : o.op = .build t parts) (hu : P.underlying t = some (.struct fs)) (hz : zeroA P t = some zero)
    (hpl : (places P fs.toList).isSome = true) (hq : compParts P fs parts.toList = some qs) (hs : SA E C τ ρ H a w) (h : opA P (.build zero qs) ρ H K) : OpRes P ((execOp a.eval o).run P w) (Out E ρ a K) := by
  simp only [opA] at h
  obtain ⟨i, z, hi, hz1, hzs, hzi, hzr⟩ := zero_rel (C := C) (w := w) (τ := τ) (H := H) hz
  obtain ⟨l, hl⟩ := Option.isSome_iff_exists.1 hpl
  obtain ⟨cs', cells', e1, e2, e3, hk⟩ := fill_ok hs hl parts.toList qs zero z.cells _ hq hzs hzr h
  have hk := forceK_mono hk
  have hpr := run_places (P := P) (w := w) fs.toList l hl
  have hmap : (fs.mapM fun f => (do pure (f.offset, ← sizeOf f.type) : Sem (Nat × Nat))).run P w = .ok l.toArray w := by
    rw [Array.mapM_eq_mapM_toList, Sem.run_map, hpr]; rfl
  have hfill : Instr.fill (l.toArray[·]?) z.cells ((parts.map fun (i, x) => (i, a.eval x)).toList) = some cells' := by
    rw [Array.toList_map]
    have : (fun i : Nat => l.toArray[i]?) = (fun i : Nat => l[i]?) := by funext i; simp
    rw [this]
    exact e1
  have run : (execOp a.eval o).run P w = .ok (.value (.agg cells')) w := by
    simp only [execOp, ho, Instr.build, Sem.run_bind, zeroValue, run_info hi, Result.andThen_ok, hz1, Sem.run_pure, run_und hu, hmap, hfill]
  rw [run]
  exact out_same hs hk (.agg _ _ e2 e3)
/-- A row literal's parts. -/
theorem fillS_ok (hs : SA E C τ ρ H a w) {sz : Nat} : ∀ (ps : List (Nat × Operand)) (qs : List (Nat × AOpd)) (es : List (List AVal)) (cells : Array Value) (Kf : List (List AVal) → Prop),
    compRow ps = some qs → cells.size = es.length * sz → (∀ e ∈ es, e.length = sz) → (∀ (i j : Nat) (e : List AVal) (d : AVal), es[i]? = some e → e[j]? = some d → ∃ v, cells[i * sz + j]? = some v ∧ Rel C w τ H d v) → fillSK ρ sz qs es Kf →
    ∃ es' cells', Instr.fill (fun i => some (i * sz, sz)) cells (ps.map fun p => (p.1, a.eval p.2)) = some cells' ∧ es'.length = es.length ∧ cells'.size = es'.length * sz ∧ (∀ e ∈ es', e.length = sz) ∧
      (∀ (i j : Nat) (e : List AVal) (d : AVal), es'[i]? = some e → e[j]? = some d → ∃ v, cells'[i * sz + j]? = some v ∧ Rel C w τ H d v) ∧ Kf es'
  | [], qs, es, cells, Kf, hc, hl, he, hr, h => by
    simp only [compRow, Option.some.injEq] at hc; subst hc
    exact ⟨es, cells, rfl, rfl, hl, he, hr, h⟩
  | (n, x) :: ps, qs, es, cells, Kf, hc, hl, he, hr, h => by
    simp only [compRow, Option.bind_eq_bind, Option.bind_eq_some_iff, Option.pure_def, Option.some.injEq] at hc
    obtain ⟨y, hy, qs', hq, rfl⟩ := hc
    simp only [fillSK_cons, evK_eq] at h
    have hrx := hs.ev hy
    split at h
    case h_2 => exact h.elim
    rename_i u hu
    simp only [chkA_iff, Bool.and_eq_true, decide_eq_true_eq, setEK_eq] at h
    obtain ⟨⟨hus, hfit⟩, h⟩ := h
    have h := forceK_mono h
    obtain ⟨c1, c2⟩ := hrx.cells hu
    have hfold := arr_foldl (a.eval x).cells cells (n * sz)
    have hbound : n * sz + (a.eval x).cells.size ≤ cells.size := by
      rw [hl, ← c1, hus]
      have := Nat.mul_le_mul_right sz (show n + 1 ≤ es.length by omega)
      rw [Nat.add_mul] at this; omega
    obtain ⟨es', cells', e1, e2, e3, e4, e5, e6⟩ := fillS_ok hs ps qs' (es.set n u) ((a.eval x).cells.zipIdx.foldl (fun cs (c, j) => cs.setIfInBounds (n * sz + j) c) cells) Kf hq
      (by rw [hfold, foldl_size, List.length_set]; exact hl) (fun e hm => by
        rcases List.mem_or_eq_of_mem_set hm with hm | rfl
        · exact he e hm
        · exact hus) (fun i j e d hi hd => by
        rw [hfold, foldl_set _ _ _ _ (by simp; omega)]
        simp only [Array.length_toList, Nat.add_zero]
        have hj := (List.getElem?_eq_some_iff.1 hd).1
        by_cases hin : n = i
        · subst hin
          rw [List.getElem?_set_self hfit] at hi
          cases hi
          rw [if_pos (by omega), Nat.add_sub_cancel_left, Array.getElem?_toList, Array.getElem?_eq_getElem (by omega)]
          exact ⟨_, rfl, c2 j d _ hd (Array.getElem?_eq_getElem (by omega))⟩
        · rw [List.getElem?_set_ne hin] at hi
          obtain ⟨v, hv, hrv⟩ := hr i j e d hi hd
          refine ⟨v, ?_, hrv⟩
          rw [if_neg]
          · exact hv
          · intro hc
            have := he e (List.mem_of_getElem? hi)
            have := rows_inj (i := i) (j := j) (i' := n) (j' := i * sz + j - n * sz) (s := sz) (by omega) (by omega) (by omega)
            exact hin this.1.symm) h
    refine ⟨es', cells', ?_, by rw [e2, List.length_set], e3, e4, e5, e6⟩
    have hcond : (decide ((a.eval x).cells.size ≠ sz) || decide (n * sz + (a.eval x).cells.size > cells.size)) = false := by
      simp only [Bool.or_eq_false_iff, decide_eq_false_iff_not]; omega
    simp only [List.map_cons, Instr.fill, hcond, Bool.false_eq_true, if_false, e1]

/-- A committed row. -/
theorem out_list (hs : SA E C τ ρ H a w) {cells : Array Value} {elem : TypeId} {sz : Nat} {es : List (List AVal)} (hsz : cells.size = es.length * sz) (hl : ∀ e ∈ es, e.length = sz)
    (hp : es.all (fun e => e.all AVal.isCell) = true) (hpure : ∀ (i j : Nat) (e : List AVal) (d : AVal), es[i]? = some e → e[j]? = some d → ∃ v, cells[i * sz + j]? = some v ∧ Rd C w d v) (hk : K (.list true sz es) H) :
    Out E ρ a K (.slice (some ⟨w.heap.size, 0, none⟩) es.length es.length) (w.alloc (.cells cells elem)) := by
  obtain ⟨st, s⟩ := hs.st.alloc_comm (.cells cells elem) (es.length * sz)
  refine out_step hs hk ?_ st s
  by_cases hne : es = []
  · subst hne; exact .rd (.list0 _ _ _ _ fun _ => rfl)
  have hheap := heap_alloc_self w (.cells cells elem)
  refine .rd (.list _ _ _ _ _ _ (fun i j => (cells[i * sz + j]?).getD undef) (fun _ => rfl) (Nat.le_refl _) hl (by rw [updF_same]; omega) (fun i j hi hj => ?_) (fun i j e d he hd => ?_) (fun i j e d he hd => ?_))
  · have := mul_lt_rows (s := sz) (j := j) hi hj
    simp only [World.cell?, hheap, Option.isSome_none, Bool.false_eq_true, if_false, Nat.zero_add]
    rw [Array.getElem?_eq_getElem (by omega)]; rfl
  · have := List.all_eq_true.1 hp e (List.mem_of_getElem? he)
    exact List.all_eq_true.1 this d (List.mem_of_getElem? hd)
  · obtain ⟨v, hv, hr⟩ := hpure i j e d he hd
    rw [hv]
    exact hr.mono s.le s.cell
theorem snd_buildSlice {o : Oper} {t el : TypeId} {len sz : Nat} {parts : Array (Nat × Operand)} {zero : List AVal} {qs : List (Nat × AOpd)} (ho : o.op = .buildSlice t len parts) (he : elemA? P t = some el) (hsz : sizeA P el = some sz) (hz : zeroA P el = some zero)
    (hq : compRow parts.toList = some qs) (hs : SA E C τ ρ H a w) (h : opA P (.buildSlice sz len zero qs) ρ H K ∨ opA P (.buildSliceO sz len zero qs) ρ H K) : OpRes P ((execOp a.eval o).run P w) (Out E ρ a K) := by
  obtain ⟨i, z, hi, hz1, hzs, hzi, hzr⟩ := zero_rel (C := C) (w := w) (τ := τ) (H := H) hz
  have hsi : i.size = sz := by
    unfold sizeA at hsz; rw [hi] at hsz; simpa using hsz
  have main : ∀ Kf : List (List AVal) → Prop, fillSK ρ sz qs (List.replicate len zero) Kf → (∀ es, Kf es → zero.length = sz ∧ len * sz ≤ 2 ^ 24) → ∃ es cells, (execOp a.eval o).run P w = .ok (.value (.slice (some ⟨w.heap.size, 0, none⟩) es.length es.length)) (w.alloc (.cells cells el)) ∧
      cells.size = es.length * sz ∧ (∀ e ∈ es, e.length = sz) ∧ (∀ (i j : Nat) (e : List AVal) (d : AVal), es[i]? = some e → e[j]? = some d → ∃ v, cells[i * sz + j]? = some v ∧ Rel C w τ H d v) ∧ Kf es := by
    intro Kf hf hzl
    have hzsz : zero.length = sz := by omega
    obtain ⟨es, cells, e1, e2, e3, e4, e5, hk⟩ := fillS_ok hs (sz := sz) parts.toList qs (List.replicate len zero) ((Array.range (len * sz)).map (z.cells[· % z.cells.size]!)) Kf hq (by simp) (fun e hm => by rw [(List.mem_replicate.1 hm).2]; exact hzsz) (fun i j e d hi hd => by
        have := zero_rows hzs hzr len len (Nat.le_refl _) i j e d hi hd
        rw [show z.cells.size = sz from by omega] at this ⊢
        exact this) hf
    rw [List.length_replicate] at e2
    have hlim := (hzl es hk).2
    refine ⟨es, cells, ?_, e3, e4, e5, hk⟩
    have hfill : Instr.fill (fun i => some (i * sz, sz)) ((Array.range (len * sz)).map (z.cells[· % z.cells.size]!)) ((parts.map fun (i, x) => (i, a.eval x)).toList) = some cells := by
      rw [Array.toList_map]; exact e1
    have hgt : ¬ (len * sz > 2 ^ 24) := by omega
    simp only [execOp, ho, Instr.buildSlice, Sem.run_bind, run_und (elem_und he), Result.andThen_ok, run_size hsz, if_neg hgt]
    by_cases hq0 : len * sz = 0
    · rw [hq0] at hfill
      have hr0 : Array.range 0 = #[] := rfl
      rw [hr0, Array.map_empty] at hfill
      simp only [hq0, if_true, Sem.run_pure, Result.andThen_ok, hr0, Array.map_empty, hfill, Sem.run_bind, newRow, run_newObj_alloc, e2]
    · simp only [hq0, if_false, Sem.run_bind, zeroValue, run_info hi, Result.andThen_ok, hz1, Sem.run_pure, hfill, newRow, run_newObj_alloc, e2]
  rcases h with h | h
  · simp only [opA] at h
    obtain ⟨es, cells, e1, e2, e3, e4, hk⟩ := main _ h (fun es hk => by simp only [chkA_iff, Bool.and_eq_true, decide_eq_true_eq] at hk; exact hk.1.1)
    simp only [chkA_iff, Bool.and_eq_true] at hk
    obtain ⟨⟨_, hp⟩, hk⟩ := hk
    have hpc : ∀ e ∈ es, ∀ d ∈ e, d.isPure = true := fun e he d hd => List.all_eq_true.1 (List.all_eq_true.1 hp e he) d hd
    rw [e1]
    refine out_list hs e2 e3 (List.all_eq_true.2 fun e he => List.all_eq_true.2 fun d hd => AVal.isCell_of_isPure (hpc e he d hd)) (fun i j e d hi hd => ?_) hk
    obtain ⟨v, hv, hr⟩ := e4 i j e d hi hd
    exact ⟨v, hv, hr.pure (hpc e (List.mem_of_getElem? hi) d (List.mem_of_getElem? hd))⟩
  · simp only [opA] at h
    obtain ⟨es, cells, e1, e2, e3, e4, hk⟩ := main _ h (fun es hk => by simp only [chkA_iff, Bool.and_eq_true, decide_eq_true_eq] at hk; exact hk.1.1)
    simp only [chkA_iff, Bool.and_eq_true, snocK_eq, Nat.zero_add] at hk
    obtain ⟨⟨_, hp⟩, hk⟩ := hk
    rw [e1]
    refine out_new (cap := es.length) hs rfl rfl rfl rfl e2 (Nat.le_refl _) (.inl rfl) (fun e he => ⟨e3 e he, fun d hd => List.all_eq_true.1 (List.all_eq_true.1 hp e he) d hd⟩) e4 hk (.inr ⟨rfl, rfl⟩)

/-! ### Bytes of a string -/

theorem freeze_new (w : World) (c : Array Value) (e : TypeId) : (w.alloc (.cells c e)).freeze ⟨w.heap.size, c.size, none⟩ 1 = w.alloc (.cells c e (c.size, c.size + 1)) := by
  simp only [World.freeze, Nat.one_ne_zero, if_false, World.alloc]
  congr 1
  apply Array.ext'
  apply List.ext_getElem?
  intro i
  simp only [Array.getElem?_toList, Array.getElem?_modify, Array.getElem?_push]
  by_cases h : w.heap.size = i
  · subst h; simp
  · have h' : ¬ i = w.heap.size := fun e => h e.symm
    simp only [if_neg h, if_neg h']

theorem snd_convSB {o : Oper} {s d el : TypeId} {x : Operand} {x' : AOpd} (ho : o.op = .convert s d x) (hx : compOpd x = some x') (h1 : P.underlying s = some .string) (h2 : P.underlying d = some (.slice el))
    (hb : P.underlying el = some (.int .u8)) (hs : SA E C τ ρ H a w) (h : opA P (.convSB x') ρ H K) : OpRes P ((execOp a.eval o).run P w) (Out E ρ a K) := by
  simp only [opA, evK_eq] at h
  have hr := hs.ev hx
  split at h
  case h_2 => exact h.elim
  rename_i t hv
  rw [hv] at hr
  simp only [snocK_eq, Nat.zero_add] at h
  obtain ⟨_, hk⟩ := h
  generalize hc : (Question.appendCap t.size 0 el).cut (w.tape w.drawn (.appendCap t.size 0 el)) = c
  have hle : t.size ≤ c := by rw [← hc]; simp [Question.cut]
  generalize hcells : ((t.data.map fun b => Value.int .u8 b.toNat) ++ Array.replicate (c - t.size) (Value.int .u8 0) : Array Value) = cells
  have hsize : cells.size = c := by rw [← hcells]; simp; omega
  have run : (execOp a.eval o).run P w = .ok (.value (.slice (some ⟨w.heap.size, 0, none⟩) t.size c)) (w.drew.alloc (.cells cells el (cells.size, cells.size + 1))) := by
    have hconv : (Conv.stringToBytes el t).run P w = .ok (.slice (some ⟨w.heap.size, 0, none⟩) t.size c) (w.drew.alloc (.cells cells el (cells.size, cells.size + 1))) := by
      have hq : (Question.appendCap t.size 0 el).forced = false := rfl
      have hsh : (w.drew.alloc (.cells cells el)).shape? w.drew.heap.size = some (el, cells.size) := by
        have := heap_alloc_self w.drew (.cells cells el)
        simp only [World.shape?, this]
      unfold Conv.stringToBytes
      simp only [Sem.run_bind, run_choose_drew, hq, Bool.false_eq_true, if_false, Result.andThen_ok, hc, hcells, newRow, run_newObj_alloc, Sem.run_pure, markStringish, run_shape]
      rw [show w.drew.heap.size = w.heap.size from rfl] at hsh
      simp only [World.size_drew, hsh, run_freeze, Result.andThen_ok]
      have := freeze_new w.drew cells el
      rw [show w.drew.heap.size = w.heap.size from rfl] at this
      rw [this]
    simp only [execOp, ho, hr.str_inv, convert, Sem.run_bind, run_und h1, run_und h2, Result.andThen_ok, run_und hb, hconv, Sem.run_pure]
  rw [run]
  have hbl : (byteCells t.data.toList).length = t.size := by simp [byteCells]
  refine out_new (w1 := w.drew) (cap := c) (esz := 1) (es := byteCells t.data.toList) hs rfl rfl rfl rfl (by omega) (by omega) (.inr (Nat.le_refl _)) (fun e he => ?_) (fun i j e d he hd => ?_) (v := .sl H.length t.size 0 t.size) ?_ (.inr ⟨by rw [hbl], by rw [hbl]⟩)
  · simp only [byteCells, List.mem_map] at he
    obtain ⟨b, _, rfl⟩ := he
    exact ⟨rfl, fun d hd => by simp at hd; subst hd; rfl⟩
  · obtain ⟨v, hv, hrel⟩ := (src_str (P := P) (C := C) (w := w) (τ := τ) (H := H) (s := t)).rel i j e d he hd
    refine ⟨v, ?_, hrel⟩
    rw [← hcells, Array.getElem?_append_left (Array.getElem?_eq_some_iff.1 hv).1]
    exact hv
  · have : t.data.toList.length = t.size := by simp
    rw [this] at hk
    exact hk

theorem snd_mark {o : Oper} {s el : TypeId} {x : Operand} {x' : AOpd} (ho : o.op = .convert s s x) (hx : compOpd x = some x') (h1 : P.underlying s = some (.slice el)) (hb : P.underlying el = some (.int .u8))
    (hs : SA E C τ ρ H a w) (h : opA P (.mark x') ρ H K) : OpRes P ((execOp a.eval o).run P w) (Out E ρ a K) := by
  simp only [opA, evK_eq] at h
  have hr := hs.ev hx
  split at h
  case h_2 => exact h.elim
  rename_i id ep off len hv
  rw [hv] at hr
  simp only [objK, idxA_iff] at h
  obtain ⟨ob, hob, h⟩ := h
  split at h
  case h_2 => exact h.elim
  rename_i esz es
  simp only [chkA_iff, Bool.and_eq_true, Nat.beq_eq, decide_eq_true_eq] at h
  obtain ⟨⟨hep, hpos⟩, hk⟩ := h
  obtain ⟨ad, cap, e1, hl1, hl2, hl3⟩ := hr.sl_inv hob hep
  rcases hl3 with ⟨_, hc⟩ | ⟨l, hl, hlc, hla⟩
  · omega
  · rcases hla with hc | rfl
    · omega
    · obtain ⟨hroom, cells, elem, fz, g1, g2, g3, g4⟩ := hs.st.wf.objs id _ l hob hl
      have hsh : w.shape? l.b = some (elem, cells.size) := by simp [World.shape?, g1]
      have run : (execOp a.eval o).run P w = .ok (.value (a.eval x)) (w.freeze ⟨l.b, cells.size, none⟩ 1) := by
        simp only [execOp, ho, e1, convert, Sem.run_bind, run_und h1, Result.andThen_ok, beq_self_eq_true, run_und hb, markStringish, run_shape, hsh, run_freeze, Sem.run_pure]
      rw [run]
      generalize hw' : w.freeze ⟨l.b, cells.size, none⟩ 1 = w'
      have hfz : ∃ fz' : Nat × Nat, w'.heap[l.b]? = some (.cells cells elem fz') ∧ (fz'.1 = fz'.2 ∨ cells.size ≤ fz'.1) := by
        rw [← hw']
        simp only [World.freeze, Nat.one_ne_zero, if_false, Array.getElem?_modify, if_true, g1, Option.map_some]
        obtain ⟨lo, hi⟩ := fz
        simp only [] at g3 ⊢
        by_cases hlh : lo = hi
        · subst hlh
          exact ⟨(cells.size, cells.size + 1), by simp, .inr (Nat.le_refl _)⟩
        · refine ⟨(min lo cells.size, max hi (cells.size + 1)), ?_, .inr ?_⟩
          · have : (lo == hi) = false := by simpa using hlh
            simp [this]
          · simp only []; omega
      obtain ⟨fz', q1, q2⟩ := hfz
      have hoth : ∀ b, b ≠ l.b → w'.heap[b]? = w.heap[b]? := by
        intro b hb'
        rw [← hw']
        simp only [World.freeze, Nat.one_ne_zero, if_false, Array.getElem?_modify]
        rw [if_neg (fun e => hb' e.symm)]
      have hsz : w'.heap.size = w.heap.size := by rw [← hw']; simp [World.freeze]
      have f1 : w'.os = w.os := by rw [← hw']; simp [World.freeze]
      have f2 : w'.tape = w.tape := by rw [← hw']; simp [World.freeze]
      have f3 : w'.output = w.output := by rw [← hw']; simp [World.freeze]
      obtain ⟨st, s1⟩ := hs.st.set_obj (w' := w') (o' := .arr esz es) hob hl hoth hsz f1 f2 f3 (AObj.after_refl _ _) (hs.st.wf.ok id _ hob) fun C' τ' H' s1 => by
        refine ⟨hroom, cells, elem, fz', q1, g2, q2, fun i j e d hi hd => ?_⟩
        obtain ⟨v, hv1, hv2⟩ := g4 i j e d hi hd
        exact ⟨v, hv1, hv2.mono s1⟩
      have hidx := (List.getElem?_eq_some_iff.1 hob).1
      have hset : H.set id (.arr esz es) = H := by
        apply List.ext_getElem?
        intro j
        by_cases hj : j = id
        · subst hj; rw [List.getElem?_set_self hidx, hob]
        · rw [List.getElem?_set_ne (Ne.symm hj)]
      rw [hset] at st s1
      exact out_step hs hk (hr.mono s1) st s1
end
end Go.AW
