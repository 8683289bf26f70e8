/-
  The abstract machine's operations are sound. Seventh part: stores and appends.
  No condition: plain laws over any program.
-/
import Derived.Test.YtikifhfpiahnoaaAwSound6
import Derived.Laws.NewFold
namespace Go.AW

section
variable {E : Env} {P : Program} {C : Nat → Nat} {τ : Nat → Option Loc} {ρ : List AVal} {H : List AObj} {a : Act} {w : World} {K : AVal → List AObj → Prop}

theorem setT_getElem? : ∀ (l : List AVal) (n : Nat) (v : AVal) (i : Nat), (setT l n v)[i]? = if i = n ∧ n < l.length then some v else l[i]?
  | [], n, v, i => by simp [setT]
  | x :: xs, 0, v, i => by cases i <;> simp [setT]
  | x :: xs, n + 1, v, i => by
    cases i with
    | zero => simp [setT]
    | succ i => simp [setT, setT_getElem? xs n v i]

theorem length_putCells : ∀ (vs : List AVal) (l : List AVal) (i : Nat), (putCells l i vs).length = l.length
  | [], _, _ => rfl
  | v :: vs, l, i => by rw [putCells, length_putCells vs, length_setT]

theorem putCells_getElem? : ∀ (vs : List AVal) (l : List AVal) (i : Nat), i + vs.length ≤ l.length → ∀ k, (putCells l i vs)[k]? = if i ≤ k ∧ k < i + vs.length then vs[k - i]? else l[k]?
  | [], l, i, _, k => by
    rw [if_neg (by simp only [List.length_nil]; omega)]; rfl
  | v :: vs, l, i, h, k => by
    simp only [List.length_cons] at h
    rw [putCells, putCells_getElem? vs (setT l i v) (i + 1) (by rw [length_setT]; omega) k]
    simp only [List.length_cons]
    by_cases h1 : i + 1 ≤ k ∧ k < i + 1 + vs.length
    · rw [if_pos h1, if_pos (by omega)]
      obtain ⟨m, hm⟩ : ∃ m, k - i = m + 1 := ⟨k - i - 1, by omega⟩
      rw [hm, show k - (i + 1) = m from by omega]; rfl
    · rw [if_neg h1, setT_getElem?]
      by_cases h2 : k = i
      · subst h2
        rw [if_pos ⟨rfl, by omega⟩, if_pos (by omega)]; simp
      · rw [if_neg (fun e => h2 e.1), if_neg (by omega)]

theorem mul_lt_rows {i j s n : Nat} (hi : i < n) (hj : j < s) : i * s + j < n * s := by
  have h1 : (i + 1) * s ≤ n * s := Nat.mul_le_mul_right _ hi
  rw [Nat.add_mul] at h1; omega

/-- Two places in a row of elements are one only if element and cell are. -/
theorem rows_inj {i j i' j' s : Nat} (hj : j < s) (hj' : j' < s) (h : i * s + j = i' * s + j') : i = i' ∧ j = j' := by
  have h1 : (i * s + j) / s = i := by
    rw [Nat.mul_comm, Nat.mul_add_div (by omega), Nat.div_eq_of_lt hj]; rfl
  have h2 : (i' * s + j') / s = i' := by
    rw [Nat.mul_comm, Nat.mul_add_div (by omega), Nat.div_eq_of_lt hj']; rfl
  rw [h] at h1
  have e : i = i' := h1.symm.trans h2
  subst e
  exact ⟨rfl, by omega⟩

theorem snd_store {o : Oper} {t : TypeId} {x y : Operand} {x' y' : AOpd} {sz : Nat} (ho : o.op = .store t x y) (hx : compOpd x = some x') (hy : compOpd y = some y') (hsz : sizeA P t = some sz)
    (hs : SA E C τ ρ H a w) (h : opA P (.store sz x' y') ρ H K) : OpRes P ((execOp a.eval o).run P w) (Out E ρ a K) := by
  simp only [opA, evK_eq] at h
  have hrx := hs.ev hx
  have hry := hs.ev hy
  split at h
  case h_2 => exact h.elim
  rename_i id ep idx fld hv
  rw [hv] at hrx
  split at h
  case h_2 => exact h.elim
  rename_i cs hcs
  simp only [objK, idxA_iff] at h
  obtain ⟨ob, hob, h⟩ := h
  split at h
  case h_2 => exact h.elim
  rename_i esz es
  simp only [elemA_iff, chkA_iff, Bool.and_eq_true, decide_eq_true_eq, setO_eq, setEs_eq] at h
  obtain ⟨hep, e, he, ⟨⟨hcl, hfl⟩, hp⟩, hk⟩ := h
  have hk := forceK_mono hk
  obtain ⟨hl2, hcr⟩ := hry.cells hcs
  obtain ⟨l, hl1, hu⟩ := hrx.ptr_inv hob hep
  obtain ⟨hroom, cells, elem, fz, h1, h2, h3, h4⟩ := hs.st.wf.objs id _ l hob hl1
  have hok := hs.st.wf.ok id _ hob
  have hee := (hok e (List.mem_of_getElem? he)).1
  have hidx := (List.getElem?_eq_some_iff.1 he).1
  have hbound : idx * esz + e.length ≤ cells.size := by
    rw [h2, hee]
    have := Nat.mul_le_mul_right esz (show idx + 1 ≤ l.cap by omega)
    rw [Nat.add_mul] at this
    omega
  obtain ⟨w', cur', q1, q2, q3, q4, q5, q6, q7, q8, q9⟩ := run_storeCells_blk (P := P) l.b (idx * esz + fld) elem fz (a.eval y).cells.toList 0 cells w h1 (by simp; omega) h3 (rel_cellsPlain hl2 hcr hp)
  have run : (execOp a.eval o).run P w = .ok .skip w' := by
    have hne : ¬ ((a.eval y).cells.size ≠ sz) := by omega
    simp only [execOp, ho, hu, Instr.storeAt, Instr.sureAddr, storeVar, Sem.run_bind, Sem.run_pure, Result.andThen_ok, run_size hsz, if_neg hne, q1]
  rw [run]
  have hput : putCells e fld cs = putCells e fld cs := rfl
  have hok' : (AObj.arr esz (es.set idx (putCells e fld cs))).ok := by
    intro e' he'
    obtain ⟨i, hi, rfl⟩ := List.getElem_of_mem he'
    rw [List.length_set] at hi
    by_cases hii : idx = i
    · subst hii
      rw [List.getElem_set_self]
      refine ⟨by rw [length_putCells, hee], fun d hd => ?_⟩
      obtain ⟨k, hk1, rfl⟩ := List.getElem_of_mem hd
      have hk2 := List.getElem?_eq_getElem hk1
      rw [putCells_getElem? cs e fld (by omega)] at hk2
      split at hk2
      · exact List.all_eq_true.1 hp _ (List.mem_of_getElem? hk2)
      · exact (hok e (List.mem_of_getElem? he)).2 _ (List.mem_of_getElem? hk2)
    · rw [List.getElem_set_ne hii]
      exact hok _ (List.getElem_mem _)
  obtain ⟨st, s⟩ := hs.st.set_obj (w' := w') (o' := .arr esz (es.set idx (putCells e fld cs))) hob hl1 q6 q5 q2 q3 q4 ⟨rfl, by simp, fun _ => rfl⟩ hok' fun C' τ' H' s => by
    refine ⟨by rw [List.length_set]; exact hroom, cur', elem, fz, q7, by rw [q8]; exact h2, by rw [q8]; exact h3, fun i j e' d hi hd => ?_⟩
    by_cases hii : idx = i
    · subst hii
      rw [List.getElem?_set_self hidx] at hi
      cases hi
      have hj := (List.getElem?_eq_some_iff.1 hd).1
      rw [length_putCells] at hj
      rw [putCells_getElem? cs e fld (by omega)] at hd
      rw [q9]
      by_cases hj2 : fld ≤ j ∧ j < fld + cs.length
      · rw [if_pos hj2] at hd
        rw [if_pos (by simp; omega)]
        have hlt : j - fld < (a.eval y).cells.size := by omega
        refine ⟨(a.eval y).cells[j - fld], ?_, (hcr (j - fld) d _ hd (Array.getElem?_eq_getElem hlt)).mono s⟩
        rw [show idx * esz + j - (idx * esz + fld + 0) = j - fld from by omega, Array.getElem?_toList, Array.getElem?_eq_getElem hlt]
      · rw [if_neg hj2] at hd
        rw [if_neg (by simp; omega)]
        obtain ⟨v, hv1, hv2⟩ := h4 idx j e d he hd
        exact ⟨v, hv1, hv2.mono s⟩
    · rw [List.getElem?_set_ne hii] at hi
      obtain ⟨v, hv1, hv2⟩ := h4 i j e' d hi hd
      refine ⟨v, ?_, hv2.mono s⟩
      rw [q9, if_neg]
      · exact hv1
      · intro hc
        have hj := (List.getElem?_eq_some_iff.1 hd).1
        have he2 := (hok e' (List.mem_of_getElem? hi)).1
        simp only [Nat.add_zero, Array.length_toList] at hc
        have := rows_inj (i := i) (j := j) (i' := idx) (j' := i * esz + j - idx * esz) (s := esz) (by omega) (by omega) (by omega)
        exact hii this.1.symm
  exact out_step hs hk (.tuple _ _ rfl fun i c v hc => by simp at hc) st s

theorem zeroCells_size (z : Array Value) (n : Nat) : (Builtin.zeroCells z n).size = n * z.size := by simp [Builtin.zeroCells]

/-- The run of an append that makes a new row. -/
theorem run_appendGrow {t tx ty el : TypeId} {i : TypeInfo} {z : Value} {sz bytes : Nat} (ht : P.underlying t = some (.slice el)) (htx : (∃ e', P.underlying tx = some (.slice e')) ∨ P.underlying tx = some .string)
    (hi : P.info? el = some i) (hz : i.zero = some z) (hsi : i.size = sz) (hbi : i.bytes = bytes) {base : Option Addr} {sLen sCap : Nat} {y : Value} {es es' : List (List AVal)} {olds news : Array Value}
    (hso : SrcA P C w τ H sz (.slice base sLen sCap) es olds) (hsn : SrcA P C w τ H sz y es' news) (hn : sLen = es.length) (hg : sCap < sLen + es'.length) (hb1 : (sLen + es'.length) * bytes ≤ roomB) (hb2 : sLen + es'.length ≤ roomB) :
    ∃ c, sLen + es'.length ≤ c ∧ (Builtin.append_ #[t, tx] ty #[.slice base sLen sCap, y]).run P w =
      .ok (.slice (some ⟨w.heap.size, 0, none⟩) (sLen + es'.length) c) (w.drew.alloc (.cells (olds ++ news ++ Builtin.zeroCells z.cells (c - (sLen + es'.length))) el)) := by
  refine ⟨(Question.appendCap (sLen + es'.length) sCap el).cut (w.tape w.drawn (.appendCap (sLen + es'.length) sCap el)), by simp [Question.cut], ?_⟩
  rw [roomB_val] at hb1 hb2
  have hn1 : ¬ (sLen + es'.length ≤ sCap) := by omega
  have h63' : ¬ (((sLen + es'.length : Nat) : Int) > IntKind.i64.max) := by
    have e : IntKind.i64.max = 9223372036854775807 := by decide
    rw [e]; omega
  have h48 := growslice_fits (old := sCap) (need := sLen + es'.length) (bytes := bytes) (by omega) (by omega)
  have h48' : ¬ (Builtin.nextslicecap (sLen + es'.length) sCap * bytes > 2 ^ 48) := by
    have e : (2 : Nat) ^ 48 = 281474976710656 := by decide
    rw [e]; omega
  have fo : ∀ w' : World, w'.heap = w.heap → (Builtin.firstCells sz sLen (.slice base sLen sCap)).run P w' = .ok olds w' := by
    intro w' hw'; rw [hn]; have := hso.cells w' hw'; rwa [hn] at this
  have hq : ∀ q : Question, q = Question.appendCap (sLen + es'.length) sCap el → q.forced = false := by rintro q rfl; rfl
  have h63'' : ¬ (((sLen + es'.length : Nat) : Int) > IntKind.i64.max ∧ (False ∨ bytes = 0)) := fun hh => h63' hh.1
  rcases htx with ⟨e', hu⟩ | hu
  all_goals
    unfold Builtin.append_
    simp only [List.getElem?_toArray, List.getElem?_cons_zero, List.getElem?_cons_succ, Sem.run_bind, run_und ht, run_und hu, Result.andThen_ok, run_size (P := P) (t := el) (n := sz) (by simp [sizeA, hi, hsi]),
      Sem.run_pure, Bool.false_eq_true, if_false, hsn.len, if_neg hn1, run_info hi, hbi, if_neg h63'', if_neg h48', run_choose_drew, hq _ rfl, run_askRoom, fo w.drew rfl, hsn.cells w.drew rfl, Bool.not_false, if_true, zeroValue, hz,
      newRow, run_newObj_alloc, World.size_drew]

/-- The run of an append that has room. -/
theorem run_appendFits {t tx ty el : TypeId} {sz : Nat} (ht : P.underlying t = some (.slice el)) (htx : (∃ e', P.underlying tx = some (.slice e')) ∨ P.underlying tx = some .string)
    (hsz : sizeA P el = some sz) {base : Option Addr} {sLen sCap : Nat} {y : Value} {es' : List (List AVal)} {news : Array Value}
    (hsn : SrcA P C w τ H sz y es' news) (hg : sLen + es'.length ≤ sCap) {w' : World} (hst : ∀ ad, base = some ad → (storeCells (ad.add (sLen * sz)) news.toList).run P w = .ok () w') (hnone : base = none → w' = w) :
    (Builtin.append_ #[t, tx] ty #[.slice base sLen sCap, y]).run P w = .ok (.slice base (sLen + es'.length) sCap) w' := by
  rcases htx with ⟨e', hu⟩ | hu
  all_goals
    unfold Builtin.append_
    simp only [List.getElem?_toArray, List.getElem?_cons_zero, List.getElem?_cons_succ, Sem.run_bind, run_und ht, run_und hu, Result.andThen_ok, run_size hsz,
      Sem.run_pure, Bool.false_eq_true, if_false, hsn.len, if_pos hg, hsn.cells w rfl, Bool.not_false, if_true]
    cases base with
    | none => simp only [Sem.run_pure]; rw [hnone rfl]
    | some ad => simp only [Sem.run_bind, hst ad rfl, Result.andThen_ok, Sem.run_pure]
/-- The rows of two sources, one behind the other. -/
theorem rows_append {sz : Nat} {x y : Value} {es es' : List (List AVal)} {olds news zs : Array Value} (h1 : SrcA P C w τ H sz x es olds) (h2 : SrcA P C w τ H sz y es' news) :
    ∀ (i j : Nat) (e : List AVal) (d : AVal), (es ++ es')[i]? = some e → e[j]? = some d → ∃ v, (olds ++ news ++ zs)[i * sz + j]? = some v ∧ Rel C w τ H d v := by
  intro i j e d he hd
  have s1 := h1.size
  have s2 := h2.size
  by_cases hi : i < es.length
  · rw [List.getElem?_append_left hi] at he
    have hj := (List.getElem?_eq_some_iff.1 hd).1
    have := (h1.esz e (List.mem_of_getElem? he)).1
    have hlt := mul_lt_rows (s := sz) (j := j) hi (by omega)
    obtain ⟨v, hv, hr⟩ := h1.rel i j e d he hd
    refine ⟨v, ?_, hr⟩
    rw [Array.append_assoc, Array.getElem?_append_left (by omega)]
    exact hv
  · rw [List.getElem?_append_right (by omega)] at he
    have hj := (List.getElem?_eq_some_iff.1 hd).1
    have hi2 := (List.getElem?_eq_some_iff.1 he).1
    have := (h2.esz e (List.mem_of_getElem? he)).1
    have hlt := mul_lt_rows (s := sz) (j := j) hi2 (by omega)
    obtain ⟨v, hv, hr⟩ := h2.rel _ j e d he hd
    refine ⟨v, ?_, hr⟩
    have e1 : i * sz + j = olds.size + ((i - es.length) * sz + j) := by
      rw [s1, ← Nat.add_assoc, ← Nat.add_mul]
      congr 2
      omega
    rw [Array.append_assoc, e1, Array.getElem?_append_right (by omega), Nat.add_sub_cancel_left, Array.getElem?_append_left (by omega)]
    exact hv

theorem ok_append {sz : Nat} {x y : Value} {es es' : List (List AVal)} {olds news : Array Value} (h1 : SrcA P C w τ H sz x es olds) (h2 : SrcA P C w τ H sz y es' news) : (AObj.arr sz (es ++ es')).ok := by
  intro e he
  rcases List.mem_append.1 he with he | he
  · exact h1.esz e he
  · exact h2.esz e he

theorem snd_append {o : Oper} {t tx el : TypeId} {x y : Operand} {x' y' : AOpd} {sz bytes : Nat} {zero : List AVal} (ho : o.op = .call { callee := .builtin .append, args := #[x, y], argTypes := #[t, tx] }) (hx : compOpd x = some x') (hy : compOpd y = some y')
    (he : elemA? P t = some el) (htx : (∃ e', P.underlying tx = some (.slice e')) ∨ P.underlying tx = some .string) (hsz : sizeA P el = some sz) (hby : bytesA P el = some bytes) (hz : zeroA P el = some zero)
    (hs : SA E C τ ρ H a w) (h : opA P (.append sz bytes zero x' y') ρ H K) : OpRes P ((execOp a.eval o).run P w) (Out E ρ a K) := by
  simp only [opA, evK_eq] at h
  have hrx := hs.ev hx
  have hry := hs.ev hy
  have ht := elem_und he
  obtain ⟨es', news, h, hsn⟩ := content_src (P := P) hs.st.wf hry h
  simp only [chkA_iff, Bool.and_eq_true, decide_eq_true_eq] at h
  obtain ⟨⟨hzl, hzc⟩, h⟩ := h
  obtain ⟨i, z, hi, hz1, hzs, hzi, hzr⟩ := zero_rel (C := C) (w := w) (τ := τ) (H := H) hz
  have hbi : i.bytes = bytes := by
    unfold bytesA at hby; rw [hi] at hby; simpa using hby
  have hsi : i.size = sz := by
    unfold sizeA at hsz; rw [hi] at hsz; simpa using hsz
  have run : ∀ v u w', a.eval x = v → (Builtin.append_ #[t, tx] o.type #[v, a.eval y]).run P w = .ok u w' → (execOp a.eval o).run P w = .ok (.value u) w' := by
    rintro v u w' rfl hr
    simp only [execOp, ho, resolve, invoke, builtin, List.map_toArray, List.map_cons, List.map_nil, Sem.run_bind, Sem.run_pure, Result.andThen_ok, hr]
  have sizes : ∀ {xv : Value} {es : List (List AVal)} {olds : Array Value} (c : Nat), SrcA P C w τ H sz xv es olds → es.length + es'.length ≤ c →
      (olds ++ news ++ Builtin.zeroCells z.cells (c - (es.length + es'.length))).size = c * sz := by
    intro xv es olds c h1 hc
    rw [Array.size_append, Array.size_append, h1.size, hsn.size, zeroCells_size, show z.cells.size = sz from by omega, ← Nat.add_mul, ← Nat.add_mul]
    congr 1; omega
  -- a new row as a new object
  have fresh : ∀ (es : List (List AVal)) (base : Option Addr) (cap : Nat) (olds : Array Value), a.eval x = .slice base es.length cap → SrcA P C w τ H sz (.slice base es.length cap) es olds → cap < es.length + es'.length →
      (es.length + es'.length) * bytes ≤ roomB → es.length + es'.length ≤ roomB → K (.sl H.length (es ++ es').length 0 (es ++ es').length) (H ++ [.arr sz (es ++ es')]) → OpRes P ((execOp a.eval o).run P w) (Out E ρ a K) := by
    intro es base cap olds hev hso hg hb1 hb2 hk
    obtain ⟨c, hc, hrun⟩ := run_appendGrow (ty := o.type) ht htx hi hz1 hsi hbi hso hsn rfl hg hb1 hb2
    rw [run _ _ _ hev hrun]
    have hl : (es ++ es').length = es.length + es'.length := List.length_append
    exact out_new (w1 := w.drew) (cap := c) hs rfl rfl rfl rfl (sizes c hso hc) (by omega) (.inl rfl) (ok_append hso hsn) (rows_append hso hsn) hk (.inr ⟨rfl, by rw [hl]⟩)
  split at h
  case h_4 => exact h.elim
  case h_1 hv =>
    rw [hv] at hrx
    simp only [snocK_eq, Nat.zero_add] at h
    obtain ⟨⟨hb1, hb2⟩, hk⟩ := h
    by_cases hn : es' = []
    · subst hn
      have hrun := run_appendFits (ty := o.type) (base := none) (sLen := 0) (sCap := 0) (w' := w) ht htx hsz hsn (Nat.le_refl _) (fun ad e => by cases e) (fun _ => rfl)
      rw [run _ _ _ hrx.nil_inv hrun]
      obtain ⟨st, s⟩ := hs.st.virt sz
      exact out_step hs hk (.sl _ _ _ _ _ _ sz [] (by simp) (Nat.le_refl _) fun _ => ⟨Nat.le_refl _, Nat.le_refl _, .inl ⟨updF_same _ _ _, rfl⟩⟩) st s
    · have hpos : 0 < es'.length := List.length_pos_iff.2 hn
      refine fresh [] none 0 #[] hrx.nil_inv src_empty (by simpa using hpos) (by simpa using hb1) (by simpa using hb2) (by simpa using hk)
  case h_2 s es hv =>
    rw [hv] at hrx
    simp only [Nat.beq_eq, snocK_eq, Nat.zero_add] at h
    obtain ⟨rfl, ⟨hb1, hb2, hne⟩, hk⟩ := h
    obtain ⟨ad, cap, e1, hcap, hex, _⟩ := hrx.list_inv
    have hc := hex rfl
    subst hc
    rw [e1] at hrx
    obtain ⟨olds, hso⟩ := src_list (P := P) hrx
    by_cases hn : es' = []
    · subst hn
      have hes : es = [] := by
        rcases hne with h0 | h0
        · exact absurd rfl h0
        · exact h0
      subst hes
      have hst : ∀ ad', ad = some ad' → (storeCells (ad'.add ([].length (α := List AVal) * s)) news.toList).run P w = .ok () w := by
        intro ad' _
        have : news = #[] := by
          have := hsn.size
          simp at this
          exact this
        rw [this]; rfl
      have hrun := run_appendFits (ty := o.type) (base := ad) (sLen := 0) (sCap := 0) (w' := w) ht htx hsz hsn (Nat.le_refl _) hst (fun _ => rfl)
      rw [run _ _ _ e1 hrun]
      obtain ⟨st, st2⟩ := hs.st.virt s
      exact out_step hs hk (.sl _ _ _ _ _ _ s [] (by simp) (Nat.le_refl _) fun _ => ⟨Nat.le_refl _, Nat.le_refl _, .inl ⟨updF_same _ _ _, rfl⟩⟩) st st2
    · have hpos : 0 < es'.length := List.length_pos_iff.2 hn
      exact fresh es ad es.length olds e1 hso (by omega) hb1 hb2 hk
  case h_3 id ep off len hv =>
    rw [hv] at hrx
    simp only [objK, idxA_iff] at h
    obtain ⟨ob, hob, h⟩ := h
    split at h
    case h_2 => exact h.elim
    rename_i s es
    simp only [Nat.beq_eq, setO_eq] at h
    obtain ⟨rfl, hep, ⟨hb1, hb2, rfl, hlen⟩, hk⟩ := h
    obtain ⟨ad, cap, e1, hl1, hl2, hl3⟩ := hrx.sl_inv hob hep
    rw [e1] at hrx
    obtain ⟨olds, hso⟩ := src_sl (P := P) hs.st.wf hrx hob hep
    have hpart : (es.drop 0).take len = es := by rw [List.drop_zero]; exact List.take_of_length_le (by omega)
    rw [hpart] at hso
    subst hlen
    have hidx := (List.getElem?_eq_some_iff.1 hob).1
    have hok := hs.st.wf.ok id _ hob
    have hll : (es ++ es').length = es.length + es'.length := List.length_append
    by_cases hn : es' = []
    · subst hn
      have hst : ∀ ad', ad = some ad' → (storeCells (ad'.add (es.length * s)) news.toList).run P w = .ok () w := by
        intro ad' _
        have : news = #[] := by
          have := hsn.size
          simp at this
          exact this
        rw [this]; rfl
      have hrun := run_appendFits (ty := o.type) (base := ad) (sLen := es.length) (sCap := cap) (w' := w) ht htx hsz hsn (by simpa using hl2) hst (fun _ => rfl)
      rw [run _ _ _ e1 hrun]
      have hset : H.set id (.arr s (es ++ [])) = H := by
        rw [List.append_nil]
        apply List.ext_getElem?
        intro j
        by_cases hj : j = id
        · subst hj; rw [List.getElem?_set_self hidx, hob]
        · rw [List.getElem?_set_ne (Ne.symm hj)]
      rw [hset] at hk
      simp only [List.append_nil] at hk
      refine out_same hs hk ?_
      rw [hep] at hrx
      exact hrx
    · have hpos : 0 < es'.length := List.length_pos_iff.2 hn
      have hok' := ok_append hso hsn
      by_cases hfit : es.length + es'.length ≤ cap
      · rcases hl3 with ⟨_, hc⟩ | ⟨l, hl, hlc, hla⟩
        · omega
        · rcases hla with hc | rfl
          · omega
          · obtain ⟨hroom, cells, elem, fz, h1, h2, h3, h4⟩ := hs.st.wf.objs id _ l hob hl
            have hns := hsn.size
            have hbound : es.length * s + es'.length * s ≤ cells.size := by
              rw [h2, ← Nat.add_mul]
              exact Nat.mul_le_mul_right _ (by omega)
            obtain ⟨w', cur', q1, q2, q3, q4, q5, q6, q7, q8, q9⟩ := run_storeCells_blk (P := P) l.b (es.length * s) elem fz news.toList 0 cells w h1 (by simp; omega) h3 hsn.one
            have hrun := run_appendFits (ty := o.type) (base := some ⟨l.b, 0 * s, none⟩) (sLen := es.length) (sCap := cap) (w' := w') ht htx hsz hsn hfit (fun ad' e => by
              cases e
              rw [addr_add, Nat.zero_mul, Nat.zero_add]
              exact q1) (fun e => by cases e)
            rw [run _ _ _ e1 hrun]
            obtain ⟨st, s1⟩ := hs.st.set_obj (w' := w') (o' := .arr s (es ++ es')) hob hl q6 q5 q2 q3 q4 ⟨rfl, by omega, fun _ => rfl⟩ hok' fun C' τ' H' s1 => by
              refine ⟨by omega, cur', elem, fz, q7, by rw [q8]; exact h2, by rw [q8]; exact h3, fun i j e d hi hd => ?_⟩
              have hj := (List.getElem?_eq_some_iff.1 hd).1
              by_cases hi2 : i < es.length
              · rw [List.getElem?_append_left hi2] at hi
                have hee := (hok e (List.mem_of_getElem? hi)).1
                have hlt := mul_lt_rows (s := s) (j := j) hi2 (by omega)
                obtain ⟨v, hv1, hv2⟩ := h4 i j e d hi hd
                refine ⟨v, ?_, hv2.mono s1⟩
                rw [q9, if_neg (by omega)]
                exact hv1
              · rw [List.getElem?_append_right (by omega)] at hi
                have hi3 := (List.getElem?_eq_some_iff.1 hi).1
                have hee := (hsn.esz e (List.mem_of_getElem? hi)).1
                have hlt := mul_lt_rows (s := s) (j := j) hi3 (by omega)
                obtain ⟨v, hv1, hv2⟩ := hsn.rel _ j e d hi hd
                have e2 : i * s + j = es.length * s + ((i - es.length) * s + j) := by
                  rw [← Nat.add_assoc, ← Nat.add_mul]
                  congr 2; omega
                refine ⟨v, ?_, hv2.mono s1⟩
                rw [q9, if_pos (by rw [e2]; simp only [Array.length_toList]; omega), e2, Nat.add_zero, Nat.add_sub_cancel_left, Array.getElem?_toList]
                exact hv1
            rw [← hll]
            exact out_step hs hk (.sl _ _ _ _ _ _ s (es ++ es') (by rw [List.getElem?_set_self hidx]) (Nat.le_refl _) fun _ => ⟨by omega, by omega, .inr ⟨l, hl, hlc, .inr rfl⟩⟩) st s1
      · obtain ⟨c, hc, hrun⟩ := run_appendGrow (ty := o.type) ht htx hi hz1 hsi hbi hso hsn rfl (by omega) hb1 hb2
        rw [run _ _ _ e1 hrun]
        obtain ⟨st1, s1⟩ := hs.st.same (w' := w.drew) rfl rfl rfl rfl
        obtain ⟨st2, s2⟩ := st1.move_obj hob (.cells (olds ++ news ++ Builtin.zeroCells z.cells (c - (es.length + es'.length))) el) c (o' := .arr s (es ++ es')) ⟨rfl, by omega, fun e => by omega⟩ (ok_append hso hsn)
          fun C' τ' H' w' s hh => ⟨(by show (es ++ es').length ≤ c; omega), _, _, _, hh, sizes c hso hc, .inl rfl, fun i j e d he hd => by
            obtain ⟨v, hv, hr⟩ := rows_append hso hsn i j e d he hd
            exact ⟨v, hv, (hr.mono s1).mono s⟩⟩
        rw [World.size_drew] at st2 s2
        refine out_step hs hk ?_ st2 (s1.trans s2)
        rw [hll]
        exact .sl _ _ _ _ _ _ s (es ++ es') (by rw [List.getElem?_set_self hidx]) (by omega) fun _ => ⟨by omega, by omega, .inr ⟨_, updF_same _ _ _, by simp, .inr (by simp)⟩⟩
end
end Go.AW
