/-
  The abstract machine's operations are sound. Fifth part: the content of slices and strings; bytes to a string; equality; iterators.
  No condition: plain laws over any program.
-/
import Derived.Test.YtikifhfpiahnoaaAwSound4
import Derived.Laws.Append
import Derived.Laws.BytesString
namespace Go.AW

section
variable {E : Env} {P : Program} {C : Nat → Nat} {τ : Nat → Option Loc} {ρ : List AVal} {H : List AObj} {a : Act} {w : World} {K : AVal → List AObj → Prop}

/-- A slice or string as a source of cells. -/
structure SrcA (P : Program) (C : Nat → Nat) (w : World) (τ : Nat → Option Loc) (H : List AObj) (sz : Nat) (x : Value) (es : List (List AVal)) (news : Array Value) : Prop where
  len : ∀ w' : World, (Builtin.lenOf x).run P w' = .ok es.length w'
  size : news.size = es.length * sz
  cells : ∀ w' : World, w'.heap = w.heap → (Builtin.firstCells sz es.length x).run P w' = .ok news w'
  rel : ∀ (i j : Nat) (e : List AVal) (d : AVal), es[i]? = some e → e[j]? = some d → ∃ v, news[i * sz + j]? = some v ∧ Rel C w τ H d v
  one : ∀ v ∈ news.toList, v.oneCell' = true
  esz : ∀ e ∈ es, e.length = sz ∧ ∀ d ∈ e, d.isCell = true

theorem cell_of_heap' {w w' : World} (h : w'.heap = w.heap) (b i : Nat) : w'.cell? ⟨b, i, none⟩ = w.cell? ⟨b, i, none⟩ := cell_heap (by rw [h])

/-- Rows of elements in memory as a source. -/
theorem src_of_rows {b base n cap sz : Nat} {es : List (List AVal)} (hn : n = es.length) (hsz : ∀ e ∈ es, e.length = sz)
    (h : ∀ (i j : Nat) (e : List AVal) (d : AVal), es[i]? = some e → e[j]? = some d → d.isCell = true ∧ ∃ v, w.cell? ⟨b, base + (i * sz + j), none⟩ = some v ∧ Rel C w τ H d v) :
    ∃ news, SrcA P C w τ H sz (.slice (some ⟨b, base, none⟩) n cap) es news := by
  subst hn
  have row : ∀ m, m < es.length * sz → ∃ (i j : Nat) (e : List AVal) (d : AVal), m = i * sz + j ∧ j < sz ∧ es[i]? = some e ∧ e[j]? = some d := by
    intro m hm
    have hz : 0 < sz := by
      rcases Nat.eq_zero_or_pos sz with h0 | h0
      · subst h0; omega
      · exact h0
    have h1 : m / sz < es.length := Nat.div_lt_of_lt_mul (by rw [Nat.mul_comm]; exact hm)
    have h2 : m % sz < sz := Nat.mod_lt _ hz
    have he : es[m / sz]? = some es[m / sz] := List.getElem?_eq_getElem h1
    have hl := hsz _ (List.mem_of_getElem? he)
    exact ⟨m / sz, m % sz, _, _, by rw [Nat.mul_comm]; exact (Nat.div_add_mod m sz).symm, h2, he, List.getElem?_eq_getElem (by omega)⟩
  let f : Nat → Value := fun m => (w.cell? ⟨b, base + m, none⟩).getD undef
  have hf : ∀ m, m < es.length * sz → w.cell? ⟨b, base + m, none⟩ = some (f m) := by
    intro m hm
    obtain ⟨i, j, e, d, rfl, _, he, hd⟩ := row m hm
    obtain ⟨_, v, hv, _⟩ := h i j e d he hd
    simp only [f, hv, Option.getD_some]
  refine ⟨((List.range (es.length * sz)).map f).toArray, fun w' => rfl, by simp, fun w' hw' => ?_, fun i j e d he hd => ?_, fun v hv => ?_, fun e he => ⟨hsz e he, fun d hd => ?_⟩⟩
  · have := run_loadCells (P := P) w' ⟨b, base, none⟩ (es.length * sz) f (fun j hj => by rw [addr_add, cell_of_heap' hw']; exact hf j hj)
    simpa [Builtin.firstCells] using this
  · have hi := (List.getElem?_eq_some_iff.1 he).1
    have hj := (List.getElem?_eq_some_iff.1 hd).1
    have hl := hsz _ (List.mem_of_getElem? he)
    have hm : i * sz + j < es.length * sz := by
      have h1 : (i + 1) * sz ≤ es.length * sz := Nat.mul_le_mul_right _ hi
      rw [Nat.add_mul] at h1; omega
    obtain ⟨_, v, hv, hr⟩ := h i j e d he hd
    refine ⟨v, ?_, hr⟩
    simp only [List.getElem?_toArray, List.getElem?_map, List.getElem?_range hm, Option.map_some, f, hv, Option.getD_some]
  · simp only [List.mem_map, List.mem_range] at hv
    obtain ⟨m, hm, rfl⟩ := hv
    obtain ⟨i, j, e, d, rfl, _, he, hd⟩ := row m hm
    obtain ⟨hc, v, hv, hr⟩ := h i j e d he hd
    simp only [f, hv, Option.getD_some]
    exact hr.plain hc
  · obtain ⟨i, hi, rfl⟩ := List.getElem_of_mem he
    obtain ⟨j, hj, rfl⟩ := List.getElem_of_mem hd
    exact (h i j _ _ (List.getElem?_eq_getElem hi) (List.getElem?_eq_getElem hj)).1

theorem src_empty {ad : Option Addr} {cap sz : Nat} : SrcA P C w τ H sz (.slice ad 0 cap) [] #[] :=
  ⟨fun _ => rfl, by simp, fun w' _ => by
    cases ad with
    | none => simp [Builtin.firstCells]
    | some ad => simp [Builtin.firstCells, loadCells, loadCellsFrom], fun i j e d he => by simp at he, fun v hv => by simp at hv, fun e he => by simp at he⟩

theorem src_list {x : Bool} {sz : Nat} {es : List (List AVal)} {u : Value} (h : Rel C w τ H (.list x sz es) u) : ∃ news, SrcA P C w τ H sz u es news := by
  obtain ⟨ad, cap, rfl, hcap, hx, hd⟩ := h.list_inv
  rcases hd with rfl | ⟨b, off, rfl, hC, hsz, vs, hcell, hp, hrd⟩
  · exact ⟨_, src_empty⟩
  · refine src_of_rows rfl hsz fun i j e d he hd => ⟨hp i j e d he hd, vs i j, ?_, .rd (hrd i j e d he hd)⟩
    have hl := hsz _ (List.mem_of_getElem? he)
    rw [← hcell i j (List.getElem?_eq_some_iff.1 he).1 (by have := (List.getElem?_eq_some_iff.1 hd).1; omega), Nat.add_assoc]

theorem src_sl (hw : WF C τ H w) {id ep off len esz : Nat} {es : List (List AVal)} {u : Value} (h : Rel C w τ H (.sl id ep off len) u) (ho : H[id]? = some (.arr esz es)) (hep : ep = es.length) :
    ∃ news, SrcA P C w τ H esz u ((es.drop off).take len) news := by
  obtain ⟨ad, cap, rfl, h1, h2, h3⟩ := h.sl_inv ho hep
  have hlen : ((es.drop off).take len).length = len := by simp; omega
  by_cases hz : len = 0
  · subst hz
    simp only [List.take_zero]
    exact ⟨_, src_empty⟩
  · rcases h3 with ⟨_, hc⟩ | ⟨l, hl, hl2, hl3⟩
    · omega
    · rcases hl3 with hc | rfl
      · omega
      · have get : ∀ i, ((es.drop off).take len)[i]? = if i < len then es[off + i]? else none := by
          intro i
          by_cases hi : i < len
          · rw [if_pos hi, List.getElem?_take_of_lt hi, List.getElem?_drop]
          · rw [if_neg hi, List.getElem?_eq_none (by simp; omega)]
        have hok := hw.ok id _ ho
        refine src_of_rows hlen.symm (fun e he => (hok e (List.mem_of_mem_drop (List.mem_of_mem_take he))).1) fun i j e d he hd => ?_
        rw [get] at he
        split at he
        · have := hw.reads ho hl he j d hd
          obtain ⟨h5, v, h6, h7⟩ := this
          refine ⟨h5, v, ?_, h7⟩
          rw [← h6, Nat.add_mul, Nat.add_assoc]
        · cases he

theorem src_str {s : ByteArray} : SrcA P C w τ H 1 (.string s) (byteCells s.data.toList) (s.data.map fun b => .int .u8 b.toNat) := by
  have hl : (byteCells s.data.toList).length = s.size := by simp [byteCells]
  refine ⟨fun w' => by rw [hl]; rfl, by rw [hl]; simp, fun w' _ => ?_, fun i j e d he hd => ?_, fun v hv => ?_, fun e he => ?_⟩
  · rw [hl]
    have : (s.extract 0 s.size) = s := by
      apply ByteArray.ext
      apply Array.ext'
      rw [Lib.extract_data]
      simp only [List.drop_zero]
      exact List.take_of_length_le (Nat.le_of_eq (Array.length_toList.trans rfl))
    simp [Builtin.firstCells, this]
  · simp only [byteCells, List.getElem?_map, Option.map_eq_some_iff] at he
    obtain ⟨b, hb, rfl⟩ := he
    cases j with
    | zero =>
      simp at hd; subst hd
      have hb' : s.data[i]? = some b := by rw [← Array.getElem?_toList]; exact hb
      exact ⟨.int .u8 b.toNat, by simp [hb'], .rd (.int _ _)⟩
    | succ j => simp at hd
  · simp only [Array.toList_map, List.mem_map] at hv
    obtain ⟨b, _, rfl⟩ := hv
    rfl
  · simp only [byteCells, List.mem_map] at he
    obtain ⟨b, _, rfl⟩ := he
    exact ⟨rfl, fun d hd => by simp at hd; subst hd; rfl⟩

/-- What a value's content is: a source. -/
theorem content_src (hw : WF C τ H w) {sz : Nat} {x : AVal} {u : Value} {k : List (List AVal) → Prop} (hr : Rel C w τ H x u) (h : contentK H sz x k) :
    ∃ es news, k es ∧ SrcA P C w τ H sz u es news := by
  unfold contentK at h
  split at h
  case h_1 => cases hr.nil_inv; exact ⟨[], _, h, src_empty⟩
  case h_2 =>
    simp only [chkA_iff, Nat.beq_eq] at h
    obtain ⟨rfl, h⟩ := h
    obtain ⟨news, hn⟩ := src_list (P := P) hr
    exact ⟨_, news, h, hn⟩
  case h_3 =>
    simp only [objK, idxA_iff] at h
    obtain ⟨ob, hob, h⟩ := h
    split at h
    case h_2 => exact h.elim
    simp only [chkA_iff, Nat.beq_eq] at h
    obtain ⟨rfl, hep, h⟩ := h
    obtain ⟨news, hn⟩ := src_sl (P := P) hw hr hob hep
    exact ⟨_, news, h, hn⟩
  case h_4 =>
    simp only [chkA_iff, Nat.beq_eq] at h
    obtain ⟨rfl, h⟩ := h
    cases hr.str_inv
    exact ⟨_, _, h, src_str⟩
  case h_5 => exact h.elim

theorem bytesOf_cells : ∀ (es : List (List AVal)) (l : List UInt8), bytesOf es = some l → es.length = l.length ∧ ∃ ns : List Int, ns.map (fun n => UInt8.ofNat n.toNat) = l ∧ es = ns.map fun n => [.int .u8 n]
  | [], l, h => by simp only [bytesOf, Option.some.injEq] at h; subst h; exact ⟨rfl, [], rfl, rfl⟩
  | e :: r, l, h => by
    unfold bytesOf at h
    split at h
    · rename_i heq; cases heq
    · rename_i n r' heq
      cases heq
      simp only [Option.map_eq_some_iff] at h
      obtain ⟨l', h', rfl⟩ := h
      obtain ⟨h1, ns, h2, h3⟩ := bytesOf_cells r l' h'
      exact ⟨by simp [h1], n :: ns, by simp [h2], by simp [h3]⟩
    · cases h

theorem foldl_push (ns : List Int) : ∀ (s : ByteArray), (ns.foldl (fun r n => r.push (UInt8.ofNat n.toNat)) s).data.toList = s.data.toList ++ ns.map (fun n => UInt8.ofNat n.toNat) := by
  induction ns with
  | nil => intro s; simp
  | cons n ns ih =>
    intro s
    rw [List.foldl_cons, ih]
    simp [ByteArray.push]

theorem snd_convBS {o : Oper} {s d el : TypeId} {x : Operand} {x' : AOpd} (ho : o.op = .convert s d x) (hx : compOpd x = some x') (h1 : P.underlying s = some (.slice el)) (h2 : P.underlying d = some .string)
    (hb : P.underlying el = some (.int .u8)) (hs : SA E C τ ρ H a w) (h : opA P (.convBS x') ρ H K) : OpRes P ((execOp a.eval o).run P w) (Out E ρ a K) := by
  simp only [opA, evK_eq] at h
  have hr := hs.ev hx
  have run : ∀ ad n cap, a.eval x = .slice ad n cap → (execOp a.eval o).run P w = ((Conv.bytesToString (.slice ad n cap)).run P w).andThen fun v w' => .ok (.value v) w' := by
    intro ad n cap e
    simp only [execOp, ho, e, convert, Sem.run_bind, run_und h1, run_und h2, Result.andThen_ok]
    cases ad <;> simp [run_und hb]
  have main : ∀ v : AVal, Rel C w τ H v (a.eval x) → (∃ ad n cap, a.eval x = .slice ad n cap) → contentK H 1 v (fun es => ∃ l, bytesOf es = some l ∧ K (.str ⟨l.toArray⟩) H) → OpRes P ((execOp a.eval o).run P w) (Out E ρ a K) := by
    rintro v hr ⟨ad, n, cap, e⟩ h
    rw [e] at hr
    obtain ⟨es, news, ⟨l, hl, hk⟩, src⟩ := content_src (P := P) hs.st.wf hr h
    obtain ⟨hlen, ns, hns, hes⟩ := bytesOf_cells es l hl
    rw [run _ _ _ e]
    have hn : n = es.length := by
      have := src.len w
      simp [Builtin.lenOf] at this
      exact this
    have hnews : news = (ns.map (Value.int .u8)).toArray := by
      apply Array.ext'
      apply List.ext_getElem?
      intro i
      have hsz := src.size
      simp only [Nat.mul_one] at hsz
      by_cases hi : i < ns.length
      · have he : es[i]? = some [.int .u8 ns[i]] := by rw [hes, List.getElem?_map, List.getElem?_eq_getElem hi]; rfl
        obtain ⟨u, hu, hru⟩ := src.rel i 0 _ _ he rfl
        simp only [Nat.mul_one, Nat.add_zero] at hu
        cases hru.int_inv
        rw [Array.getElem?_toList, hu]
        simp [hi]
      · have : es.length = ns.length := by rw [hes]; simp
        rw [List.getElem?_eq_none (by simp; omega), List.getElem?_eq_none (by simp; omega)]
    have hfin : Rel C w τ H (.str ⟨l.toArray⟩) (.string (ns.foldl (fun r n => r.push (UInt8.ofNat n.toNat)) ByteArray.empty)) := by
      have : ns.foldl (fun r n => r.push (UInt8.ofNat n.toNat)) ByteArray.empty = ⟨l.toArray⟩ := by
        apply ByteArray.ext
        apply Array.ext'
        rw [foldl_push]
        rw [hns]; rfl
      rw [this]
      exact .rd (.str _)
    cases ad with
    | none =>
      have h0 := src.cells w rfl
      simp [Builtin.firstCells] at h0
      have : ns = [] := by
        rw [hnews] at h0
        simpa using h0
      subst this
      simp only [Conv.bytesToString, Sem.run_pure, Result.andThen_ok, OpRes]
      exact out_same hs hk hfin
    | some ad =>
      have hc := src.cells w rfl
      simp only [Builtin.firstCells, Nat.mul_one] at hc
      rw [hnews, ← hn] at hc
      rw [run_bytesToString w ad n cap ns hc]
      exact out_same hs hk hfin
  split at h
  case h_1 hv =>
    rw [hv] at hr
    rw [run _ _ _ hr.nil_inv]
    simp only [Conv.bytesToString, Sem.run_pure, Result.andThen_ok, OpRes]
    exact out_same hs h (.rd (.str _))
  case h_2 hv =>
    rw [hv] at hr
    obtain ⟨ad, cap, e, _⟩ := hr.list_inv
    exact main _ hr ⟨_, _, _, e⟩ (by rw [hv] at h; exact h)
  case h_3 hv =>
    rw [hv] at hr
    obtain ⟨ad, cap, e⟩ := hr.sl_slice
    exact main _ hr ⟨_, _, _, e⟩ (by rw [hv] at h; exact h)
  case h_4 => exact h.elim
theorem run_isNil {op : BinOp} {t el : TypeId} {ad : Option Addr} {n cap : Nat} (hd : P.underlying t = some (.slice el)) (hop : op = .eql ∨ op = .neq) :
    (binOp op t (.slice ad n cap) (.slice none 0 0)).run P w = .ok (.bool (if decide (op = .neq) then !ad.isNone else ad.isNone)) w := by
  have : (Op.equal t (.slice ad n cap) (.slice none 0 0)).run P w = .ok ad.isNone w := by
    show (Op.equalIn (9999 + 1) t (.slice ad n cap) (.slice none 0 0)).run P w = _
    rw [Op.equalIn]
    cases ad <;> simp only [Sem.run_bind, run_und hd, Result.andThen_ok, Sem.run_pure, Option.isNone_none, Option.isNone_some]
  rcases hop with rfl | rfl <;> simp [binOp, this]

theorem snd_isNil {o : Oper} {op : BinOp} {t u el : TypeId} {x y : Operand} {x' : AOpd} (ho : o.op = .binOp op t x y u) (hx : compOpd x = some x') (hy : isNilA y = true) (hd : P.underlying t = some (.slice el)) (hop : op = .eql ∨ op = .neq)
    (hs : SA E C τ ρ H a w) (h : opA P (.isNil (decide (op = .neq)) x') ρ H K) : OpRes P ((execOp a.eval o).run P w) (Out E ρ a K) := by
  simp only [opA, evK_eq] at h
  have hr := hs.ev hx
  have hyn : y = .const (.slice none 0 0) := by
    unfold isNilA at hy
    split at hy
    · rfl
    · cases hy
  subst hyn
  have fin : ∀ ad n cap (b : Bool), a.eval x = .slice ad n cap → ad.isNone = b → (match decide (op = .neq) with
      | true => K (.bool (!b)) H
      | false => K (.bool b) H) → OpRes P ((execOp a.eval o).run P w) (Out E ρ a K) := by
    intro ad n cap b e hb hk
    have : (execOp a.eval o).run P w = .ok (.value (.bool (if decide (op = .neq) then !ad.isNone else ad.isNone))) w := by
      have e0 : a.eval (.const (.slice none 0 0)) = .slice none 0 0 := rfl
      simp only [execOp, ho, e, e0, Sem.run_bind, run_eqGuard (v := .slice _ _ _) rfl (by simp), Result.andThen_ok, run_isNil hd hop, Sem.run_pure]
    rw [this, hb]
    rcases hop with rfl | rfl <;> exact out_same hs hk (.rd (.bool _))
  unfold nilK at h
  split at h
  case h_1 hv => rw [hv] at hr; exact fin _ _ _ true hr.nil_inv rfl h
  case h_2 hv =>
    rw [hv] at hr
    obtain ⟨ad, cap, e, hcap, hx1, hd1⟩ := hr.list_inv
    rcases hd1 with rfl | ⟨b, off, rfl, _⟩
    · cases ad with
      | none => exact fin _ _ _ true e rfl (h.1 rfl)
      | some ad => exact fin _ _ _ false e rfl h.2
    · exact fin _ _ _ false e rfl h.2
  case h_3 id ep off len hv =>
    rw [hv] at hr
    simp only [objK, idxA_iff] at h
    obtain ⟨ob, hob, h⟩ := h
    split at h
    case h_2 => exact h.elim
    simp only [chkA_iff, Nat.beq_eq] at h
    obtain ⟨hep, h1, h2⟩ := h
    obtain ⟨ad, cap, e, _, h3, h4⟩ := hr.sl_inv hob hep
    cases ad with
    | none =>
      refine fin _ _ _ true e rfl (h1 ?_)
      rcases h4 with ⟨_, h4⟩ | ⟨l, _, _, h4 | h4⟩
      · omega
      · omega
      · cases h4
    | some ad => exact fin _ _ _ false e rfl h2
  case h_4 => exact h.elim
end
end Go.AW
