/-
  The abstract machine's operations are sound. Sixth part: new memory, stores, appends.
  No condition: plain laws over any program.
-/
import Derived.Test.YtikifhfpiahnoaaAwSound5
namespace Go.AW

section
variable {E : Env} {P : Program} {C : Nat → Nat} {τ : Nat → Option Loc} {ρ : List AVal} {H : List AObj} {a : Act} {w : World} {K : AVal → List AObj → Prop}

/-- A new row of elements as an object. 'w1': the world in which it is made, which has w's heap. -/
theorem out_new (hs : SA E C τ ρ H a w) {w1 : World} (e0 : w1.heap = w.heap) (e1 : w1.os = w.os) (e2 : w1.tape = w.tape) (e3 : w1.output = w.output)
    {cells : Array Value} {elem : TypeId} {fz : Nat × Nat} {esz cap : Nat} {es : List (List AVal)} (hsz : cells.size = cap * esz) (hlen : es.length ≤ cap) (hf : fz.1 = fz.2 ∨ cells.size ≤ fz.1)
    (hok : (AObj.arr esz es).ok) (hc : ∀ (i j : Nat) (e : List AVal) (d : AVal), es[i]? = some e → e[j]? = some d → ∃ v, cells[i * esz + j]? = some v ∧ Rel C w τ H d v)
    {v : AVal} {u : Value} (hk : K v (H ++ [.arr esz es]))
    (hu : (∃ fld, v = .ptr H.length es.length 0 fld ∧ u = .pointer (some ⟨w.heap.size, fld, none⟩)) ∨ (v = .sl H.length es.length 0 es.length ∧ u = .slice (some ⟨w.heap.size, 0, none⟩) es.length cap)) :
    Out E ρ a K u (w1.alloc (.cells cells elem fz)) := by
  obtain ⟨st1, s1⟩ := hs.st.same e0 e1 e2 e3
  obtain ⟨st2, s2⟩ := st1.alloc_obj (.cells cells elem fz) (.arr esz es) cap hok fun C' τ' H' w' s hh => by
    refine ⟨hlen, cells, elem, fz, hh, hsz, hf, fun i j e d he hd => ?_⟩
    obtain ⟨x, hx, hr⟩ := hc i j e d he hd
    exact ⟨x, hx, (hr.mono s1).mono s⟩
  rw [e0] at st2 s2
  have ho : (H ++ [AObj.arr esz es])[H.length]? = some (.arr esz es) := by simp
  refine ⟨v, _, _, _, hk, ?_, hs.go st2 (s1.trans s2)⟩
  rcases hu with ⟨fld, rfl, rfl⟩ | ⟨rfl, rfl⟩
  · exact .ptr _ _ _ _ _ _ _ ho (Nat.le_refl _) fun _ => ⟨_, updF_same _ _ _, by simp⟩
  · refine .sl _ _ _ _ _ _ _ _ ho (Nat.le_refl _) fun _ => ⟨by simp, hlen, .inr ⟨_, updF_same _ _ _, by simp, .inr (by simp)⟩⟩

theorem ok_one {cs : List AVal} (h : cs.all AVal.isCell = true) : (AObj.arr cs.length [cs]).ok := by
  intro e he
  simp at he; subst he
  exact ⟨rfl, fun d hd => List.all_eq_true.1 h d hd⟩

/-- A new variable. -/
theorem out_var (hs : SA E C τ ρ H a w) {elem : TypeId} {cs : List AVal} {cells : Array Value} (hl : cs.length = cells.size) (hp : cs.all AVal.isCell = true)
    (hr : ∀ (i : Nat) (c : AVal) (v : Value), cs[i]? = some c → cells[i]? = some v → Rel C w τ H c v) (hk : K (.ptr H.length 1 0 0) (H ++ [.arr cs.length [cs]])) :
    Out E ρ a K (.pointer (some ⟨w.heap.size, 0, none⟩)) (w.alloc (.cells cells elem)) := by
  refine out_new (cap := 1) hs rfl rfl rfl rfl (by omega) (Nat.le_refl _) (.inl rfl) (ok_one hp) (fun i j e d he hd => ?_) hk (.inl ⟨0, rfl, rfl⟩)
  cases i with
  | zero =>
    simp at he; subst he
    have hj := (List.getElem?_eq_some_iff.1 hd).1
    have : cells[j]? = some cells[j] := Array.getElem?_eq_getElem (by omega)
    exact ⟨cells[j], by rw [Nat.zero_mul, Nat.zero_add]; exact this, hr j d _ hd this⟩
  | succ i => simp at he

theorem snd_alloc {o : Oper} {el : TypeId} {zero : List AVal} (ho : o.op = .alloc el) (hz : zeroA P el = some zero) (hs : SA E C τ ρ H a w) (h : opA P (.alloc zero) ρ H K) :
    OpRes P ((execOp a.eval o).run P w) (Out E ρ a K) := by
  simp only [opA, chkA_iff, snocK_eq, Nat.zero_add] at h
  obtain ⟨hp, hk⟩ := h
  obtain ⟨i, z, hi, hz1, hz2, rfl⟩ := zero_parts hz
  have : (execOp a.eval o).run P w = .ok (.value (.pointer (some ⟨w.heap.size, 0, none⟩))) (w.alloc (.cells z.cells el)) := by
    simp [execOp, ho, Instr.alloc, zeroValue, run_info hi, hz1, newVar, newRow]
  rw [this]
  refine out_var hs (by simp) hp (fun i c v hc hv => ?_) hk
  rw [List.getElem?_map, Array.getElem?_toList, hv] at hc
  cases hc
  exact rd_ofCell v

theorem snd_box {o : Oper} {el : TypeId} {x : Operand} {x' : AOpd} (ho : o.op = .box el x) (hx : compOpd x = some x') (hs : SA E C τ ρ H a w) (h : opA P (.box x') ρ H K) :
    OpRes P ((execOp a.eval o).run P w) (Out E ρ a K) := by
  simp only [opA, evK_eq] at h
  have hr := hs.ev hx
  split at h
  case h_2 => exact h.elim
  rename_i cs hcs
  simp only [chkA_iff, snocK_eq, Nat.zero_add] at h
  obtain ⟨hp, hk⟩ := h
  have hcell := hr.cells hcs
  have : (execOp a.eval o).run P w = .ok (.value (.pointer (some ⟨w.heap.size, 0, none⟩))) (w.alloc (.cells (a.eval x).cells el)) := by
    simp [execOp, ho, Instr.box, newVar, newRow]
  rw [this]
  exact out_var hs hcell.1 hp hcell.2 hk

/-- Elements made of zero values. -/
theorem zero_rows {zero : List AVal} {z : Array Value} (hl : zero.length = z.size) (hr : ∀ (i : Nat) (c : AVal) (v : Value), zero[i]? = some c → z[i]? = some v → Rel C w τ H c v) (n m : Nat) (hm : n ≤ m) :
    ∀ (i j : Nat) (e : List AVal) (d : AVal), (List.replicate n zero)[i]? = some e → e[j]? = some d →
      ∃ v, ((Array.range (m * z.size)).map (z[· % z.size]!))[i * z.size + j]? = some v ∧ Rel C w τ H d v := by
  intro i j e d he hd
  have hi : i < n := by have := (List.getElem?_eq_some_iff.1 he).1; simpa using this
  rw [List.getElem?_replicate] at he
  simp only [hi, if_true, Option.some.injEq] at he
  subst he
  have hj := (List.getElem?_eq_some_iff.1 hd).1
  have hlt : i * z.size + j < m * z.size := by
    have h1 : (i + 1) * z.size ≤ m * z.size := Nat.mul_le_mul_right _ (by omega)
    rw [Nat.add_mul] at h1
    omega
  have hmod : (i * z.size + j) % z.size = j := by
    rw [Nat.add_comm, Nat.add_mul_mod_self_right]
    exact Nat.mod_eq_of_lt (by omega)
  have hz : z[j]? = some z[j] := Array.getElem?_eq_getElem (by omega)
  refine ⟨z[j], ?_, hr j d _ hd hz⟩
  have hk : ((Array.range (m * z.size)).map (z[· % z.size]!))[i * z.size + j]? = some (z[(i * z.size + j) % z.size]!) := by simp [hlt]
  rw [hk, hmod, getElem!_pos z j (by omega)]

theorem zero_rel {P : Program} {el : TypeId} {zero : List AVal} (hz : zeroA P el = some zero) : ∃ i z, P.info? el = some i ∧ i.zero = some z ∧ zero.length = z.cells.size ∧ z.cells.size = i.size ∧
    ∀ (i : Nat) (c : AVal) (v : Value), zero[i]? = some c → z.cells[i]? = some v → Rel C w τ H c v := by
  obtain ⟨i, z, hi, hz1, hz2, rfl⟩ := zero_parts hz
  refine ⟨i, z, hi, hz1, by simp, hz2, fun i c v hc hv => ?_⟩
  rw [List.getElem?_map, Array.getElem?_toList, hv] at hc
  cases hc
  exact rd_ofCell v

theorem ok_replicate {zero : List AVal} {n : Nat} (h : zero.all AVal.isCell = true) : (AObj.arr zero.length (List.replicate n zero)).ok := by
  intro e he
  have := (List.mem_replicate.1 he).2
  subst this
  exact ⟨rfl, fun d hd => List.all_eq_true.1 h d hd⟩

theorem wrap_i64_id {n : Int} (h1 : -9223372036854775808 ≤ n) (h2 : n ≤ 9223372036854775807) : IntKind.i64.wrap n = n := by
  rw [IntKind.wrap_i64]; omega

theorem roomB_val : roomB = 1099511627776 := by decide

theorem snd_mkSlice {o : Oper} {t el : TypeId} {l c : Operand} {l' c' : AOpd} {zero : List AVal} {sz bytes : Nat} (ho : o.op = .makeSlice t l c) (hl : compOpd l = some l') (hc : compOpd c = some c') (he : elemA? P t = some el)
    (hsz : sizeA P el = some sz) (hby : bytesA P el = some bytes) (hz : zeroA P el = some zero) (hs : SA E C τ ρ H a w) (h : opA P (.mkSlice sz bytes zero l' c') ρ H K) :
    OpRes P ((execOp a.eval o).run P w) (Out E ρ a K) := by
  simp only [opA, evK_eq] at h
  have hrl := hs.ev hl
  have hrc := hs.ev hc
  split at h
  case h_2 => exact h.elim
  rename_i k n k2 m e1 e2
  rw [e1] at hrl
  rw [e2] at hrc
  simp only [chkA_iff, snocK_eq, Nat.zero_add, Bool.and_eq_true, decide_eq_true_eq] at h
  obtain ⟨⟨h0, hnm, hb1, hb2⟩, ⟨hzl, hzc⟩, hk⟩ := h
  obtain ⟨i, z, hi, hz1, hzs, hzi, hzr⟩ := zero_rel (C := C) (w := w) (τ := τ) (H := H) hz
  have hbi : i.bytes = bytes := by
    unfold bytesA at hby; rw [hi] at hby; simpa using hby
  have hsi : i.size = sz := by
    unfold sizeA at hsz; rw [hi] at hsz; simpa using hsz
  rw [roomB_val] at hb1 hb2
  obtain ⟨nn, rfl⟩ := Int.eq_ofNat_of_zero_le h0
  obtain ⟨mm, rfl⟩ := Int.eq_ofNat_of_zero_le (by omega : 0 ≤ m)
  have w1 : IntKind.i64.wrap (nn : Int) = nn := wrap_i64_id (by omega) (by omega)
  have w2 : IntKind.i64.wrap (mm : Int) = mm := wrap_i64_id (by omega) (by omega)
  have t1 : ∀ q : Nat, (q : Int) ≤ mm → ((decide ((q : Int) < 0)) || decide ((bytes : Int) * q > 2 ^ 48)) = false := by
    intro q hq
    have h2 : (bytes : Int) * q ≤ (bytes : Int) * mm := Int.mul_le_mul_of_nonneg_left hq (by omega)
    have h3 : (mm : Int) * bytes = bytes * mm := Int.mul_comm _ _
    simp only [Bool.or_eq_false_iff, decide_eq_false_iff_not]
    omega
  have run : (execOp a.eval o).run P w = .ok (.value (.slice (some ⟨w.heap.size, 0, none⟩) nn mm)) (w.alloc (.cells ((Array.range (mm * z.cells.size)).map (z.cells[· % z.cells.size]!)) el)) := by
    have hcond : ((((decide ((mm : Int) < 0)) || decide ((bytes : Int) * mm > 2 ^ 48)) || decide ((nn : Int) < 0)) || decide ((nn : Int) > mm)) = false := by
      rw [t1 mm (Int.le_refl _)]
      simp only [Bool.false_or, Bool.or_eq_false_iff, decide_eq_false_iff_not]
      omega
    have : (Instr.makeSlice t (.int k nn) (.int k2 mm)).run P w = .ok (.slice (some ⟨w.heap.size, 0, none⟩) nn mm) (w.alloc (.cells ((Array.range (mm * z.cells.size)).map (z.cells[· % z.cells.size]!)) el)) := by
      unfold Instr.makeSlice
      simp only [Sem.run_bind, run_und (elem_und he), Result.andThen_ok, asInt, asIntOf, Sem.run_pure, run_info hi, w1, w2, hbi, hcond, Bool.false_eq_true, if_false, run_askRoom, Int.toNat_natCast, run_size hsz]
      rw [hzi, hsi]
      by_cases hq : mm * sz = 0
      · have hr0 : Array.range 0 = #[] := rfl
        simp only [hq, if_true, Sem.run_pure, Result.andThen_ok, newRow, Sem.run_bind, run_newObj, hr0, Array.map_empty]
        rfl
      · simp only [hq, if_false, Sem.run_bind, zeroValue, run_info hi, Result.andThen_ok, hz1, Sem.run_pure, newRow, run_newObj, hzi, hsi]
        rfl
    simp only [execOp, ho, hrl.int_inv, hrc.int_inv, Sem.run_bind, this, Result.andThen_ok, Sem.run_pure]
  rw [run]
  have hsz' : sz = z.cells.size := by omega
  have hlen : (List.replicate nn zero).length = nn := by simp
  refine out_new (cap := mm) (esz := zero.length) (es := List.replicate nn zero) hs rfl rfl rfl rfl (by rw [hzs]; simp) (by rw [hlen]; omega) (.inl rfl) (ok_replicate hzc) ?_ (v := .sl H.length nn 0 nn) ?_ (.inr ⟨by rw [hlen], by rw [hlen]⟩)
  · rw [hzs]
    exact zero_rows hzs hzr nn mm (by omega)
  · rw [hzl]
    simpa using hk
end
end Go.AW
