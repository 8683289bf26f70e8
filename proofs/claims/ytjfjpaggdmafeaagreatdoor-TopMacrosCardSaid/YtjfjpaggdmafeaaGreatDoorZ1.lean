/-
  An abstract machine over the model, the code of functions on it, and their contracts: what the claim needs.
  No condition: definitions, plain laws, contracts over any program that has this code.
-/
import Derived.Test.YtjfjpaggdmafeaaGreatDoorZ0
set_option linter.all false
namespace Go.AW
variable [Draws]
section
variable {E : Env} {P : Program} {C : Nat → Nat} {τ : Nat → Option Loc} {ρ : List AVal} {H : List AObj} {a : Act} {w : World} {K : AVal → List AObj → Prop}
theorem out_new (hs : SA E C τ ρ H a w) {w1 : World} (e0 : w1.heap = w.heap) (e1 : w1.os = w.os) (e2 : w1.tape = w.tape) (e3 : w1.output = w.output)
  (ed : w.drawn ≤ w1.drawn)
  {cells : Array Value} {elem : TypeId} {fz : Nat × Nat} {esz cap : Nat} {es : List (List AVal)} (hsz : cells.size = cap * esz) (hlen : es.length ≤ cap) (hf : fz.1 = fz.2 ∨ cells.size ≤ fz.1)
  (hok : (AObj.arr esz es).ok) (hc : ∀ (i j : Nat) (e : List AVal) (d : AVal), es[i]? = some e → e[j]? = some d → ∃ v, cells[i * esz + j]? = some v ∧ Rel C w τ H d v)
  {v : AVal} {u : Value} (hk : K v (H ++ [.arr esz es]))
  (hu : (∃ fld, v = .ptr H.length es.length 0 fld ∧ u = .pointer (some ⟨w.heap.size, fld, none⟩)) ∨ (v = .sl H.length es.length 0 es.length ∧ u = .slice (some ⟨w.heap.size, 0, none⟩) es.length cap)
   ∨ ∃ n, n ≤ cap ∧ cap = es.length ∧ v = .slc H.length es.length 0 n cap ∧ u = .slice (some ⟨w.heap.size, 0, none⟩) n cap) :
  Out E ρ a K u (w1.alloc (.cells cells elem fz)) := by
 obtain ⟨st1, s1⟩ := hs.st.same e0 e1 e2 e3 ed
 obtain ⟨st2, s2⟩ := st1.alloc_obj (.cells cells elem fz) (.arr esz es) cap hok fun C' τ' H' w' s hh => by
  refine ⟨hlen, cells, elem, fz, hh, hsz, hf, fun i j e d he hd => ?_⟩
  obtain ⟨x, hx, hr⟩ := hc i j e d he hd
  exact ⟨x, hx, (hr.mono s1).mono s⟩
 rw [e0] at st2 s2
 have ho : (H ++ [AObj.arr esz es])[H.length]? = some (.arr esz es) := by simp
 refine ⟨v, _, _, _, hk, ?_, hs.go st2 (s1.trans s2)⟩
 rcases hu with ⟨fld, rfl, rfl⟩ | ⟨rfl, rfl⟩ | ⟨n, hn, hc, rfl, rfl⟩
 rotate_left 2
 ·exact .slc _ _ _ _ _ _ _ _ ho (Nat.le_refl _) fun _ => ⟨by omega, hn, _, updF_same _ _ _, .inr (by simp)⟩
 ·exact .ptr _ _ _ _ _ _ _ ho (Nat.le_refl _) fun _ => ⟨_, updF_same _ _ _, by simp⟩
 ·refine .sl _ _ _ _ _ _ _ _ ho (Nat.le_refl _) fun _ => ⟨by simp, hlen, .inr ⟨_, updF_same _ _ _, by simp, .inr (by simp)⟩⟩
theorem ok_one {cs : List AVal} (h : cs.all AVal.isCell = true) : (AObj.arr cs.length [cs]).ok := by
 intro e he
 simp at he; subst he
 exact ⟨rfl, fun d hd => List.all_eq_true.1 h d hd⟩
theorem out_var (hs : SA E C τ ρ H a w) {elem : TypeId} {cs : List AVal} {cells : Array Value} (hl : cs.length = cells.size) (hp : cs.all AVal.isCell = true)
  (hr : ∀ (i : Nat) (c : AVal) (v : Value), cs[i]? = some c → cells[i]? = some v → Rel C w τ H c v) (hk : K (.ptr H.length 1 0 0) (H ++ [.arr cs.length [cs]])) :
  Out E ρ a K (.pointer (some ⟨w.heap.size, 0, none⟩)) (w.alloc (.cells cells elem)) := by
 refine out_new (cap := 1) hs rfl rfl rfl rfl (Nat.le_refl _) (by omega) (Nat.le_refl _) (.inl rfl) (ok_one hp) (fun i j e d he hd => ?_) hk (.inl ⟨0, rfl, rfl⟩)
 cases i with
 | zero =>
  simp at he; subst he
  have hj := (List.getElem?_eq_some_iff.1 hd).1
  have : cells[j]? = some cells[j] := Array.getElem?_eq_getElem (by omega)
  exact ⟨cells[j], by rw [Nat.zero_mul, Nat.zero_add]; exact this, hr j d _ hd this⟩
 | succ i => simp at he
theorem snd_alloc {o : Oper} {el : TypeId} {zero : List AVal} (ho : o.op = .alloc el) (hz : zeroA P el = some zero) (hs : SA E C τ ρ H a w) (h : opA P (.alloc zero) ρ H K) :
  OpRes P ((execOp a.eval o).run P w) (Out E ρ a K) := by
 simp only [opA, chkA_iff, snocK_eq, Nat.zero_add] at h
 obtain ⟨hp, hk⟩ := h
 obtain ⟨i, z, hi, hz1, hz2, rfl⟩ := zero_parts hz
 have : (execOp a.eval o).run P w = .ok (.value (.pointer (some ⟨w.heap.size, 0, none⟩))) (w.alloc (.cells z.cells el)) := by
  simp [execOp, ho, Instr.alloc, zeroValue, run_info hi, hz1, newVar, newRow]
 rw [this]
 refine out_var hs (by simp) hp (fun i c v hc hv => ?_) hk
 rw [List.getElem?_map, Array.getElem?_toList, hv] at hc
 cases hc
 exact rd_ofCell v
theorem snd_box {o : Oper} {el : TypeId} {x : Operand} {x' : AOpd} (ho : o.op = .box el x) (hx : compOpd x = some x') (hs : SA E C τ ρ H a w) (h : opA P (.box x') ρ H K) :
  OpRes P ((execOp a.eval o).run P w) (Out E ρ a K) := by
 simp only [opA, evK_eq] at h
 have hr := hs.ev hx
 split at h
 case h_2 => exact h.elim
 rename_i cs hcs
 simp only [chkA_iff, snocK_eq, Nat.zero_add] at h
 obtain ⟨hp, hk⟩ := h
 have hcell := hr.cells hcs
 have : (execOp a.eval o).run P w = .ok (.value (.pointer (some ⟨w.heap.size, 0, none⟩))) (w.alloc (.cells (a.eval x).cells el)) := by
  simp [execOp, ho, Instr.box, newVar, newRow]
 rw [this]
 exact out_var hs hcell.1 hp hcell.2 hk
theorem zero_rows {zero : List AVal} {z : Array Value} (hl : zero.length = z.size) (hr : ∀ (i : Nat) (c : AVal) (v : Value), zero[i]? = some c → z[i]? = some v → Rel C w τ H c v) (n m : Nat) (hm : n ≤ m) :
  ∀ (i j : Nat) (e : List AVal) (d : AVal), (List.replicate n zero)[i]? = some e → e[j]? = some d →
   ∃ v, ((Array.range (m * z.size)).map (z[· % z.size]!))[i * z.size + j]? = some v ∧ Rel C w τ H d v := by
 intro i j e d he hd
 have hi : i < n := by have := (List.getElem?_eq_some_iff.1 he).1; simpa using this
 rw [List.getElem?_replicate] at he
 simp only [hi, if_true, Option.some.injEq] at he
 subst he
 have hj := (List.getElem?_eq_some_iff.1 hd).1
 have hlt : i * z.size + j < m * z.size := by
  have h1 : (i + 1) * z.size ≤ m * z.size := Nat.mul_le_mul_right _ (by omega)
  rw [Nat.add_mul] at h1
  omega
 have hmod : (i * z.size + j) % z.size = j := by
  rw [Nat.add_comm, Nat.add_mul_mod_self_right]
  exact Nat.mod_eq_of_lt (by omega)
 have hz : z[j]? = some z[j] := Array.getElem?_eq_getElem (by omega)
 refine ⟨z[j], ?_, hr j d _ hd hz⟩
 have hk : ((Array.range (m * z.size)).map (z[· % z.size]!))[i * z.size + j]? = some (z[(i * z.size + j) % z.size]!) := by simp [hlt]
 rw [hk, hmod, getElem!_pos z j (by omega)]
theorem zero_rel {P : Program} {el : TypeId} {zero : List AVal} (hz : zeroA P el = some zero) : ∃ i z, P.info? el = some i ∧ i.zero = some z ∧ zero.length = z.cells.size ∧ z.cells.size = i.size ∧
  ∀ (i : Nat) (c : AVal) (v : Value), zero[i]? = some c → z.cells[i]? = some v → Rel C w τ H c v := by
 obtain ⟨i, z, hi, hz1, hz2, rfl⟩ := zero_parts hz
 refine ⟨i, z, hi, hz1, by simp, hz2, fun i c v hc hv => ?_⟩
 rw [List.getElem?_map, Array.getElem?_toList, hv] at hc
 cases hc
 exact rd_ofCell v
theorem ok_replicate {zero : List AVal} {n : Nat} (h : zero.all AVal.isCell = true) : (AObj.arr zero.length (List.replicate n zero)).ok := by
 intro e he
 have := (List.mem_replicate.1 he).2
 subst this
 exact ⟨rfl, fun d hd => List.all_eq_true.1 h d hd⟩
theorem wrap_i64_id {n : Int} (h1 : -9223372036854775808 ≤ n) (h2 : n ≤ 9223372036854775807) : IntKind.i64.wrap n = n := by
 rw [IntKind.wrap_i64]; omega
theorem roomB_val : roomB = 1099511627776 := by decide
theorem snd_mkSlice {o : Oper} {t el : TypeId} {l c : Operand} {l' c' : AOpd} {zero : List AVal} {sz bytes : Nat} (ho : o.op = .makeSlice t l c) (hl : compOpd l = some l') (hc : compOpd c = some c') (he : elemA? P t = some el)
  (hsz : sizeA P el = some sz) (hby : bytesA P el = some bytes) (hz : zeroA P el = some zero) (hs : SA E C τ ρ H a w) (h : opA P (.mkSlice sz bytes zero l' c') ρ H K) :
  OpRes P ((execOp a.eval o).run P w) (Out E ρ a K) := by
 simp only [opA, evK_eq] at h
 have hrl := hs.ev hl
 have hrc := hs.ev hc
 split at h
 case h_2 => exact h.elim
 rename_i k n k2 m e1 e2
 rw [e1] at hrl
 rw [e2] at hrc
 simp only [chkA_iff, snocK_eq, Nat.zero_add, Bool.and_eq_true, decide_eq_true_eq] at h
 obtain ⟨⟨h0, hnm, hb1, hb2⟩, ⟨hzl, hzc⟩, hk⟩ := h
 obtain ⟨i, z, hi, hz1, hzs, hzi, hzr⟩ := zero_rel (C := C) (w := w) (τ := τ) (H := H) hz
 have hbi : i.bytes = bytes := by
  unfold bytesA at hby; rw [hi] at hby; simpa using hby
 have hsi : i.size = sz := by
  unfold sizeA at hsz; rw [hi] at hsz; simpa using hsz
 rw [roomB_val] at hb1 hb2
 obtain ⟨nn, rfl⟩ := Int.eq_ofNat_of_zero_le h0
 obtain ⟨mm, rfl⟩ := Int.eq_ofNat_of_zero_le (by omega : 0 ≤ m)
 have w1 : IntKind.i64.wrap (nn : Int) = nn := wrap_i64_id (by omega) (by omega)
 have w2 : IntKind.i64.wrap (mm : Int) = mm := wrap_i64_id (by omega) (by omega)
 have t1 : ∀ q : Nat, (q : Int) ≤ mm → ((decide ((q : Int) < 0)) || decide ((bytes : Int) * q > 2 ^ 48)) = false := by
  intro q hq
  have h2 : (bytes : Int) * q ≤ (bytes : Int) * mm := Int.mul_le_mul_of_nonneg_left hq (by omega)
  have h3 : (mm : Int) * bytes = bytes * mm := Int.mul_comm _ _
  simp only [Bool.or_eq_false_iff, decide_eq_false_iff_not]
  omega
 have run : (execOp a.eval o).run P w = .ok (.value (.slice (some ⟨w.heap.size, 0, none⟩) nn mm)) (w.alloc (.cells ((Array.range (mm * z.cells.size)).map (z.cells[· % z.cells.size]!)) el)) := by
  have hcond : ((((decide ((mm : Int) < 0)) || decide ((bytes : Int) * mm > 2 ^ 48)) || decide ((nn : Int) < 0)) || decide ((nn : Int) > mm)) = false := by
   rw [t1 mm (Int.le_refl _)]
   simp only [Bool.false_or, Bool.or_eq_false_iff, decide_eq_false_iff_not]
   omega
  have : (Instr.makeSlice t (.int k nn) (.int k2 mm)).run P w = .ok (.slice (some ⟨w.heap.size, 0, none⟩) nn mm) (w.alloc (.cells ((Array.range (mm * z.cells.size)).map (z.cells[· % z.cells.size]!)) el)) := by
   unfold Instr.makeSlice
   simp only [Sem.run_bind, run_und (elem_und he), Result.andThen_ok, asInt, asIntOf, Sem.run_pure, run_info hi, w1, w2, hbi, hcond, Bool.false_eq_true, if_false, run_askRoom, Int.toNat_natCast, run_size hsz]
   rw [hzi, hsi]
   by_cases hq : mm * sz = 0
   ·have hr0 : Array.range 0 = #[] := rfl
    simp only [hq, if_true, Sem.run_pure, Result.andThen_ok, newRow, Sem.run_bind, run_newObj, hr0, Array.map_empty]
    rfl
   ·simp only [hq, if_false, Sem.run_bind, zeroValue, run_info hi, Result.andThen_ok, hz1, Sem.run_pure, newRow, run_newObj, hzi, hsi]
    rfl
  simp only [execOp, ho, hrl.int_inv, hrc.int_inv, Sem.run_bind, this, Result.andThen_ok, Sem.run_pure]
 rw [run]
 have hsz' : sz = z.cells.size := by omega
 have hlen : (List.replicate nn zero).length = nn := by simp
 refine out_new (cap := mm) (esz := zero.length) (es := List.replicate nn zero) hs rfl rfl rfl rfl (Nat.le_refl _) (by rw [hzs]; simp) (by rw [hlen]; omega) (.inl rfl) (ok_replicate hzc) ?_ (v := .sl H.length nn 0 nn) ?_ (.inr (.inl ⟨by rw [hlen], by rw [hlen]⟩))
 ·rw [hzs]
  exact zero_rows hzs hzr nn mm (by omega)
 ·rw [hzl]
  simpa using hk
theorem snd_mkSliceC {o : Oper} {t el : TypeId} {l c : Operand} {l' c' : AOpd} {zero : List AVal} {sz bytes : Nat} (ho : o.op = .makeSlice t l c) (hl : compOpd l = some l') (hc : compOpd c = some c') (he : elemA? P t = some el)
  (hsz : sizeA P el = some sz) (hby : bytesA P el = some bytes) (hz : zeroA P el = some zero) (hs : SA E C τ ρ H a w) (h : opA P (.mkSliceC sz bytes zero l' c') ρ H K) :
  OpRes P ((execOp a.eval o).run P w) (Out E ρ a K) := by
 simp only [opA, evK_eq] at h
 have hrl := hs.ev hl
 have hrc := hs.ev hc
 split at h
 case h_2 => exact h.elim
 rename_i k n k2 m e1 e2
 rw [e1] at hrl
 rw [e2] at hrc
 simp only [chkA_iff, snocK_eq, Nat.zero_add, Bool.and_eq_true, decide_eq_true_eq] at h
 obtain ⟨⟨h0, hnm, hb1, hb2⟩, ⟨hzl, hzc⟩, hk⟩ := h
 obtain ⟨i, z, hi, hz1, hzs, hzi, hzr⟩ := zero_rel (C := C) (w := w) (τ := τ) (H := H) hz
 have hbi : i.bytes = bytes := by
  unfold bytesA at hby; rw [hi] at hby; simpa using hby
 have hsi : i.size = sz := by
  unfold sizeA at hsz; rw [hi] at hsz; simpa using hsz
 rw [roomB_val] at hb1 hb2
 obtain ⟨nn, rfl⟩ := Int.eq_ofNat_of_zero_le h0
 obtain ⟨mm, rfl⟩ := Int.eq_ofNat_of_zero_le (by omega : 0 ≤ m)
 have w1 : IntKind.i64.wrap (nn : Int) = nn := wrap_i64_id (by omega) (by omega)
 have w2 : IntKind.i64.wrap (mm : Int) = mm := wrap_i64_id (by omega) (by omega)
 have t1 : ∀ q : Nat, (q : Int) ≤ mm → ((decide ((q : Int) < 0)) || decide ((bytes : Int) * q > 2 ^ 48)) = false := by
  intro q hq
  have h2 : (bytes : Int) * q ≤ (bytes : Int) * mm := Int.mul_le_mul_of_nonneg_left hq (by omega)
  have h3 : (mm : Int) * bytes = bytes * mm := Int.mul_comm _ _
  simp only [Bool.or_eq_false_iff, decide_eq_false_iff_not]
  omega
 have run : (execOp a.eval o).run P w = .ok (.value (.slice (some ⟨w.heap.size, 0, none⟩) nn mm)) (w.alloc (.cells ((Array.range (mm * z.cells.size)).map (z.cells[· % z.cells.size]!)) el)) := by
  have hcond : ((((decide ((mm : Int) < 0)) || decide ((bytes : Int) * mm > 2 ^ 48)) || decide ((nn : Int) < 0)) || decide ((nn : Int) > mm)) = false := by
   rw [t1 mm (Int.le_refl _)]
   simp only [Bool.false_or, Bool.or_eq_false_iff, decide_eq_false_iff_not]
   omega
  have : (Instr.makeSlice t (.int k nn) (.int k2 mm)).run P w = .ok (.slice (some ⟨w.heap.size, 0, none⟩) nn mm) (w.alloc (.cells ((Array.range (mm * z.cells.size)).map (z.cells[· % z.cells.size]!)) el)) := by
   unfold Instr.makeSlice
   simp only [Sem.run_bind, run_und (elem_und he), Result.andThen_ok, asInt, asIntOf, Sem.run_pure, run_info hi, w1, w2, hbi, hcond, Bool.false_eq_true, if_false, run_askRoom, Int.toNat_natCast, run_size hsz]
   rw [hzi, hsi]
   by_cases hq : mm * sz = 0
   ·have hr0 : Array.range 0 = #[] := rfl
    simp only [hq, if_true, Sem.run_pure, Result.andThen_ok, newRow, Sem.run_bind, run_newObj, hr0, Array.map_empty]
    rfl
   ·simp only [hq, if_false, Sem.run_bind, zeroValue, run_info hi, Result.andThen_ok, hz1, Sem.run_pure, newRow, run_newObj, hzi, hsi]
    rfl
  simp only [execOp, ho, hrl.int_inv, hrc.int_inv, Sem.run_bind, this, Result.andThen_ok, Sem.run_pure]
 rw [run]
 have hsz' : sz = z.cells.size := by omega
 have hlen : (List.replicate mm zero).length = mm := by simp
 refine out_new (cap := mm) (esz := zero.length) (es := List.replicate mm zero) hs rfl rfl rfl rfl (Nat.le_refl _) (by rw [hzs]; simp) (by rw [hlen]; exact Nat.le_refl _) (.inl rfl) (ok_replicate hzc) ?_ (v := .slc H.length mm 0 nn mm) ?_ (.inr (.inr ⟨nn, by omega, hlen.symm, by rw [hlen], rfl⟩))
 ·rw [hzs]
  exact zero_rows hzs hzr mm mm (Nat.le_refl _)
 ·rw [hzl]
  simpa using hk
end
section
variable {E : Env} {P : Program} {C : Nat → Nat} {τ : Nat → Option Loc} {ρ : List AVal} {H : List AObj} {a : Act} {w : World} {K : AVal → List AObj → Prop}
theorem setT_getElem? : ∀ (l : List AVal) (n : Nat) (v : AVal) (i : Nat), (setT l n v)[i]? = if i = n ∧ n < l.length then some v else l[i]?
 | [], n, v, i => by simp [setT]
 | x :: xs, 0, v, i => by cases i <;> simp [setT]
 | x :: xs, n + 1, v, i => by
  cases i with
  | zero => simp [setT]
  | succ i => simp [setT, setT_getElem? xs n v i]
theorem length_putCells : ∀ (vs : List AVal) (l : List AVal) (i : Nat), (putCells l i vs).length = l.length
 | [], _, _ => rfl
 | v :: vs, l, i => by rw [putCells, length_putCells vs, length_setT]
theorem putCells_getElem? : ∀ (vs : List AVal) (l : List AVal) (i : Nat), i + vs.length ≤ l.length → ∀ k, (putCells l i vs)[k]? = if i ≤ k ∧ k < i + vs.length then vs[k - i]? else l[k]?
 | [], l, i, _, k => by
  rw [if_neg (by simp only [List.length_nil]; omega)]; rfl
 | v :: vs, l, i, h, k => by
  simp only [List.length_cons] at h
  rw [putCells, putCells_getElem? vs (setT l i v) (i + 1) (by rw [length_setT]; omega) k]
  simp only [List.length_cons]
  by_cases h1 : i + 1 ≤ k ∧ k < i + 1 + vs.length
  ·rw [if_pos h1, if_pos (by omega)]
   obtain ⟨m, hm⟩ : ∃ m, k - i = m + 1 := ⟨k - i - 1, by omega⟩
   rw [hm, show k - (i + 1) = m from by omega]; rfl
  ·rw [if_neg h1, setT_getElem?]
   by_cases h2 : k = i
   ·subst h2
    rw [if_pos ⟨rfl, by omega⟩, if_pos (by omega)]; simp
   ·rw [if_neg (fun e => h2 e.1), if_neg (by omega)]
theorem mul_lt_rows {i j s n : Nat} (hi : i < n) (hj : j < s) : i * s + j < n * s := by
 have h1 : (i + 1) * s ≤ n * s := Nat.mul_le_mul_right _ hi
 rw [Nat.add_mul] at h1; omega
theorem rows_inj {i j i' j' s : Nat} (hj : j < s) (hj' : j' < s) (h : i * s + j = i' * s + j') : i = i' ∧ j = j' := by
 have h1 : (i * s + j) / s = i := by
  rw [Nat.mul_comm, Nat.mul_add_div (by omega), Nat.div_eq_of_lt hj]; rfl
 have h2 : (i' * s + j') / s = i' := by
  rw [Nat.mul_comm, Nat.mul_add_div (by omega), Nat.div_eq_of_lt hj']; rfl
 rw [h] at h1
 have e : i = i' := h1.symm.trans h2
 subst e
 exact ⟨rfl, by omega⟩
theorem snd_store {o : Oper} {t : TypeId} {x y : Operand} {x' y' : AOpd} {sz : Nat} (ho : o.op = .store t x y) (hx : compOpd x = some x') (hy : compOpd y = some y') (hsz : sizeA P t = some sz)
  (hs : SA E C τ ρ H a w) (h : opA P (.store sz x' y') ρ H K) : OpRes P ((execOp a.eval o).run P w) (Out E ρ a K) := by
 simp only [opA, evK_eq] at h
 have hrx := hs.ev hx
 have hry := hs.ev hy
 split at h
 case h_2 => exact h.elim
 rename_i id ep idx fld hv
 rw [hv] at hrx
 split at h
 case h_2 => exact h.elim
 rename_i cs hcs
 simp only [objK, idxA_iff] at h
 obtain ⟨ob, hob, h⟩ := h
 split at h
 case h_2 => exact h.elim
 rename_i esz es
 simp only [elemA_iff, chkA_iff, Bool.and_eq_true, decide_eq_true_eq, setO_eq, setEs_eq] at h
 obtain ⟨hep, e, he, ⟨⟨hcl, hfl⟩, hp⟩, hk⟩ := h
 have hk := forceK_mono hk
 obtain ⟨hl2, hcr⟩ := hry.cells hcs
 obtain ⟨l, hl1, hu⟩ := hrx.ptr_inv hob hep
 obtain ⟨hroom, cells, elem, fz, h1, h2, h3, h4⟩ := hs.st.wf.objs id _ l hob hl1
 have hok := hs.st.wf.ok id _ hob
 have hee := (hok e (List.mem_of_getElem? he)).1
 have hidx := (List.getElem?_eq_some_iff.1 he).1
 have hbound : idx * esz + e.length ≤ cells.size := by
  rw [h2, hee]
  have := Nat.mul_le_mul_right esz (show idx + 1 ≤ l.cap by omega)
  rw [Nat.add_mul] at this
  omega
 obtain ⟨w', cur', q1, q2, q3, q4, qd, q5, q6, q7, q8, q9⟩ := run_storeCells_blk (P := P) l.b (idx * esz + fld) elem fz (a.eval y).cells.toList 0 cells w h1 (by simp; omega) h3 (rel_cellsPlain hl2 hcr hp)
 have run : (execOp a.eval o).run P w = .ok .skip w' := by
  have hne : ¬ ((a.eval y).cells.size ≠ sz) := by omega
  simp only [execOp, ho, hu, Instr.storeAt, Instr.sureAddr, storeVar, Sem.run_bind, Sem.run_pure, Result.andThen_ok, run_size hsz, if_neg hne, q1]
 rw [run]
 have hput : putCells e fld cs = putCells e fld cs := rfl
 have hok' : (AObj.arr esz (es.set idx (putCells e fld cs))).ok := by
  intro e' he'
  obtain ⟨i, hi, rfl⟩ := List.getElem_of_mem he'
  rw [List.length_set] at hi
  by_cases hii : idx = i
  ·subst hii
   rw [List.getElem_set_self]
   refine ⟨by rw [length_putCells, hee], fun d hd => ?_⟩
   obtain ⟨k, hk1, rfl⟩ := List.getElem_of_mem hd
   have hk2 := List.getElem?_eq_getElem hk1
   rw [putCells_getElem? cs e fld (by omega)] at hk2
   split at hk2
   ·exact List.all_eq_true.1 hp _ (List.mem_of_getElem? hk2)
   ·exact (hok e (List.mem_of_getElem? he)).2 _ (List.mem_of_getElem? hk2)
  ·rw [List.getElem_set_ne hii]
   exact hok _ (List.getElem_mem _)
 obtain ⟨st, s⟩ := hs.st.set_obj (w' := w') (o' := .arr esz (es.set idx (putCells e fld cs))) hob hl1 q6 q5 q2 q3 q4 qd ⟨rfl, by simp, fun _ => rfl⟩ hok' fun C' τ' H' s => by
  refine ⟨by rw [List.length_set]; exact hroom, cur', elem, fz, q7, by rw [q8]; exact h2, by rw [q8]; exact h3, fun i j e' d hi hd => ?_⟩
  by_cases hii : idx = i
  ·subst hii
   rw [List.getElem?_set_self hidx] at hi
   cases hi
   have hj := (List.getElem?_eq_some_iff.1 hd).1
   rw [length_putCells] at hj
   rw [putCells_getElem? cs e fld (by omega)] at hd
   rw [q9]
   by_cases hj2 : fld ≤ j ∧ j < fld + cs.length
   ·rw [if_pos hj2] at hd
    rw [if_pos (by simp; omega)]
    have hlt : j - fld < (a.eval y).cells.size := by omega
    refine ⟨(a.eval y).cells[j - fld], ?_, (hcr (j - fld) d _ hd (Array.getElem?_eq_getElem hlt)).mono s⟩
    rw [show idx * esz + j - (idx * esz + fld + 0) = j - fld from by omega, Array.getElem?_toList, Array.getElem?_eq_getElem hlt]
   ·rw [if_neg hj2] at hd
    rw [if_neg (by simp; omega)]
    obtain ⟨v, hv1, hv2⟩ := h4 idx j e d he hd
    exact ⟨v, hv1, hv2.mono s⟩
  ·rw [List.getElem?_set_ne hii] at hi
   obtain ⟨v, hv1, hv2⟩ := h4 i j e' d hi hd
   refine ⟨v, ?_, hv2.mono s⟩
   rw [q9, if_neg]
   ·exact hv1
   ·intro hc
    have hj := (List.getElem?_eq_some_iff.1 hd).1
    have he2 := (hok e' (List.mem_of_getElem? hi)).1
    simp only [Nat.add_zero, Array.length_toList] at hc
    have := rows_inj (i := i) (j := j) (i' := idx) (j' := i * esz + j - idx * esz) (s := esz) (by omega) (by omega) (by omega)
    exact hii this.1.symm
 exact out_step hs hk (.tuple _ _ rfl fun i c v hc => by simp at hc) st s
theorem zeroCells_size (z : Array Value) (n : Nat) : (Builtin.zeroCells z n).size = n * z.size := by simp [Builtin.zeroCells]
theorem run_appendGrow {t tx ty el : TypeId} {i : TypeInfo} {z : Value} {sz bytes : Nat} (ht : P.underlying t = some (.slice el)) (htx : (∃ e', P.underlying tx = some (.slice e')) ∨ P.underlying tx = some .string)
  (hi : P.info? el = some i) (hz : i.zero = some z) (hsi : i.size = sz) (hbi : i.bytes = bytes) {base : Option Addr} {sLen sCap : Nat} {y : Value} {es es' : List (List AVal)} {olds news : Array Value}
  (hso : SrcA P C w τ H sz (.slice base sLen sCap) es olds) (hsn : SrcA P C w τ H sz y es' news) (hn : sLen = es.length) (hg : sCap < sLen + es'.length) (hb1 : (sLen + es'.length) * bytes ≤ roomB) (hb2 : sLen + es'.length ≤ roomB) :
  ∃ c, sLen + es'.length ≤ c ∧ (Builtin.append_ #[t, tx] ty #[.slice base sLen sCap, y]).run P w =
   .ok (.slice (some ⟨w.heap.size, 0, none⟩) (sLen + es'.length) c) (w.drew.alloc (.cells (olds ++ news ++ Builtin.zeroCells z.cells (c - (sLen + es'.length))) el)) := by
 refine ⟨(Question.appendCap (sLen + es'.length) sCap el).cut (w.tape w.drawn (.appendCap (sLen + es'.length) sCap el)), by simp [Question.cut], ?_⟩
 rw [roomB_val] at hb1 hb2
 have hn1 : ¬ (sLen + es'.length ≤ sCap) := by omega
 have h63' : ¬ (((sLen + es'.length : Nat) : Int) > IntKind.i64.max) := by
  have e : IntKind.i64.max = 9223372036854775807 := by decide
  rw [e]; omega
 have h48 := growslice_fits (old := sCap) (need := sLen + es'.length) (bytes := bytes) (by omega) (by omega)
 have h48' : ¬ (Builtin.nextslicecap (sLen + es'.length) sCap * bytes > 2 ^ 48) := by
  have e : (2 : Nat) ^ 48 = 281474976710656 := by decide
  rw [e]; omega
 have fo : ∀ w' : World, w'.heap = w.heap → (Builtin.firstCells sz sLen (.slice base sLen sCap)).run P w' = .ok olds w' := by
  intro w' hw'; rw [hn]; have := hso.cells w' hw'; rwa [hn] at this
 have hq : ∀ q : Question, q = Question.appendCap (sLen + es'.length) sCap el → q.forced = false := by rintro q rfl; rfl
 have h63'' : ¬ (((sLen + es'.length : Nat) : Int) > IntKind.i64.max ∧ (False ∨ bytes = 0)) := fun hh => h63' hh.1
 rcases htx with ⟨e', hu⟩ | hu
 all_goals
  unfold Builtin.append_
  simp only [List.getElem?_toArray, List.getElem?_cons_zero, List.getElem?_cons_succ, Sem.run_bind, run_und ht, run_und hu, Result.andThen_ok, run_size (P := P) (t := el) (n := sz) (by simp [sizeA, hi, hsi]),
   Sem.run_pure, Bool.false_eq_true, if_false, hsn.len, if_neg hn1, run_info hi, hbi, if_neg h63'', if_neg h48', run_choose_drew, hq _ rfl, run_askRoom, fo w.drew rfl, hsn.cells w.drew rfl, Bool.not_false, if_true, zeroValue, hz,
   newRow, run_newObj_alloc, World.size_drew]
theorem run_appendFits {t tx ty el : TypeId} {sz : Nat} (ht : P.underlying t = some (.slice el)) (htx : (∃ e', P.underlying tx = some (.slice e')) ∨ P.underlying tx = some .string)
  (hsz : sizeA P el = some sz) {base : Option Addr} {sLen sCap : Nat} {y : Value} {es' : List (List AVal)} {news : Array Value}
  (hsn : SrcA P C w τ H sz y es' news) (hg : sLen + es'.length ≤ sCap) {w' : World} (hst : ∀ ad, base = some ad → (storeCells (ad.add (sLen * sz)) news.toList).run P w = .ok () w') (hnone : base = none → w' = w) :
  (Builtin.append_ #[t, tx] ty #[.slice base sLen sCap, y]).run P w = .ok (.slice base (sLen + es'.length) sCap) w' := by
 rcases htx with ⟨e', hu⟩ | hu
 all_goals
  unfold Builtin.append_
  simp only [List.getElem?_toArray, List.getElem?_cons_zero, List.getElem?_cons_succ, Sem.run_bind, run_und ht, run_und hu, Result.andThen_ok, run_size hsz,
   Sem.run_pure, Bool.false_eq_true, if_false, hsn.len, if_pos hg, hsn.cells w rfl, Bool.not_false, if_true]
  cases base with
  | none => simp only [Sem.run_pure]; rw [hnone rfl]
  | some ad => simp only [Sem.run_bind, hst ad rfl, Result.andThen_ok, Sem.run_pure]
theorem rows_append {sz : Nat} {x y : Value} {es es' : List (List AVal)} {olds news zs : Array Value} (h1 : SrcA P C w τ H sz x es olds) (h2 : SrcA P C w τ H sz y es' news) :
  ∀ (i j : Nat) (e : List AVal) (d : AVal), (es ++ es')[i]? = some e → e[j]? = some d → ∃ v, (olds ++ news ++ zs)[i * sz + j]? = some v ∧ Rel C w τ H d v := by
 intro i j e d he hd
 have s1 := h1.size
 have s2 := h2.size
 by_cases hi : i < es.length
 ·rw [List.getElem?_append_left hi] at he
  have hj := (List.getElem?_eq_some_iff.1 hd).1
  have := (h1.esz e (List.mem_of_getElem? he)).1
  have hlt := mul_lt_rows (s := sz) (j := j) hi (by omega)
  obtain ⟨v, hv, hr⟩ := h1.rel i j e d he hd
  refine ⟨v, ?_, hr⟩
  rw [Array.append_assoc, Array.getElem?_append_left (by omega)]
  exact hv
 ·rw [List.getElem?_append_right (by omega)] at he
  have hj := (List.getElem?_eq_some_iff.1 hd).1
  have hi2 := (List.getElem?_eq_some_iff.1 he).1
  have := (h2.esz e (List.mem_of_getElem? he)).1
  have hlt := mul_lt_rows (s := sz) (j := j) hi2 (by omega)
  obtain ⟨v, hv, hr⟩ := h2.rel _ j e d he hd
  refine ⟨v, ?_, hr⟩
  have e1 : i * sz + j = olds.size + ((i - es.length) * sz + j) := by
   rw [s1, ← Nat.add_assoc, ← Nat.add_mul]
   congr 2
   omega
  rw [Array.append_assoc, e1, Array.getElem?_append_right (by omega), Nat.add_sub_cancel_left, Array.getElem?_append_left (by omega)]
  exact hv
theorem ok_append {sz : Nat} {x y : Value} {es es' : List (List AVal)} {olds news : Array Value} (h1 : SrcA P C w τ H sz x es olds) (h2 : SrcA P C w τ H sz y es' news) : (AObj.arr sz (es ++ es')).ok := by
 intro e he
 rcases List.mem_append.1 he with he | he
 ·exact h1.esz e he
 ·exact h2.esz e he
theorem snd_append {o : Oper} {t tx el : TypeId} {x y : Operand} {x' y' : AOpd} {sz bytes : Nat} {zero : List AVal} (ho : o.op = .call { callee := .builtin .append, args := #[x, y], argTypes := #[t, tx] }) (hx : compOpd x = some x') (hy : compOpd y = some y')
  (he : elemA? P t = some el) (htx : (∃ e', P.underlying tx = some (.slice e')) ∨ P.underlying tx = some .string) (hsz : sizeA P el = some sz) (hby : bytesA P el = some bytes) (hz : zeroA P el = some zero)
  (hs : SA E C τ ρ H a w) (h : opA P (.append sz bytes zero x' y') ρ H K) : OpRes P ((execOp a.eval o).run P w) (Out E ρ a K) := by
 simp only [opA, evK_eq] at h
 have hrx := hs.ev hx
 have hry := hs.ev hy
 have ht := elem_und he
 obtain ⟨es', news, h, hsn⟩ := content_src (P := P) hs.st.wf hry h
 simp only [chkA_iff, Bool.and_eq_true, decide_eq_true_eq] at h
 obtain ⟨⟨hzl, hzc⟩, h⟩ := h
 obtain ⟨i, z, hi, hz1, hzs, hzi, hzr⟩ := zero_rel (C := C) (w := w) (τ := τ) (H := H) hz
 have hbi : i.bytes = bytes := by
  unfold bytesA at hby; rw [hi] at hby; simpa using hby
 have hsi : i.size = sz := by
  unfold sizeA at hsz; rw [hi] at hsz; simpa using hsz
 have run : ∀ v u w', a.eval x = v → (Builtin.append_ #[t, tx] o.type #[v, a.eval y]).run P w = .ok u w' → (execOp a.eval o).run P w = .ok (.value u) w' := by
  rintro v u w' rfl hr
  simp only [execOp, ho, resolve, invoke, builtin, List.map_toArray, List.map_cons, List.map_nil, Sem.run_bind, Sem.run_pure, Result.andThen_ok, hr]
 have sizes : ∀ {xv : Value} {es : List (List AVal)} {olds : Array Value} (c : Nat), SrcA P C w τ H sz xv es olds → es.length + es'.length ≤ c →
   (olds ++ news ++ Builtin.zeroCells z.cells (c - (es.length + es'.length))).size = c * sz := by
  intro xv es olds c h1 hc
  rw [Array.size_append, Array.size_append, h1.size, hsn.size, zeroCells_size, show z.cells.size = sz from by omega, ← Nat.add_mul, ← Nat.add_mul]
  congr 1; omega
 
 have fresh : ∀ (es : List (List AVal)) (base : Option Addr) (cap : Nat) (olds : Array Value), a.eval x = .slice base es.length cap → SrcA P C w τ H sz (.slice base es.length cap) es olds → cap < es.length + es'.length →
   (es.length + es'.length) * bytes ≤ roomB → es.length + es'.length ≤ roomB → K (.sl H.length (es ++ es').length 0 (es ++ es').length) (H ++ [.arr sz (es ++ es')]) → OpRes P ((execOp a.eval o).run P w) (Out E ρ a K) := by
  intro es base cap olds hev hso hg hb1 hb2 hk
  obtain ⟨c, hc, hrun⟩ := run_appendGrow (ty := o.type) ht htx hi hz1 hsi hbi hso hsn rfl hg hb1 hb2
  rw [run _ _ _ hev hrun]
  have hl : (es ++ es').length = es.length + es'.length := List.length_append
  exact out_new (w1 := w.drew) (cap := c) hs rfl rfl rfl rfl (Nat.le_succ _) (sizes c hso hc) (by omega) (.inl rfl) (ok_append hso hsn) (rows_append hso hsn) hk (.inr (.inl ⟨rfl, by rw [hl]⟩))
 split at h
 case h_5 => exact h.elim
 case h_4 id ep off len cap hv =>
  rw [hv] at hrx
  simp only [objK, idxA_iff] at h
  obtain ⟨ob, hob, h⟩ := h
  split at h
  case h_2 => exact h.elim
  rename_i s es
  simp only [chkA_iff, Nat.beq_eq, setO_eq] at h
  obtain ⟨rfl, hep, h⟩ := h
  rcases h with h | h
  case inr =>
   obtain ⟨⟨rfl, hne, hb1, hb2⟩, hk⟩ := h
   simp only [snocK_eq, Nat.zero_add] at hk
   obtain ⟨ad, e1, hl1, hl2, l, hl, hla⟩ := hrx.slc_inv hob hep
   obtain ⟨hroom, _⟩ := hs.st.wf.objs id _ l hob hl
   obtain ⟨olds, hso⟩ : ∃ olds, SrcA P C w τ H s (.slice ad len len) ((es.drop off).take len) olds := by
    rcases hla with hc | rfl
    ·subst hc
     simp only [List.take_zero]
     exact ⟨_, src_empty⟩
    ·have hrs : Rel C w τ H (.sl id ep off len) (.slice (some ⟨l.b, off * s, none⟩) len (l.cap - off)) := .sl id ep off len _ _ s es hob (by omega) fun _ => ⟨hl1, by omega, .inr ⟨l, hl, by omega, .inr rfl⟩⟩
     obtain ⟨olds, hso⟩ := src_sl (P := P) hs.st.wf hrs hob hep
     exact ⟨olds, hso.len, hso.size, hso.cells, hso.rel, hso.one, hso.esz⟩
   have hlen : ((es.drop off).take len).length = len := by rw [List.length_take, List.length_drop]; omega
   have hpos : 0 < es'.length := List.length_pos_iff.2 hne
   rw [← hlen] at e1 hb1 hb2
   have hso2 : SrcA P C w τ H s (.slice ad ((es.drop off).take len).length ((es.drop off).take len).length) ((es.drop off).take len) olds := by rw [hlen]; exact hso
   exact fresh ((es.drop off).take len) ad _ olds e1 hso2 (by omega) hb1 hb2 hk
  obtain ⟨⟨rfl, rfl, hfit⟩, hk⟩ := h
  obtain ⟨ad, e1, hl1, hl2, l, hl, hla⟩ := hrx.slc_inv hob hep
  rw [e1] at hrx
  have hidx := (List.getElem?_eq_some_iff.1 hob).1
  have hok := hs.st.wf.ok id _ hob
  by_cases hn : es' = []
  ·subst hn
   have hst : ∀ ad', ad = some ad' → (storeCells (ad'.add (0 * s)) news.toList).run P w = .ok () w := by
    intro ad' _
    have : news = #[] := by
     have := hsn.size
     simp at this
     exact this
    rw [this]; rfl
   have hrun := run_appendFits (ty := o.type) (base := ad) (sLen := 0) (sCap := cap) (w' := w) ht htx hsz hsn (by simpa using hl2) hst (fun _ => rfl)
   rw [run _ _ _ e1 hrun]
   have hset : H.set id (.arr s ([] ++ es.drop ([] : List (List AVal)).length)) = H := by
    apply List.ext_getElem?
    intro j
    by_cases hj : j = id
    ·subst hj; rw [List.getElem?_set_self hidx, hob]; rfl
    ·rw [List.getElem?_set_ne (Ne.symm hj)]
   rw [hset] at hk
   exact out_same hs hk hrx
  have hpos : 0 < es'.length := List.length_pos_iff.2 hn
  have hll : (es' ++ es.drop es'.length).length = es.length := by rw [List.length_append, List.length_drop]; omega
  rcases hla with hc | rfl
  ·omega
  ·obtain ⟨hroom, cells, elem, fz, h1, h2, h3, h4⟩ := hs.st.wf.objs id _ l hob hl
   have hns := hsn.size
   have hbound : es'.length * s ≤ cells.size := by
    rw [h2]
    exact Nat.mul_le_mul_right _ (by omega)
   obtain ⟨w', cur', q1, q2, q3, q4, qd, q5, q6, q7, q8, q9⟩ := run_storeCells_blk (P := P) l.b 0 elem fz news.toList 0 cells w h1 (by simp; omega) h3 hsn.one
   have hrun := run_appendFits (ty := o.type) (base := some ⟨l.b, 0 * s, none⟩) (sLen := 0) (sCap := cap) (w' := w') ht htx hsz hsn (by omega) (fun ad' e => by
    cases e
    rw [addr_add, Nat.zero_mul, Nat.zero_add]
    exact q1) (fun e => by cases e)
   rw [run _ _ _ e1 hrun]
   have hok' : (AObj.arr s (es' ++ es.drop es'.length)).ok := by
    intro e he
    rcases List.mem_append.1 he with he | he
    ·exact hsn.esz e he
    ·exact hok e (List.mem_of_mem_drop he)
   obtain ⟨st, s1⟩ := hs.st.set_obj (w' := w') (o' := .arr s (es' ++ es.drop es'.length)) hob hl q6 q5 q2 q3 q4 qd ⟨rfl, by omega, fun _ => rfl⟩ hok' fun C' τ' H' s1 => by
    refine ⟨by omega, cur', elem, fz, q7, by rw [q8]; exact h2, by rw [q8]; exact h3, fun i j e d hi hd => ?_⟩
    have hj := (List.getElem?_eq_some_iff.1 hd).1
    by_cases hi2 : i < es'.length
    ·rw [List.getElem?_append_left hi2] at hi
     have hee := (hsn.esz e (List.mem_of_getElem? hi)).1
     have hlt := mul_lt_rows (s := s) (j := j) hi2 (by omega)
     obtain ⟨v, hv1, hv2⟩ := hsn.rel i j e d hi hd
     refine ⟨v, ?_, hv2.mono s1⟩
     rw [q9, if_pos (by simp only [Array.length_toList]; omega), Nat.add_zero, Nat.sub_zero, Array.getElem?_toList]
     exact hv1
    ·rw [List.getElem?_append_right (by omega), List.getElem?_drop] at hi
     have e2 : es'.length + (i - es'.length) = i := by omega
     rw [e2] at hi
     obtain ⟨v, hv1, hv2⟩ := h4 i j e d hi hd
     refine ⟨v, ?_, hv2.mono s1⟩
     have hge : es'.length * s ≤ i * s := Nat.mul_le_mul_right _ (by omega)
     rw [q9, if_neg (by simp only [Array.length_toList]; omega)]
     exact hv1
   have e0 : 0 + es'.length = es'.length := Nat.zero_add _
   rw [e0]
   exact out_step hs hk (.slc _ _ _ _ _ _ s (es' ++ es.drop es'.length) (by rw [List.getElem?_set_self hidx]) (by omega) fun _ => ⟨by omega, hfit, l, hl, .inr rfl⟩) st s1
 case h_1 hv =>
  rw [hv] at hrx
  simp only [snocK_eq, Nat.zero_add] at h
  obtain ⟨⟨hb1, hb2⟩, hk⟩ := h
  by_cases hn : es' = []
  ·subst hn
   have hrun := run_appendFits (ty := o.type) (base := none) (sLen := 0) (sCap := 0) (w' := w) ht htx hsz hsn (Nat.le_refl _) (fun ad e => by cases e) (fun _ => rfl)
   rw [run _ _ _ hrx.nil_inv hrun]
   obtain ⟨st, s⟩ := hs.st.virt sz
   exact out_step hs hk (.sl _ _ _ _ _ _ sz [] (by simp) (Nat.le_refl _) fun _ => ⟨Nat.le_refl _, Nat.le_refl _, .inl ⟨updF_same _ _ _, rfl⟩⟩) st s
  ·have hpos : 0 < es'.length := List.length_pos_iff.2 hn
   refine fresh [] none 0 #[] hrx.nil_inv src_empty (by simpa using hpos) (by simpa using hb1) (by simpa using hb2) (by simpa using hk)
 case h_2 s es hv =>
  rw [hv] at hrx
  simp only [Nat.beq_eq, snocK_eq, Nat.zero_add] at h
  obtain ⟨rfl, h⟩ := h
  have hrx0 := hrx
  obtain ⟨ad, cap, e1, hcap, hex, _⟩ := hrx.list_inv
  have hc := hex rfl
  subst hc
  rw [e1] at hrx
  obtain ⟨olds, hso⟩ := src_list (P := P) hrx
  by_cases hspec : es' = [] ∧ es ≠ []
  ·obtain ⟨rfl, hne⟩ := hspec
   cases es with
   | nil => exact absurd rfl hne
   | cons e0 es0 =>
    have hst : ∀ ad', ad = some ad' → (storeCells (ad'.add ((e0 :: es0).length * s)) news.toList).run P w = .ok () w := by
     intro ad' _
     have : news = #[] := by
      have := hsn.size
      simp at this
      exact this
     rw [this]; rfl
    have hrun := run_appendFits (ty := o.type) (base := ad) (sLen := (e0 :: es0).length) (sCap := (e0 :: es0).length) (w' := w) ht htx hsz hsn (by simp) hst (fun _ => rfl)
    rw [run _ _ _ e1 hrun]
    exact out_same hs h (by rw [e1] at hrx0; exact hrx0)
  replace h : (((es.length + es'.length) * bytes ≤ roomB ∧ es.length + es'.length ≤ roomB ∧ (es' ≠ [] ∨ es = [])) ∧ K (.sl H.length (es ++ es').length 0 (es ++ es').length) (H ++ [.arr s (es ++ es')])) := by
   cases es with
   | nil => exact h
   | cons e0 es0 => cases es' with
    | nil => exact absurd ⟨rfl, by simp⟩ hspec
    | cons f0 fs0 => exact h
  obtain ⟨⟨hb1, hb2, hne⟩, hk⟩ := h
  by_cases hn : es' = []
  ·subst hn
   have hes : es = [] := by
    rcases hne with h0 | h0
    ·exact absurd rfl h0
    ·exact h0
   subst hes
   have hst : ∀ ad', ad = some ad' → (storeCells (ad'.add ([].length (α := List AVal) * s)) news.toList).run P w = .ok () w := by
    intro ad' _
    have : news = #[] := by
     have := hsn.size
     simp at this
     exact this
    rw [this]; rfl
   have hrun := run_appendFits (ty := o.type) (base := ad) (sLen := 0) (sCap := 0) (w' := w) ht htx hsz hsn (Nat.le_refl _) hst (fun _ => rfl)
   rw [run _ _ _ e1 hrun]
   obtain ⟨st, st2⟩ := hs.st.virt s
   exact out_step hs hk (.sl _ _ _ _ _ _ s [] (by simp) (Nat.le_refl _) fun _ => ⟨Nat.le_refl _, Nat.le_refl _, .inl ⟨updF_same _ _ _, rfl⟩⟩) st st2
  ·have hpos : 0 < es'.length := List.length_pos_iff.2 hn
   exact fresh es ad es.length olds e1 hso (by omega) hb1 hb2 hk
 case h_3 id ep off len hv =>
  rw [hv] at hrx
  simp only [objK, idxA_iff] at h
  obtain ⟨ob, hob, h⟩ := h
  split at h
  case h_2 => exact h.elim
  rename_i s es
  simp only [Nat.beq_eq, setO_eq] at h
  obtain ⟨rfl, hep, ⟨hb1, hb2, rfl, hlen⟩, hk⟩ := h
  obtain ⟨ad, cap, e1, hl1, hl2, hl3⟩ := hrx.sl_inv hob hep
  rw [e1] at hrx
  obtain ⟨olds, hso⟩ := src_sl (P := P) hs.st.wf hrx hob hep
  have hpart : (es.drop 0).take len = es := by rw [List.drop_zero]; exact List.take_of_length_le (by omega)
  rw [hpart] at hso
  subst hlen
  have hidx := (List.getElem?_eq_some_iff.1 hob).1
  have hok := hs.st.wf.ok id _ hob
  have hll : (es ++ es').length = es.length + es'.length := List.length_append
  by_cases hn : es' = []
  ·subst hn
   have hst : ∀ ad', ad = some ad' → (storeCells (ad'.add (es.length * s)) news.toList).run P w = .ok () w := by
    intro ad' _
    have : news = #[] := by
     have := hsn.size
     simp at this
     exact this
    rw [this]; rfl
   have hrun := run_appendFits (ty := o.type) (base := ad) (sLen := es.length) (sCap := cap) (w' := w) ht htx hsz hsn (by simpa using hl2) hst (fun _ => rfl)
   rw [run _ _ _ e1 hrun]
   have hset : H.set id (.arr s (es ++ [])) = H := by
    rw [List.append_nil]
    apply List.ext_getElem?
    intro j
    by_cases hj : j = id
    ·subst hj; rw [List.getElem?_set_self hidx, hob]
    ·rw [List.getElem?_set_ne (Ne.symm hj)]
   rw [hset] at hk
   simp only [List.append_nil] at hk
   refine out_same hs hk ?_
   rw [hep] at hrx
   exact hrx
  ·have hpos : 0 < es'.length := List.length_pos_iff.2 hn
   have hok' := ok_append hso hsn
   by_cases hfit : es.length + es'.length ≤ cap
   ·rcases hl3 with ⟨_, hc⟩ | ⟨l, hl, hlc, hla⟩
    ·omega
    ·rcases hla with hc | rfl
     ·omega
     ·obtain ⟨hroom, cells, elem, fz, h1, h2, h3, h4⟩ := hs.st.wf.objs id _ l hob hl
      have hns := hsn.size
      have hbound : es.length * s + es'.length * s ≤ cells.size := by
       rw [h2, ← Nat.add_mul]
       exact Nat.mul_le_mul_right _ (by omega)
      obtain ⟨w', cur', q1, q2, q3, q4, qd, q5, q6, q7, q8, q9⟩ := run_storeCells_blk (P := P) l.b (es.length * s) elem fz news.toList 0 cells w h1 (by simp; omega) h3 hsn.one
      have hrun := run_appendFits (ty := o.type) (base := some ⟨l.b, 0 * s, none⟩) (sLen := es.length) (sCap := cap) (w' := w') ht htx hsz hsn hfit (fun ad' e => by
       cases e
       rw [addr_add, Nat.zero_mul, Nat.zero_add]
       exact q1) (fun e => by cases e)
      rw [run _ _ _ e1 hrun]
      obtain ⟨st, s1⟩ := hs.st.set_obj (w' := w') (o' := .arr s (es ++ es')) hob hl q6 q5 q2 q3 q4 qd ⟨rfl, by omega, fun _ => rfl⟩ hok' fun C' τ' H' s1 => by
       refine ⟨by omega, cur', elem, fz, q7, by rw [q8]; exact h2, by rw [q8]; exact h3, fun i j e d hi hd => ?_⟩
       have hj := (List.getElem?_eq_some_iff.1 hd).1
       by_cases hi2 : i < es.length
       ·rw [List.getElem?_append_left hi2] at hi
        have hee := (hok e (List.mem_of_getElem? hi)).1
        have hlt := mul_lt_rows (s := s) (j := j) hi2 (by omega)
        obtain ⟨v, hv1, hv2⟩ := h4 i j e d hi hd
        refine ⟨v, ?_, hv2.mono s1⟩
        rw [q9, if_neg (by omega)]
        exact hv1
       ·rw [List.getElem?_append_right (by omega)] at hi
        have hi3 := (List.getElem?_eq_some_iff.1 hi).1
        have hee := (hsn.esz e (List.mem_of_getElem? hi)).1
        have hlt := mul_lt_rows (s := s) (j := j) hi3 (by omega)
        obtain ⟨v, hv1, hv2⟩ := hsn.rel _ j e d hi hd
        have e2 : i * s + j = es.length * s + ((i - es.length) * s + j) := by
         rw [← Nat.add_assoc, ← Nat.add_mul]
         congr 2; omega
        refine ⟨v, ?_, hv2.mono s1⟩
        rw [q9, if_pos (by rw [e2]; simp only [Array.length_toList]; omega), e2, Nat.add_zero, Nat.add_sub_cancel_left, Array.getElem?_toList]
        exact hv1
      rw [← hll]
      exact out_step hs hk (.sl _ _ _ _ _ _ s (es ++ es') (by rw [List.getElem?_set_self hidx]) (Nat.le_refl _) fun _ => ⟨by omega, by omega, .inr ⟨l, hl, hlc, .inr rfl⟩⟩) st s1
   ·obtain ⟨c, hc, hrun⟩ := run_appendGrow (ty := o.type) ht htx hi hz1 hsi hbi hso hsn rfl (by omega) hb1 hb2
    rw [run _ _ _ e1 hrun]
    obtain ⟨st1, s1⟩ := hs.st.same (w' := w.drew) rfl rfl rfl rfl
    obtain ⟨st2, s2⟩ := st1.move_obj hob (.cells (olds ++ news ++ Builtin.zeroCells z.cells (c - (es.length + es'.length))) el) c (o' := .arr s (es ++ es')) ⟨rfl, by omega, fun e => by omega⟩ (ok_append hso hsn)
     fun C' τ' H' w' s hh => ⟨(by show (es ++ es').length ≤ c; omega), _, _, _, hh, sizes c hso hc, .inl rfl, fun i j e d he hd => by
      obtain ⟨v, hv, hr⟩ := rows_append hso hsn i j e d he hd
      exact ⟨v, hv, (hr.mono s1).mono s⟩⟩
    rw [World.size_drew] at st2 s2
    refine out_step hs hk ?_ st2 (s1.trans s2)
    rw [hll]
    exact .sl _ _ _ _ _ _ s (es ++ es') (by rw [List.getElem?_set_self hidx]) (by omega) fun _ => ⟨by omega, by omega, .inr ⟨_, updF_same _ _ _, by simp, .inr (by simp)⟩⟩
theorem contentK_one {sz : Nat} {x : AVal} {k : List (List AVal) → Prop} (h : contentK H sz x k) : ∃ es, k es ∧ ∀ k' : List (List AVal) → Prop, k' es → contentK H sz x k' := by
 unfold contentK at h ⊢
 split at h
 ·exact ⟨_, h, fun _ hk => hk⟩
 ·simp only [chkA_iff] at h ⊢; exact ⟨_, h.2, fun _ hk => ⟨h.1, hk⟩⟩
 ·simp only [objK, idxA_iff] at h ⊢
  obtain ⟨o, ho, h⟩ := h
  split at h
  ·simp only [chkA_iff] at h; exact ⟨_, h.2.2, fun _ hk => ⟨_, ho, by simp only [chkA_iff]; exact ⟨h.1, h.2.1, hk⟩⟩⟩
  ·exact h.elim
 ·simp only [chkA_iff] at h ⊢; exact ⟨_, h.2, fun _ hk => ⟨h.1, hk⟩⟩
 ·exact h.elim
theorem snd_appendI {o : Oper} {t tx el : TypeId} {x y : Operand} {x' y' : AOpd} {sz bytes : Nat} {zero : List AVal} (ho : o.op = .call { callee := .builtin .append, args := #[x, y], argTypes := #[t, tx] }) (hx : compOpd x = some x') (hy : compOpd y = some y')
  (he : elemA? P t = some el) (htx : (∃ e', P.underlying tx = some (.slice e')) ∨ P.underlying tx = some .string) (hsz : sizeA P el = some sz) (hby : bytesA P el = some bytes) (hz : zeroA P el = some zero)
  (hs : SA E C τ ρ H a w) (h : opA P (.appendI sz bytes zero x' y') ρ H K) : OpRes P ((execOp a.eval o).run P w) (Out E ρ a K) := by
 simp only [opA, evK_eq] at h
 have hrx := hs.ev hx
 have hry := hs.ev hy
 have ht := elem_und he
 obtain ⟨es1, h, hdet⟩ := contentK_one h
 obtain ⟨es', news, rfl, hsn⟩ := content_src (P := P) hs.st.wf hry (hdet (fun new => new = es1) rfl)
 simp only [chkA_iff, Bool.and_eq_true, decide_eq_true_eq] at h
 obtain ⟨hz0, h⟩ := h
 have back : appK H sz bytes zero (ev ρ x') es' K → OpRes P ((execOp a.eval o).run P w) (Out E ρ a K) := by
  intro hh
  refine snd_append ho hx hy he htx hsz hby hz hs ?_
  have e : opA P (.append sz bytes zero x' y') ρ H K = contentK H sz (ev ρ y') fun new => chkA (decide (zero.length = sz) && zero.all AVal.isCell) (appK H sz bytes zero (ev ρ x') new K) := by
   show evK ρ x' _ = _
   rw [evK_eq]
   show evK ρ y' _ = _
   rw [evK_eq]
   rfl
  rw [e]
  refine hdet _ ?_
  simp only [chkA_iff, Bool.and_eq_true, decide_eq_true_eq]
  exact ⟨hz0, hh⟩
 cases hv : ev ρ x' with
 | sl id ep off len =>
  rw [hv] at h hrx
  simp only [objK, idxA_iff] at h
  obtain ⟨ob, hob, h⟩ := h
  split at h
  case h_2 => exact h.elim
  rename_i s es
  simp only [chkA_iff, Nat.beq_eq, condA_eq] at h
  obtain ⟨rfl, hep, h⟩ := h
  by_cases hfit : (Nat.ble (off + len + es'.length) es.length && Nat.blt 0 es'.length) = true
  ·rw [hfit] at h
   simp only [setO_eq] at h
   simp only [Bool.and_eq_true, Nat.ble_eq] at hfit
   obtain ⟨hfit, hpos⟩ := hfit
   have hpos : 0 < es'.length := by have := hpos; simp [Nat.blt] at this; omega
   obtain ⟨ad, cap, e1, hl1, hl2, hl3⟩ := hrx.sl_inv hob hep
   rcases hl3 with ⟨hnone, hc⟩ | ⟨l, hl, hlc, hla⟩
   ·obtain ⟨esz, hv0⟩ := hs.st.wf.virt id _ hob hnone
    cases hv0
    simp only [List.length_nil] at hfit
    omega
   obtain ⟨hroom, cells, elem, fz, h1, h2, h3, h4⟩ := hs.st.wf.objs id _ l hob hl
   have hidx := (List.getElem?_eq_some_iff.1 hob).1
   have hok := hs.st.wf.ok id _ hob
   have hns := hsn.size
   rcases hla with hc | rfl
   ·omega
   have hbound : (off + len + es'.length) * s ≤ cells.size := by
    rw [h2]
    exact Nat.mul_le_mul_right _ (by omega)
   have hmul : (off + len) * s + es'.length * s = (off + len + es'.length) * s := (Nat.add_mul _ _ _).symm
   obtain ⟨w', cur', q1, q2, q3, q4, qd, q5, q6, q7, q8, q9⟩ := run_storeCells_blk (P := P) l.b ((off + len) * s) elem fz news.toList 0 cells w h1 (by simp; omega) h3 hsn.one
   have hrun := run_appendFits (ty := o.type) (base := some ⟨l.b, off * s, none⟩) (sLen := len) (sCap := cap) (w' := w') ht htx hsz hsn (by omega) (fun ad' e => by
    cases e
    rw [addr_add, ← Nat.add_mul]
    exact q1) (fun e => by cases e)
   have run : (execOp a.eval o).run P w = .ok (.value (.slice (some ⟨l.b, off * s, none⟩) (len + es'.length) cap)) w' := by
    have : (Builtin.append_ #[t, tx] o.type #[a.eval x, a.eval y]).run P w = .ok (.slice (some ⟨l.b, off * s, none⟩) (len + es'.length) cap) w' := by rw [e1]; exact hrun
    simp only [execOp, ho, resolve, invoke, builtin, List.map_toArray, List.map_cons, List.map_nil, Sem.run_bind, Sem.run_pure, Result.andThen_ok, this]
   rw [run]
   have hto : (es.take (off + len)).length = off + len := by rw [List.length_take]; omega
   have hll : (es.take (off + len) ++ es' ++ es.drop (off + len + es'.length)).length = es.length := by
    rw [List.length_append, List.length_append, List.length_drop, hto]; omega
   have get : ∀ i, (es.take (off + len) ++ es' ++ es.drop (off + len + es'.length))[i]? = if i < off + len then es[i]? else if i < off + len + es'.length then es'[i - (off + len)]? else es[i]? := by
    intro i
    by_cases hi : i < off + len
    ·rw [if_pos hi, List.append_assoc, List.getElem?_append_left (by omega), List.getElem?_take_of_lt hi]
    ·rw [if_neg hi, List.append_assoc, List.getElem?_append_right (by omega), hto]
     by_cases hi2 : i < off + len + es'.length
     ·rw [if_pos hi2, List.getElem?_append_left (by omega)]
     ·rw [if_neg hi2, List.getElem?_append_right (by omega), List.getElem?_drop]
      congr 1; omega
   have hok' : (AObj.arr s (es.take (off + len) ++ es' ++ es.drop (off + len + es'.length))).ok := by
    intro e he
    rcases List.mem_append.1 he with he | he
    ·rcases List.mem_append.1 he with he | he
     ·exact hok e (List.mem_of_mem_take he)
     ·exact hsn.esz e he
    ·exact hok e (List.mem_of_mem_drop he)
   obtain ⟨st, s1⟩ := hs.st.set_obj (w' := w') (o' := .arr s (es.take (off + len) ++ es' ++ es.drop (off + len + es'.length))) hob hl q6 q5 q2 q3 q4 qd ⟨rfl, by omega, fun _ => rfl⟩ hok' fun C' τ' H' s1 => by
    refine ⟨by omega, cur', elem, fz, q7, by rw [q8]; exact h2, by rw [q8]; exact h3, fun i j e d hi hd => ?_⟩
    have hj := (List.getElem?_eq_some_iff.1 hd).1
    rw [get] at hi
    split at hi
    ·rename_i hi1
     have hee := (hok e (List.mem_of_getElem? hi)).1
     have hlt := mul_lt_rows (s := s) (j := j) hi1 (by omega)
     obtain ⟨v, hv1, hv2⟩ := h4 i j e d hi hd
     refine ⟨v, ?_, hv2.mono s1⟩
     rw [q9, if_neg (by simp only [Array.length_toList]; omega)]
     exact hv1
    ·rename_i hi1
     split at hi
     ·rename_i hi2
      have hee := (hsn.esz e (List.mem_of_getElem? hi)).1
      have hlt := mul_lt_rows (s := s) (j := j) (i := i - (off + len)) (n := es'.length) (by omega) (by omega)
      have hge : i * s = (off + len) * s + (i - (off + len)) * s := by rw [← Nat.add_mul]; congr 1; omega
      obtain ⟨v, hv1, hv2⟩ := hsn.rel (i - (off + len)) j e d hi hd
      refine ⟨v, ?_, hv2.mono s1⟩
      rw [q9, if_pos (by simp only [Array.length_toList]; omega), Nat.add_zero, show i * s + j - (off + len) * s = (i - (off + len)) * s + j from by omega, Array.getElem?_toList]
      exact hv1
     ·rename_i hi2
      obtain ⟨v, hv1, hv2⟩ := h4 i j e d hi hd
      refine ⟨v, ?_, hv2.mono s1⟩
      have hge : (off + len + es'.length) * s ≤ i * s := Nat.mul_le_mul_right _ (by omega)
      rw [q9, if_neg (by simp only [Array.length_toList]; omega)]
      exact hv1
   exact out_step hs h (.sl _ _ _ _ _ _ s (es.take (off + len) ++ es' ++ es.drop (off + len + es'.length)) (by rw [List.getElem?_set_self hidx]) (by omega) fun _ => ⟨by omega, by omega, .inr ⟨l, hl, hlc, .inr rfl⟩⟩) st s1
  ·rw [Bool.eq_false_iff.2 hfit] at h
   exact back (by rw [hv]; exact h)
 | _ => exact back (by rw [hv] at h ⊢; exact h)
end
section
variable {E : Env} {P : Program} {C : Nat → Nat} {τ : Nat → Option Loc} {ρ : List AVal} {H : List AObj} {a : Act} {w : World} {K : AVal → List AObj → Prop}
theorem foldl_set (cs : List Value) : ∀ (off k : Nat) (base : Array Value), off + k + cs.length ≤ base.size →
  ∀ m, ((cs.zipIdx k).foldl (fun (b : Array Value) (p : Value × Nat) => b.setIfInBounds (off + p.2) p.1) base)[m]? = if off + k ≤ m ∧ m < off + k + cs.length then cs[m - (off + k)]? else base[m]? := by
 induction cs with
 | nil => intro off k base _ m; rw [if_neg (by simp only [List.length_nil]; omega)]; rfl
 | cons c cs ih =>
  intro off k base h m
  simp only [List.length_cons] at h
  rw [List.zipIdx_cons, List.foldl_cons, ih off (k + 1) _ (by simp; omega)]
  simp only [List.length_cons]
  by_cases h1 : off + (k + 1) ≤ m ∧ m < off + (k + 1) + cs.length
  ·rw [if_pos h1, if_pos (by omega)]
   obtain ⟨n, hn⟩ : ∃ n, m - (off + k) = n + 1 := ⟨m - (off + k) - 1, by omega⟩
   rw [hn, show m - (off + (k + 1)) = n from by omega]; rfl
  ·rw [if_neg h1]
   by_cases h2 : m = off + k
   ·subst h2
    rw [if_pos (by omega), Array.getElem?_setIfInBounds_self_of_lt (by omega)]; simp
   ·rw [Array.getElem?_setIfInBounds_ne (by omega), if_neg (by omega)]
theorem foldl_size (cs : List Value) : ∀ (off k : Nat) (base : Array Value), ((cs.zipIdx k).foldl (fun (b : Array Value) (p : Value × Nat) => b.setIfInBounds (off + p.2) p.1) base).size = base.size := by
 induction cs with
 | nil => intro off k base; rfl
 | cons c cs ih => intro off k base; rw [List.zipIdx_cons, List.foldl_cons, ih]; simp
theorem arr_foldl (cells base : Array Value) (off : Nat) : cells.zipIdx.foldl (fun cs (c, j) => cs.setIfInBounds (off + j) c) base =
  (cells.toList.zipIdx 0).foldl (fun (b : Array Value) (p : Value × Nat) => b.setIfInBounds (off + p.2) p.1) base := by
 rw [← Array.foldl_toList, Array.toList_zipIdx]
theorem run_places : ∀ (fs : List Field) (l : List (Nat × Nat)), places P fs = some l → (fs.mapM fun f => (do pure (f.offset, ← sizeOf f.type) : Sem (Nat × Nat))).run P w = .ok l w
 | [], l, h => by simp only [places, Option.some.injEq] at h; subst h; simp
 | f :: r, l, h => by
  unfold places at h
  split at h
  ·rename_i n l' h1 h2
   cases h
   have ih := run_places r l' h2
   simp only [List.mapM_cons, Sem.run_bind, run_size h1, Result.andThen_ok, Sem.run_pure, ih]
  ·cases h
theorem places_get : ∀ (fs : List Field) (l : List (Nat × Nat)) (i : Nat) (f : Field), places P fs = some l → fs[i]? = some f → ∃ n, sizeA P f.type = some n ∧ l[i]? = some (f.offset, n)
 | [], l, i, f, h, hf => by simp at hf
 | g :: r, l, i, f, h, hf => by
  unfold places at h
  split at h
  ·rename_i n l' h1 h2
   cases h
   cases i with
   | zero => simp at hf; subst hf; exact ⟨n, h1, rfl⟩
   | succ i => simp at hf; obtain ⟨m, h3, h4⟩ := places_get r l' i f h2 hf; exact ⟨m, h3, by simpa using h4⟩
  ·cases h
theorem fill_ok (hs : SA E C τ ρ H a w) {fs : Array Field} {l : List (Nat × Nat)} (hp : places P fs.toList = some l) : ∀ (ps : List (Nat × Operand)) (qs : List (Nat × Nat × AOpd)) (cs : List AVal) (cells : Array Value) (Kf : List AVal → Prop),
  compParts P fs ps = some qs → cs.length = cells.size → (∀ (i : Nat) (c : AVal) (v : Value), cs[i]? = some c → cells[i]? = some v → Rel C w τ H c v) → fillK ρ qs cs Kf →
  ∃ cs' cells', Instr.fill (l[·]?) cells (ps.map fun p => (p.1, a.eval p.2)) = some cells' ∧ cs'.length = cells'.size ∧ (∀ (i : Nat) (c : AVal) (v : Value), cs'[i]? = some c → cells'[i]? = some v → Rel C w τ H c v) ∧ Kf cs'
 | [], qs, cs, cells, Kf, hc, hl, hr, h => by
  simp only [compParts, Option.some.injEq] at hc; subst hc
  exact ⟨cs, cells, rfl, hl, hr, h⟩
 | (i, x) :: ps, qs, cs, cells, Kf, hc, hl, hr, h => by
  simp only [compParts, Option.bind_eq_bind, Option.bind_eq_some_iff, Option.pure_def, Option.some.injEq] at hc
  obtain ⟨f, hf, s, hsz, y, hy, qs', hq, rfl⟩ := hc
  simp only [fillK_cons, evK_eq] at h
  have hrx := hs.ev hy
  split at h
  case h_2 => exact h.elim
  rename_i u hu
  simp only [chkA_iff, Bool.and_eq_true, decide_eq_true_eq] at h
  obtain ⟨⟨hus, hfit⟩, h⟩ := h
  obtain ⟨c1, c2⟩ := hrx.cells hu
  obtain ⟨n, hn, hli⟩ := places_get fs.toList l i f hp (by simpa using hf)
  rw [hsz] at hn; cases hn
  have hfold := arr_foldl (a.eval x).cells cells f.offset
  obtain ⟨cs', cells', e1, e2, e3, e4⟩ := fill_ok hs hp ps qs' (putCells cs f.offset u) ((a.eval x).cells.zipIdx.foldl (fun cs (c, j) => cs.setIfInBounds (f.offset + j) c) cells) Kf hq (by rw [length_putCells, hfold, foldl_size]; exact hl) (fun m c v hm hv => by
   rw [putCells_getElem? u cs f.offset (by omega)] at hm
   rw [hfold, foldl_set _ _ _ _ (by simp; omega)] at hv
   simp only [Array.length_toList, Nat.add_zero] at hv
   by_cases hin : f.offset ≤ m ∧ m < f.offset + u.length
   ·rw [if_pos hin] at hm
    rw [if_pos (by omega)] at hv
    rw [Array.getElem?_toList] at hv
    exact c2 _ c v hm hv
   ·rw [if_neg hin] at hm
    rw [if_neg (by omega)] at hv
    exact hr m c v hm hv) h
  refine ⟨cs', cells', ?_, e2, e3, e4⟩
  have hcond : (decide ((a.eval x).cells.size ≠ s) || decide (f.offset + (a.eval x).cells.size > cells.size)) = false := by
   simp only [Bool.or_eq_false_iff, decide_eq_false_iff_not]; omega
  simp only [List.map_cons, Instr.fill, hli, hcond, Bool.false_eq_true, if_false, e1]
theorem snd_build {o : Oper} {t : TypeId} {parts : Array (Nat × Operand)} {fs : Array Field} {zero : List AVal} {qs : List (Nat × Nat × AOpd)} (ho : o.op = .build t parts) (hu : P.underlying t = some (.struct fs)) (hz : zeroA P t = some zero)
  (hpl : (places P fs.toList).isSome = true) (hq : compParts P fs parts.toList = some qs) (hs : SA E C τ ρ H a w) (h : opA P (.build zero qs) ρ H K) : OpRes P ((execOp a.eval o).run P w) (Out E ρ a K) := by
 simp only [opA] at h
 obtain ⟨i, z, hi, hz1, hzs, hzi, hzr⟩ := zero_rel (C := C) (w := w) (τ := τ) (H := H) hz
 obtain ⟨l, hl⟩ := Option.isSome_iff_exists.1 hpl
 obtain ⟨cs', cells', e1, e2, e3, hk⟩ := fill_ok hs hl parts.toList qs zero z.cells _ hq hzs hzr h
 have hk := forceK_mono hk
 have hpr := run_places (P := P) (w := w) fs.toList l hl
 have hmap : (fs.mapM fun f => (do pure (f.offset, ← sizeOf f.type) : Sem (Nat × Nat))).run P w = .ok l.toArray w := by
  rw [Array.mapM_eq_mapM_toList, Sem.run_map, hpr]; rfl
 have hfill : Instr.fill (l.toArray[·]?) z.cells ((parts.map fun (i, x) => (i, a.eval x)).toList) = some cells' := by
  rw [Array.toList_map]
  have : (fun i : Nat => l.toArray[i]?) = (fun i : Nat => l[i]?) := by funext i; simp
  rw [this]
  exact e1
 have run : (execOp a.eval o).run P w = .ok (.value (.agg cells')) w := by
  simp only [execOp, ho, Instr.build, Sem.run_bind, zeroValue, run_info hi, Result.andThen_ok, hz1, Sem.run_pure, run_und hu, hmap, hfill]
 rw [run]
 exact out_same hs hk (.agg _ _ e2 e3)
theorem fillS_ok (hs : SA E C τ ρ H a w) {sz : Nat} : ∀ (ps : List (Nat × Operand)) (qs : List (Nat × AOpd)) (es : List (List AVal)) (cells : Array Value) (Kf : List (List AVal) → Prop),
  compRow ps = some qs → cells.size = es.length * sz → (∀ e ∈ es, e.length = sz) → (∀ (i j : Nat) (e : List AVal) (d : AVal), es[i]? = some e → e[j]? = some d → ∃ v, cells[i * sz + j]? = some v ∧ Rel C w τ H d v) → fillSK ρ sz qs es Kf →
  ∃ es' cells', Instr.fill (fun i => some (i * sz, sz)) cells (ps.map fun p => (p.1, a.eval p.2)) = some cells' ∧ es'.length = es.length ∧ cells'.size = es'.length * sz ∧ (∀ e ∈ es', e.length = sz) ∧
   (∀ (i j : Nat) (e : List AVal) (d : AVal), es'[i]? = some e → e[j]? = some d → ∃ v, cells'[i * sz + j]? = some v ∧ Rel C w τ H d v) ∧ Kf es'
 | [], qs, es, cells, Kf, hc, hl, he, hr, h => by
  simp only [compRow, Option.some.injEq] at hc; subst hc
  exact ⟨es, cells, rfl, rfl, hl, he, hr, h⟩
 | (n, x) :: ps, qs, es, cells, Kf, hc, hl, he, hr, h => by
  simp only [compRow, Option.bind_eq_bind, Option.bind_eq_some_iff, Option.pure_def, Option.some.injEq] at hc
  obtain ⟨y, hy, qs', hq, rfl⟩ := hc
  simp only [fillSK_cons, evK_eq] at h
  have hrx := hs.ev hy
  split at h
  case h_2 => exact h.elim
  rename_i u hu
  simp only [chkA_iff, Bool.and_eq_true, decide_eq_true_eq, setEK_eq] at h
  obtain ⟨⟨hus, hfit⟩, h⟩ := h
  have h := forceK_mono h
  obtain ⟨c1, c2⟩ := hrx.cells hu
  have hfold := arr_foldl (a.eval x).cells cells (n * sz)
  have hbound : n * sz + (a.eval x).cells.size ≤ cells.size := by
   rw [hl, ← c1, hus]
   have := Nat.mul_le_mul_right sz (show n + 1 ≤ es.length by omega)
   rw [Nat.add_mul] at this; omega
  obtain ⟨es', cells', e1, e2, e3, e4, e5, e6⟩ := fillS_ok hs ps qs' (es.set n u) ((a.eval x).cells.zipIdx.foldl (fun cs (c, j) => cs.setIfInBounds (n * sz + j) c) cells) Kf hq
   (by rw [hfold, foldl_size, List.length_set]; exact hl) (fun e hm => by
    rcases List.mem_or_eq_of_mem_set hm with hm | rfl
    ·exact he e hm
    ·exact hus) (fun i j e d hi hd => by
    rw [hfold, foldl_set _ _ _ _ (by simp; omega)]
    simp only [Array.length_toList, Nat.add_zero]
    have hj := (List.getElem?_eq_some_iff.1 hd).1
    by_cases hin : n = i
    ·subst hin
     rw [List.getElem?_set_self hfit] at hi
     cases hi
     rw [if_pos (by omega), Nat.add_sub_cancel_left, Array.getElem?_toList, Array.getElem?_eq_getElem (by omega)]
     exact ⟨_, rfl, c2 j d _ hd (Array.getElem?_eq_getElem (by omega))⟩
    ·rw [List.getElem?_set_ne hin] at hi
     obtain ⟨v, hv, hrv⟩ := hr i j e d hi hd
     refine ⟨v, ?_, hrv⟩
     rw [if_neg]
     ·exact hv
     ·intro hc
      have := he e (List.mem_of_getElem? hi)
      have := rows_inj (i := i) (j := j) (i' := n) (j' := i * sz + j - n * sz) (s := sz) (by omega) (by omega) (by omega)
      exact hin this.1.symm) h
  refine ⟨es', cells', ?_, by rw [e2, List.length_set], e3, e4, e5, e6⟩
  have hcond : (decide ((a.eval x).cells.size ≠ sz) || decide (n * sz + (a.eval x).cells.size > cells.size)) = false := by
   simp only [Bool.or_eq_false_iff, decide_eq_false_iff_not]; omega
  simp only [List.map_cons, Instr.fill, hcond, Bool.false_eq_true, if_false, e1]
theorem out_list (hs : SA E C τ ρ H a w) {cells : Array Value} {elem : TypeId} {sz : Nat} {es : List (List AVal)} (hsz : cells.size = es.length * sz) (hl : ∀ e ∈ es, e.length = sz)
  (hp : es.all (fun e => e.all AVal.isCell) = true) (hpure : ∀ (i j : Nat) (e : List AVal) (d : AVal), es[i]? = some e → e[j]? = some d → ∃ v, cells[i * sz + j]? = some v ∧ Rd C w d v) (hk : K (.list true sz es) H) :
  Out E ρ a K (.slice (some ⟨w.heap.size, 0, none⟩) es.length es.length) (w.alloc (.cells cells elem)) := by
 obtain ⟨st, s⟩ := hs.st.alloc_comm (.cells cells elem) (es.length * sz)
 refine out_step hs hk ?_ st s
 by_cases hne : es = []
 ·subst hne; exact .rd (.list0 _ _ _ _ fun _ => rfl)
 have hheap := heap_alloc_self w (.cells cells elem)
 refine .rd (.list _ _ _ _ _ _ (fun i j => (cells[i * sz + j]?).getD undef) (fun _ => rfl) (Nat.le_refl _) hl (by rw [updF_same]; omega) (fun i j hi hj => ?_) (fun i j e d he hd => ?_) (fun i j e d he hd => ?_))
 ·have := mul_lt_rows (s := sz) (j := j) hi hj
  simp only [World.cell?, hheap, Option.isSome_none, Bool.false_eq_true, if_false, Nat.zero_add]
  rw [Array.getElem?_eq_getElem (by omega)]; rfl
 ·have := List.all_eq_true.1 hp e (List.mem_of_getElem? he)
  exact List.all_eq_true.1 this d (List.mem_of_getElem? hd)
 ·obtain ⟨v, hv, hr⟩ := hpure i j e d he hd
  rw [hv]
  exact hr.mono s.le s.cell
theorem snd_buildSlice {o : Oper} {t el : TypeId} {len sz : Nat} {parts : Array (Nat × Operand)} {zero : List AVal} {qs : List (Nat × AOpd)} (ho : o.op = .buildSlice t len parts) (he : elemA? P t = some el) (hsz : sizeA P el = some sz) (hz : zeroA P el = some zero)
  (hq : compRow parts.toList = some qs) (hs : SA E C τ ρ H a w) (h : opA P (.buildSlice sz len zero qs) ρ H K ∨ opA P (.buildSliceO sz len zero qs) ρ H K) : OpRes P ((execOp a.eval o).run P w) (Out E ρ a K) := by
 obtain ⟨i, z, hi, hz1, hzs, hzi, hzr⟩ := zero_rel (C := C) (w := w) (τ := τ) (H := H) hz
 have hsi : i.size = sz := by
  unfold sizeA at hsz; rw [hi] at hsz; simpa using hsz
 have main : ∀ Kf : List (List AVal) → Prop, fillSK ρ sz qs (List.replicate len zero) Kf → (∀ es, Kf es → zero.length = sz ∧ len * sz ≤ 2 ^ 24) → ∃ es cells, (execOp a.eval o).run P w = .ok (.value (.slice (some ⟨w.heap.size, 0, none⟩) es.length es.length)) (w.alloc (.cells cells el)) ∧
   cells.size = es.length * sz ∧ (∀ e ∈ es, e.length = sz) ∧ (∀ (i j : Nat) (e : List AVal) (d : AVal), es[i]? = some e → e[j]? = some d → ∃ v, cells[i * sz + j]? = some v ∧ Rel C w τ H d v) ∧ Kf es := by
  intro Kf hf hzl
  have hzsz : zero.length = sz := by omega
  obtain ⟨es, cells, e1, e2, e3, e4, e5, hk⟩ := fillS_ok hs (sz := sz) parts.toList qs (List.replicate len zero) ((Array.range (len * sz)).map (z.cells[· % z.cells.size]!)) Kf hq (by simp) (fun e hm => by rw [(List.mem_replicate.1 hm).2]; exact hzsz) (fun i j e d hi hd => by
    have := zero_rows hzs hzr len len (Nat.le_refl _) i j e d hi hd
    rw [show z.cells.size = sz from by omega] at this ⊢
    exact this) hf
  rw [List.length_replicate] at e2
  have hlim := (hzl es hk).2
  refine ⟨es, cells, ?_, e3, e4, e5, hk⟩
  have hfill : Instr.fill (fun i => some (i * sz, sz)) ((Array.range (len * sz)).map (z.cells[· % z.cells.size]!)) ((parts.map fun (i, x) => (i, a.eval x)).toList) = some cells := by
   rw [Array.toList_map]; exact e1
  have hgt : ¬ (len * sz > 2 ^ 24) := by omega
  simp only [execOp, ho, Instr.buildSlice, Sem.run_bind, run_und (elem_und he), Result.andThen_ok, run_size hsz, if_neg hgt]
  by_cases hq0 : len * sz = 0
  ·rw [hq0] at hfill
   have hr0 : Array.range 0 = #[] := rfl
   rw [hr0, Array.map_empty] at hfill
   simp only [hq0, if_true, Sem.run_pure, Result.andThen_ok, hr0, Array.map_empty, hfill, Sem.run_bind, newRow, run_newObj_alloc, e2]
  ·simp only [hq0, if_false, Sem.run_bind, zeroValue, run_info hi, Result.andThen_ok, hz1, Sem.run_pure, hfill, newRow, run_newObj_alloc, e2]
 rcases h with h | h
 ·simp only [opA] at h
  obtain ⟨es, cells, e1, e2, e3, e4, hk⟩ := main _ h (fun es hk => by simp only [chkA_iff, Bool.and_eq_true, decide_eq_true_eq] at hk; exact hk.1.1)
  simp only [chkA_iff, Bool.and_eq_true] at hk
  obtain ⟨⟨_, hp⟩, hk⟩ := hk
  have hpc : ∀ e ∈ es, ∀ d ∈ e, d.isPure = true := fun e he d hd => List.all_eq_true.1 (List.all_eq_true.1 hp e he) d hd
  rw [e1]
  refine out_list hs e2 e3 (List.all_eq_true.2 fun e he => List.all_eq_true.2 fun d hd => AVal.isCell_of_isPure (hpc e he d hd)) (fun i j e d hi hd => ?_) hk
  obtain ⟨v, hv, hr⟩ := e4 i j e d hi hd
  exact ⟨v, hv, hr.pure (hpc e (List.mem_of_getElem? hi) d (List.mem_of_getElem? hd))⟩
 ·simp only [opA] at h
  obtain ⟨es, cells, e1, e2, e3, e4, hk⟩ := main _ h (fun es hk => by simp only [chkA_iff, Bool.and_eq_true, decide_eq_true_eq] at hk; exact hk.1.1)
  simp only [chkA_iff, Bool.and_eq_true, snocK_eq, Nat.zero_add] at hk
  obtain ⟨⟨_, hp⟩, hk⟩ := hk
  rw [e1]
  refine out_new (cap := es.length) hs rfl rfl rfl rfl (Nat.le_refl _) e2 (Nat.le_refl _) (.inl rfl) (fun e he => ⟨e3 e he, fun d hd => List.all_eq_true.1 (List.all_eq_true.1 hp e he) d hd⟩) e4 hk (.inr (.inl ⟨rfl, rfl⟩))
theorem freeze_new (w : World) (c : Array Value) (e : TypeId) : (w.alloc (.cells c e)).freeze ⟨w.heap.size, c.size, none⟩ 1 = w.alloc (.cells c e (c.size, c.size + 1)) := by
 simp only [World.freeze, Nat.one_ne_zero, if_false, World.alloc]
 congr 1
 apply Array.ext'
 apply List.ext_getElem?
 intro i
 simp only [Array.getElem?_toList, Array.getElem?_modify, Array.getElem?_push]
 by_cases h : w.heap.size = i
 ·subst h; simp
 ·have h' : ¬ i = w.heap.size := fun e => h e.symm
  simp only [if_neg h, if_neg h']
theorem snd_convSB {o : Oper} {s d el : TypeId} {x : Operand} {x' : AOpd} (ho : o.op = .convert s d x) (hx : compOpd x = some x') (h1 : P.underlying s = some .string) (h2 : P.underlying d = some (.slice el))
  (hb : P.underlying el = some (.int .u8)) (hs : SA E C τ ρ H a w) (h : opA P (.convSB x') ρ H K) : OpRes P ((execOp a.eval o).run P w) (Out E ρ a K) := by
 simp only [opA, evK_eq] at h
 have hr := hs.ev hx
 split at h
 case h_2 => exact h.elim
 rename_i t hv
 rw [hv] at hr
 simp only [snocK_eq, Nat.zero_add] at h
 obtain ⟨_, hk⟩ := h
 generalize hc : (Question.appendCap t.size 0 el).cut (w.tape w.drawn (.appendCap t.size 0 el)) = c
 have hle : t.size ≤ c := by rw [← hc]; simp [Question.cut]
 generalize hcells : ((t.data.map fun b => Value.int .u8 b.toNat) ++ Array.replicate (c - t.size) (Value.int .u8 0) : Array Value) = cells
 have hsize : cells.size = c := by rw [← hcells]; simp; omega
 have run : (execOp a.eval o).run P w = .ok (.value (.slice (some ⟨w.heap.size, 0, none⟩) t.size c)) (w.drew.alloc (.cells cells el (cells.size, cells.size + 1))) := by
  have hconv : (Conv.stringToBytes el t).run P w = .ok (.slice (some ⟨w.heap.size, 0, none⟩) t.size c) (w.drew.alloc (.cells cells el (cells.size, cells.size + 1))) := by
   have hq : (Question.appendCap t.size 0 el).forced = false := rfl
   have hsh : (w.drew.alloc (.cells cells el)).shape? w.drew.heap.size = some (el, cells.size) := by
    have := heap_alloc_self w.drew (.cells cells el)
    simp only [World.shape?, this]
   unfold Conv.stringToBytes
   simp only [Sem.run_bind, run_choose_drew, hq, Bool.false_eq_true, if_false, Result.andThen_ok, hc, hcells, newRow, run_newObj_alloc, Sem.run_pure, markStringish, run_shape]
   rw [show w.drew.heap.size = w.heap.size from rfl] at hsh
   simp only [World.size_drew, hsh, run_freeze, Result.andThen_ok]
   have := freeze_new w.drew cells el
   rw [show w.drew.heap.size = w.heap.size from rfl] at this
   rw [this]
  simp only [execOp, ho, hr.str_inv, convert, Sem.run_bind, run_und h1, run_und h2, Result.andThen_ok, run_und hb, hconv, Sem.run_pure]
 rw [run]
 have hbl : (byteCells t.data.toList).length = t.size := by simp [byteCells]
 refine out_new (w1 := w.drew) (cap := c) (esz := 1) (es := byteCells t.data.toList) hs rfl rfl rfl rfl (Nat.le_succ _) (by omega) (by omega) (.inr (Nat.le_refl _)) (fun e he => ?_) (fun i j e d he hd => ?_) (v := .sl H.length t.size 0 t.size) ?_ (.inr (.inl ⟨by rw [hbl], by rw [hbl]⟩))
 ·simp only [byteCells, List.mem_map] at he
  obtain ⟨b, _, rfl⟩ := he
  exact ⟨rfl, fun d hd => by simp at hd; subst hd; rfl⟩
 ·obtain ⟨v, hv, hrel⟩ := (src_str (P := P) (C := C) (w := w) (τ := τ) (H := H) (s := t)).rel i j e d he hd
  refine ⟨v, ?_, hrel⟩
  rw [← hcells, Array.getElem?_append_left (Array.getElem?_eq_some_iff.1 hv).1]
  exact hv
 ·have : t.data.toList.length = t.size := by simp
  rw [this] at hk
  exact hk
theorem snd_mark {o : Oper} {s el : TypeId} {x : Operand} {x' : AOpd} (ho : o.op = .convert s s x) (hx : compOpd x = some x') (h1 : P.underlying s = some (.slice el)) (hb : P.underlying el = some (.int .u8))
  (hs : SA E C τ ρ H a w) (h : opA P (.mark x') ρ H K) : OpRes P ((execOp a.eval o).run P w) (Out E ρ a K) := by
 simp only [opA, evK_eq] at h
 have hr := hs.ev hx
 split at h
 case h_2 => exact h.elim
 rename_i id ep off len hv
 rw [hv] at hr
 simp only [objK, idxA_iff] at h
 obtain ⟨ob, hob, h⟩ := h
 split at h
 case h_2 => exact h.elim
 rename_i esz es
 simp only [chkA_iff, Bool.and_eq_true, Nat.beq_eq, decide_eq_true_eq] at h
 obtain ⟨⟨hep, hpos⟩, hk⟩ := h
 obtain ⟨ad, cap, e1, hl1, hl2, hl3⟩ := hr.sl_inv hob hep
 rcases hl3 with ⟨_, hc⟩ | ⟨l, hl, hlc, hla⟩
 ·omega
 ·rcases hla with hc | rfl
  ·omega
  ·obtain ⟨hroom, cells, elem, fz, g1, g2, g3, g4⟩ := hs.st.wf.objs id _ l hob hl
   have hsh : w.shape? l.b = some (elem, cells.size) := by simp [World.shape?, g1]
   have run : (execOp a.eval o).run P w = .ok (.value (a.eval x)) (w.freeze ⟨l.b, cells.size, none⟩ 1) := by
    simp only [execOp, ho, e1, convert, Sem.run_bind, run_und h1, Result.andThen_ok, beq_self_eq_true, run_und hb, markStringish, run_shape, hsh, run_freeze, Sem.run_pure]
   rw [run]
   generalize hw' : w.freeze ⟨l.b, cells.size, none⟩ 1 = w'
   have hfz : ∃ fz' : Nat × Nat, w'.heap[l.b]? = some (.cells cells elem fz') ∧ (fz'.1 = fz'.2 ∨ cells.size ≤ fz'.1) := by
    rw [← hw']
    simp only [World.freeze, Nat.one_ne_zero, if_false, Array.getElem?_modify, if_true, g1, Option.map_some]
    obtain ⟨lo, hi⟩ := fz
    simp only [] at g3 ⊢
    by_cases hlh : lo = hi
    ·subst hlh
     exact ⟨(cells.size, cells.size + 1), by simp, .inr (Nat.le_refl _)⟩
    ·refine ⟨(min lo cells.size, max hi (cells.size + 1)), ?_, .inr ?_⟩
     ·have : (lo == hi) = false := by simpa using hlh
      simp [this]
     ·simp only []; omega
   obtain ⟨fz', q1, q2⟩ := hfz
   have hoth : ∀ b, b ≠ l.b → w'.heap[b]? = w.heap[b]? := by
    intro b hb'
    rw [← hw']
    simp only [World.freeze, Nat.one_ne_zero, if_false, Array.getElem?_modify]
    rw [if_neg (fun e => hb' e.symm)]
   have hsz : w'.heap.size = w.heap.size := by rw [← hw']; simp [World.freeze]
   have f1 : w'.os = w.os := by rw [← hw']; simp [World.freeze]
   have f2 : w'.tape = w.tape := by rw [← hw']; simp [World.freeze]
   have f3 : w'.output = w.output := by rw [← hw']; simp [World.freeze]
   obtain ⟨st, s1⟩ := hs.st.set_obj (w' := w') (o' := .arr esz es) hob hl hoth hsz f1 f2 f3 (by rw [← hw']; simp [World.freeze]) (AObj.after_refl _ _) (hs.st.wf.ok id _ hob) fun C' τ' H' s1 => by
    refine ⟨hroom, cells, elem, fz', q1, g2, q2, fun i j e d hi hd => ?_⟩
    obtain ⟨v, hv1, hv2⟩ := g4 i j e d hi hd
    exact ⟨v, hv1, hv2.mono s1⟩
   have hidx := (List.getElem?_eq_some_iff.1 hob).1
   have hset : H.set id (.arr esz es) = H := by
    apply List.ext_getElem?
    intro j
    by_cases hj : j = id
    ·subst hj; rw [List.getElem?_set_self hidx, hob]
    ·rw [List.getElem?_set_ne (Ne.symm hj)]
   rw [hset] at st s1
   exact out_step hs hk (hr.mono s1) st s1
end
section
variable {E : Env} {P : Program} {C : Nat → Nat} {τ : Nat → Option Loc} {ρ : List AVal} {H : List AObj} {a : Act} {w : World} {K : AVal → List AObj → Prop}
theorem beq_bytes (a b : ByteArray) : (a == b) = (a.data.toList == b.data.toList) := by
 rw [beq_toListBytes, Lib.toList_data, Lib.toList_data]
theorem eqCell0 {c c' : AVal} {b : Bool} (h : eqCell 0 c c' = some b) : ∃ x y, c = .bool x ∧ c' = .bool y ∧ b = (x == y) := by
 cases c <;> cases c' <;> simp [eqCell] at h
 exact ⟨_, _, rfl, rfl, h.symm⟩
theorem eqCell1 {c c' : AVal} {b : Bool} (h : eqCell 1 c c' = some b) : ∃ k x y, c = .int k x ∧ c' = .int k y ∧ b = (x == y) := by
 cases c <;> cases c' <;> simp [eqCell] at h
 obtain ⟨rfl, h⟩ := h
 exact ⟨_, _, _, rfl, rfl, h.symm⟩
theorem eqCell2 {c c' : AVal} {b : Bool} (h : eqCell 2 c c' = some b) : ∃ x y, c = .str x ∧ c' = .str y ∧ b = (x.data.toList == y.data.toList) := by
 cases c <;> cases c' <;> simp only [eqCell, Option.some.injEq] at h <;> try (cases h; done)
 exact ⟨_, _, rfl, rfl, h.symm⟩
theorem run_eqField {f : Field} {n : Nat} {c c' : AVal} {v v' : Value} {b : Bool} {xs ys : Array Value} (d : Nat)
  (hk : (P.underlying f.type = some .bool ∧ n = 0) ∨ ((∃ k, P.underlying f.type = some (.int k)) ∧ n = 1) ∨ (P.underlying f.type = some .string ∧ n = 2))
  (hx : xs[f.offset]? = some v) (hy : ys[f.offset]? = some v') (hc : Rel C w τ H c v) (hc' : Rel C w τ H c' v') (he : eqCell n c c' = some b) :
  (part f.type xs f.offset).run P w = .ok v w ∧ (part f.type ys f.offset).run P w = .ok v' w ∧ (Op.equalIn (d + 1) f.type v v').run P w = .ok b w := by
 have part1 : ∀ {zs : Array Value} {u : Value}, zs[f.offset]? = some u → tagOf P f.type = some false → (part f.type zs f.offset).run P w = .ok u w := by
  intro zs u hz ht
  simp only [part, Sem.run_bind, run_isAgg ht, Result.andThen_ok, Bool.false_eq_true, if_false, hz, Sem.run_pure]
 rcases hk with ⟨hu, rfl⟩ | ⟨⟨k, hu⟩, rfl⟩ | ⟨hu, rfl⟩
 all_goals
  have ht : tagOf P f.type = some false := by simp [tagOf, hu]
  refine ⟨part1 hx ht, part1 hy ht, ?_⟩
  rw [Op.equalIn]
 ·obtain ⟨x, y, rfl, rfl, rfl⟩ := eqCell0 he
  cases hc.bool_inv; cases hc'.bool_inv
  simp only [Sem.run_bind, run_und hu, Result.andThen_ok, Sem.run_pure]
 ·obtain ⟨k', x, y, rfl, rfl, rfl⟩ := eqCell1 he
  cases hc.int_inv; cases hc'.int_inv
  simp only [Sem.run_bind, run_und hu, Result.andThen_ok, if_true, Sem.run_pure]
 ·obtain ⟨x, y, rfl, rfl, rfl⟩ := eqCell2 he
  cases hc.str_inv; cases hc'.str_inv
  simp only [Sem.run_bind, run_und hu, Result.andThen_ok, Sem.run_pure, beq_bytes]
def eqLoop (d : Nat) (xs ys : Array Value) (fs : List Field) : Sem (Option Bool × Unit) :=
 forIn fs (none, ()) fun f _ =>
  if f.name ≠ "_" then do
   let u ← part f.type xs f.offset
   let v ← part f.type ys f.offset
   let b ← Op.equalIn d f.type u v
   if (!b) = true then pure (ForInStep.done (some false, ())) else pure (ForInStep.yield (none, ()))
  else pure (ForInStep.yield (none, ()))
theorem run_eqLoop (d : Nat) {xs ys : Array Value} {cs ds : List AVal} (hl : cs.length = xs.size) (hl' : ds.length = ys.size) (hr : ∀ (i : Nat) (c : AVal) (v : Value), cs[i]? = some c → xs[i]? = some v → Rel C w τ H c v)
  (hr' : ∀ (i : Nat) (c : AVal) (v : Value), ds[i]? = some c → ys[i]? = some v → Rel C w τ H c v) : ∀ (fs : List Field) (i : Nat) (ks : List Nat) (Kb : Bool → Prop), fieldKinds P fs i = some ks → eqCellsM ks (cs.drop i) (ds.drop i) Kb →
  ∃ b, Kb b ∧ (eqLoop (d + 1) xs ys fs).run P w = .ok (if b then (none, ()) else (some false, ())) w
 | [], i, ks, Kb, hk, h => by
  simp only [fieldKinds, Option.some.injEq] at hk; subst hk
  unfold eqCellsM at h
  split at h
  ·exact ⟨true, h, rfl⟩
  ·rename_i e _ _; cases e
  ·exact h.elim
 | f :: fs, i, ks, Kb, hk, h => by
  unfold fieldKinds at hk
  split at hk
  case isFalse => cases hk
  rename_i hf
  obtain ⟨hoff, hname⟩ := hf
  have main : ∀ (n : Nat) (l : List Nat), ks = n :: l → fieldKinds P fs (i + 1) = some l → ((P.underlying f.type = some .bool ∧ n = 0) ∨ ((∃ k, P.underlying f.type = some (.int k)) ∧ n = 1) ∨ (P.underlying f.type = some .string ∧ n = 2)) →
    ∃ b, Kb b ∧ (eqLoop (d + 1) xs ys (f :: fs)).run P w = .ok (if b then (none, ()) else (some false, ())) w := by
   rintro n l rfl hl2 hkind
   unfold eqCellsM at h
   split at h
   ·rename_i e _ _; cases e
   ·rename_i n' ns x xs' y ys' e1 e2 e3
    cases e1
    have hx : cs[i]? = some x := by
     have := congrArg (·[0]?) e2
     simpa using this
    have hy : ds[i]? = some y := by
     have := congrArg (·[0]?) e3
     simpa using this
    have hx' : cs.drop (i + 1) = xs' := by rw [← List.drop_drop, e2]; rfl
    have hy' : ds.drop (i + 1) = ys' := by rw [← List.drop_drop, e3]; rfl
    have hxi := (List.getElem?_eq_some_iff.1 hx).1
    have hyi := (List.getElem?_eq_some_iff.1 hy).1
    have hxv : xs[f.offset]? = some xs[i] := by rw [hoff]; exact Array.getElem?_eq_getElem (by omega)
    have hyv : ys[f.offset]? = some ys[i] := by rw [hoff]; exact Array.getElem?_eq_getElem (by omega)
    split at h
    ·rename_i b hb
     obtain ⟨p1, p2, p3⟩ := run_eqField d hkind hxv hyv (hr i x _ hx (by have := hxv; rwa [hoff] at this)) (hr' i y _ hy (by have := hyv; rwa [hoff] at this)) hb
     rw [← hx', ← hy'] at h
     obtain ⟨c, hc, hrun⟩ := run_eqLoop d hl hl' hr hr' fs (i + 1) l _ hl2 h
     refine ⟨b && c, hc, ?_⟩
     unfold eqLoop at hrun ⊢
     rw [List.forIn_cons]
     cases b with
     | false =>
      simp only [ne_eq, hname, not_false_eq_true, if_true, Sem.run_bind, p1, p2, p3, Result.andThen_ok, Bool.not_false, Sem.run_pure, Bool.false_and, Bool.false_eq_true, if_false]
     | true =>
      simp only [ne_eq, hname, not_false_eq_true, if_true, Sem.run_bind, p1, p2, p3, Result.andThen_ok, Bool.not_true, Bool.false_eq_true, if_false, Sem.run_pure, Bool.true_and]
      exact hrun
    ·exact h.elim
   ·exact h.elim
  split at hk
  ·rename_i l hu hl2; cases hk; exact main 0 l rfl hl2 (.inl ⟨hu, rfl⟩)
  ·rename_i k l hu hl2; cases hk; exact main 1 l rfl hl2 (.inr (.inl ⟨⟨_, hu⟩, rfl⟩))
  ·rename_i l hu hl2; cases hk; exact main 2 l rfl hl2 (.inr (.inr ⟨hu, rfl⟩))
  ·cases hk
theorem snd_eqs {o : Oper} {op : BinOp} {t u : TypeId} {x y : Operand} {x' y' : AOpd} {fs : Array Field} {ks : List Nat} (ho : o.op = .binOp op t x y u) (hx : compOpd x = some x') (hy : compOpd y = some y')
  (hd : P.underlying t = some (.struct fs)) (hop : op = .eql ∨ op = .neq) (hst : P.stoodInHeld t = false) (hgu : P.eqGuardType P.depth t = false) (hks : fieldKinds P fs.toList 0 = some ks) (hs : SA E C τ ρ H a w)
  (h : opA P (.eqs (decide (op = .neq)) ks x' y') ρ H K) : OpRes P ((execOp a.eval o).run P w) (Out E ρ a K) := by
 simp only [opA, evK_eq] at h
 have hrx := hs.ev hx
 have hry := hs.ev hy
 split at h
 case h_2 => exact h.elim
 rename_i cs ds e1 e2
 rw [e1] at hrx
 rw [e2] at hry
 obtain ⟨xs, f1, f2, f3⟩ := hrx.agg_inv
 obtain ⟨ys, g1, g2, g3⟩ := hry.agg_inv
 obtain ⟨b, hk, hrun⟩ := run_eqLoop (P := P) 9998 f2 g2 f3 g3 fs.toList 0 ks _ hks (by rw [← eqCells_eqM]; simpa using h)
 have heq : (Op.equal t (.agg xs) (.agg ys)).run P w = .ok b w := by
  show (Op.equalIn (9999 + 1) t (.agg xs) (.agg ys)).run P w = _
  rw [Op.equalIn]
  simp only [Sem.run_bind, run_und hd, Result.andThen_ok, run_program, hst, Bool.false_eq_true, if_false]
  unfold eqLoop at hrun
  rw [← Array.forIn_toList, hrun]
  cases b <;> rfl
 have hguard : (eqGuard op t x y (.agg xs) (.agg ys)).run P w = .ok () w := by
  rcases hop with rfl | rfl <;> simp [eqGuard, hgu]
 rcases hop with rfl | rfl
 ·have hbin : (binOp .eql t (.agg xs) (.agg ys)).run P w = .ok (.bool b) w := by simp [binOp, heq]
  simp only [execOp, ho, f1, g1, Sem.run_bind, hguard, Result.andThen_ok, hbin, Sem.run_pure, OpRes]
  exact out_same hs hk (.rd (.bool _))
 ·have hbin : (binOp .neq t (.agg xs) (.agg ys)).run P w = .ok (.bool !b) w := by simp [binOp, heq]
  simp only [execOp, ho, f1, g1, Sem.run_bind, hguard, Result.andThen_ok, hbin, Sem.run_pure, OpRes]
  exact out_same hs hk (.rd (.bool _))
theorem snd_range {o : Oper} {t : TypeId} {x : Operand} {x' : AOpd} (ho : o.op = .range t x) (hx : compOpd x = some x') (hu : P.underlying t = some .string) (hs : SA E C τ ρ H a w)
  (h : opA P (.range x') ρ H K) : OpRes P ((execOp a.eval o).run P w) (Out E ρ a K) := by
 simp only [opA, evK_eq] at h
 have hr := hs.ev hx
 split at h
 case h_2 => exact h.elim
 rename_i s hv
 rw [hv] at hr
 simp only [snocK_eq, Nat.zero_add] at h
 have run : (execOp a.eval o).run P w = .ok (.value (.pointer (some ⟨w.heap.size, 0, none⟩))) (w.alloc (.stringIter s 0)) := by
  simp only [execOp, ho, hr.str_inv, Instr.range, Sem.run_bind, run_und hu, Result.andThen_ok, Sem.run_pure, run_newObj_alloc]
 rw [run]
 obtain ⟨st, s1⟩ := hs.st.alloc_obj (.stringIter s 0) (.iter s 0) 0 trivial fun C' τ' H' w' _ hh => hh
 exact out_step hs h (.it H.length s 0 _ (by simp) (updF_same _ _ _)) st s1
theorem snd_next {o : Oper} {x : Operand} {x' : AOpd} (ho : o.op = .next x true) (hx : compOpd x = some x') (hs : SA E C τ ρ H a w)
  (h : opA P (.next x') ρ H K) : OpRes P ((execOp a.eval o).run P w) (Out E ρ a K) := by
 simp only [opA, evK_eq] at h
 have hr := hs.ev hx
 split at h
 case h_2 => exact h.elim
 rename_i id hv
 rw [hv] at hr
 simp only [objK, idxA_iff] at h
 obtain ⟨ob, hob, h⟩ := h
 split at h
 case h_2 => exact h.elim
 rename_i s pos
 rw [condA_eq] at h
 obtain ⟨l, hl, hu⟩ : ∃ l, τ id = some l ∧ a.eval x = .pointer (some ⟨l.b, 0, none⟩) := by
  generalize a.eval x = z at hr
  cases hr with
  | rd hr => cases hr
  | it _ s' p' l ho' ht => exact ⟨l, ht, rfl⟩
  | mt _ _ _ _ l ho' ht => exact ⟨l, ht, rfl⟩
 have hat := hs.st.wf.objs id _ l hob hl
 have hget : (getObj l.b).run P w = .ok (.stringIter s pos) w := by
  have hh : w.heap[l.b]? = some (.stringIter s pos) := hat
  simp only [getObj, Sem.run, hh]
 split at h
 ·rename_i hc
  have hlt : pos < s.size := by simpa using hc
  simp only [setO_eq] at h
  generalize hw' : ({ w with heap := w.heap.setIfInBounds l.b (.stringIter s (pos + (Utf8.decode s pos).2)) } : World) = w'
  have run : (execOp a.eval o).run P w = .ok (.value (.tuple #[.bool true, goInt pos, .int .i32 (Utf8.decode s pos).1])) w' := by
   have hh : w.heap[l.b]? = some (.stringIter s pos) := hat
   have hset : (setObj l.b (.stringIter s (pos + (Utf8.decode s pos).2))).run P w = .ok () w' := by
    simp only [setObj, Sem.run, hh, hw']
   simp only [execOp, ho, hu, Instr.next, Sem.run_bind, hget, Result.andThen_ok, if_pos hlt, hset, Sem.run_pure]
  rw [run]
  have hb := lt_of_heap (w := w) hat
  obtain ⟨st, s1⟩ := hs.st.set_obj (w' := w') (o' := .iter s (pos + (Utf8.decode s pos).2)) hob hl (fun b hne => by
   rw [← hw']; simp only []; rw [Array.getElem?_setIfInBounds_ne (fun e => hne e.symm)]) (by rw [← hw']; simp) (by rw [← hw']) (by rw [← hw']) (by rw [← hw']) (by rw [← hw']) rfl trivial fun C' τ' H' _ => by
    show w'.heap[l.b]? = _
    rw [← hw']
    simp only []
    rw [Array.getElem?_setIfInBounds_self_of_lt hb]
  refine out_step hs h (.tuple _ _ rfl fun i c v hc hv => ?_) st s1
  match i, hc, hv with
  | 0, hc, hv => simp at hc hv; subst hc hv; exact .rd (.bool _)
  | 1, hc, hv => simp at hc hv; subst hc hv; exact .rd (.int _ _)
  | 2, hc, hv => simp at hc hv; subst hc hv; exact .rd (.int _ _)
  | i + 3, hc, hv => simp at hc
 ·rename_i hc
  have hlt : ¬ pos < s.size := by simpa using hc
  have run : (execOp a.eval o).run P w = .ok (.value (.tuple #[.bool false])) w := by
   simp only [execOp, ho, hu, Instr.next, Sem.run_bind, hget, Result.andThen_ok, if_neg hlt, Sem.run_pure]
  rw [run]
  refine out_same hs h (.tuple _ _ rfl fun i c v hc hv => ?_)
  match i, hc, hv with
  | 0, hc, hv => simp at hc hv; subst hc hv; exact .rd (.bool _)
  | i + 1, hc, hv => simp at hc
end
section
variable {P : Program} {E : Env} {C : Nat → Nat} {τ : Nat → Option Loc} {ρ : List AVal} {H : List AObj} {a : Act} {w : World} {K : AVal → List AObj → Prop}
theorem lit_rel {k : AVal} {v : Value} (h : Rel C w τ H k v) (hk : k.isLit = true) : v = k.lit := by
 cases h with
 | rd h => cases h <;> first | rfl | (simp [AVal.isLit] at hk)
 | _ => simp [AVal.isLit] at hk
theorem isLit_of_eqCell {n : Nat} {a b : AVal} (h : (eqCell n a b).isSome = true) : a.isLit = true := by
 unfold eqCell at h
 split at h <;> first | rfl | (simp at h)
theorem keyA_cases {k : TypeId} {n : Nat} (h : keyA P k = some n) : (n = 0 ∧ P.underlying k = some .bool) ∨ (n = 1 ∧ ∃ kk, P.underlying k = some (.int kk)) ∨ (n = 2 ∧ P.underlying k = some .string) := by
 unfold keyA at h
 split at h <;> simp at h
 ·rename_i hu; exact .inl ⟨h.symm, hu⟩
 ·rename_i kk hu; exact .inr (.inl ⟨h.symm, kk, hu⟩)
 ·rename_i hu; exact .inr (.inr ⟨h.symm, hu⟩)
theorem sameNow_of {d : TypeDesc} {n : Nat} (hd : (n = 0 ∧ d = .bool) ∨ (n = 1 ∧ ∃ kk, d = .int kk) ∨ (n = 2 ∧ d = .string)) {x y : AVal} {b : Bool} (h : eqCell n x y = some b) :
  Instr.sameNow d x.lit y.lit = some b := by
 rcases hd with ⟨rfl, rfl⟩ | ⟨rfl, kk, rfl⟩ | ⟨rfl, rfl⟩
 ·obtain ⟨p, q, rfl, rfl, rfl⟩ := eqCell0 h; rfl
 ·obtain ⟨k, p, q, rfl, rfl, rfl⟩ := eqCell1 h; simp [Instr.sameNow, AVal.lit]
 ·obtain ⟨p, q, rfl, rfl, rfl⟩ := eqCell2 h; simp only [Instr.sameNow, AVal.lit, beq_bytes]
theorem lit_of_eq {n : Nat} {x y : AVal} (h : eqCell n x y = some true) : x.lit = y.lit := by
 match n with
 | 0 => obtain ⟨p, q, rfl, rfl, hb⟩ := eqCell0 h; simp at hb; subst hb; rfl
 | 1 => obtain ⟨k, p, q, rfl, rfl, hb⟩ := eqCell1 h; simp at hb; subst hb; rfl
 | 2 =>
  obtain ⟨p, q, rfl, rfl, hb⟩ := eqCell2 h
  rw [← beq_bytes] at hb
  have : p = q := by
   obtain ⟨⟨p⟩⟩ := p
   obtain ⟨⟨q⟩⟩ := q
   rw [beq_bytes] at hb
   simpa using hb.symm
  subst this; rfl
 | n + 3 => unfold eqCell at h; simp at h
theorem find_of {d : TypeDesc} {n : Nat} (hd : (n = 0 ∧ d = .bool) ∨ (n = 1 ∧ ∃ kk, d = .int kk) ∨ (n = 2 ∧ d = .string)) {k : AVal} :
  ∀ (es : List MapEntry) (kvs : List (AVal × AVal)) (i : Nat), es.length = kvs.length → (∀ (j : Nat) (e : MapEntry) (kv : AVal × AVal), es[j]? = some e → kvs[j]? = some kv → e.key = kv.1.lit) →
   (kvs.all fun kv => (eqCell n k kv.1).isSome) = true →
   (mfind n k kvs = none ∧ Instr.findNow d k.lit es i = some none ∧ ∀ v, mput n k v kvs = kvs ++ [(k, v)]) ∨
   ∃ j e kv, es[j]? = some e ∧ kvs[j]? = some kv ∧ mfind n k kvs = some kv.2 ∧ Instr.findNow d k.lit es i = some (some (i + j, e.val)) ∧ eqCell n k kv.1 = some true ∧ ∀ v, mput n k v kvs = kvs.set j (kv.1, v)
 | [], [], i, _, _, _ => .inl ⟨rfl, rfl, fun _ => rfl⟩
 | [], _ :: _, _, h, _, _ => by simp at h
 | _ :: _, [], _, h, _, _ => by simp at h
 | e :: es, kv :: kvs, i, hl, hk, hs => by
  simp only [List.all_cons, Bool.and_eq_true] at hs
  obtain ⟨b, hb⟩ := Option.isSome_iff_exists.1 hs.1
  have hkey := hk 0 e kv rfl rfl
  have hsn := sameNow_of hd hb
  cases b with
  | true =>
   refine .inr ⟨0, e, kv, rfl, rfl, ?_, ?_, hb, fun v => ?_⟩
   ·simp only [mfind, hb]
   ·simp only [Instr.findNow, hkey, hsn, Nat.add_zero]
   ·simp only [mput, hb, List.set_cons_zero]
  | false =>
   rcases find_of hd es kvs (i + 1) (by simpa using hl) (fun j x y hx hy => hk (j + 1) x y hx hy) hs.2 with ⟨h1, h2, h3⟩ | ⟨j, x, y, h1, h2, h3, h4, h5, h6⟩
   ·refine .inl ⟨?_, ?_, fun v => ?_⟩
    ·simp only [mfind, hb, h1]
    ·simp only [Instr.findNow, hkey, hsn, h2]
    ·simp only [mput, hb, h3, List.cons_append]
   ·refine .inr ⟨j + 1, x, y, h1, h2, ?_, ?_, h5, fun v => ?_⟩
    ·simp only [mfind, hb, h3]
    ·simp only [Instr.findNow, hkey, hsn, h4]; rw [show i + 1 + j = i + (j + 1) from by omega]
    ·simp only [mput, hb, h6, List.set_cons_succ]
theorem lit_ne_of {n : Nat} {x y : AVal} (h : eqCell n x y = some false) : x.lit ≠ y.lit := by
 match n with
 | 0 => obtain ⟨p, q, rfl, rfl, hb⟩ := eqCell0 h; intro e; simp [AVal.lit] at e; simp [e] at hb
 | 1 => obtain ⟨k, p, q, rfl, rfl, hb⟩ := eqCell1 h; intro e; simp [AVal.lit] at e; simp [e] at hb
 | 2 => obtain ⟨p, q, rfl, rfl, hb⟩ := eqCell2 h; intro e; simp [AVal.lit] at e; simp [e] at hb
 | n + 3 => unfold eqCell at h; simp at h
theorem keyOk_perm {n : Nat} {k : AVal} {a b : List (AVal × AVal)} (h : a.Perm b) : keyOk n k a = keyOk n k b := by
 unfold keyOk
 congr 1
 rw [Bool.eq_iff_iff, List.all_eq_true, List.all_eq_true]
 exact ⟨fun g x hx => g x (h.mem_iff.2 hx), fun g x hx => g x (h.mem_iff.1 hx)⟩
theorem mfind_iff {n : Nat} {k : AVal} : ∀ {l : List (AVal × AVal)}, (l.map fun kv => kv.1.lit).Nodup → ∀ {v : AVal}, mfind n k l = some v ↔ ∃ kv ∈ l, eqCell n k kv.1 = some true ∧ kv.2 = v
 | [], _, v => by simp [mfind]
 | kv :: l, hn, v => by
  rw [List.map_cons, List.nodup_cons] at hn
  by_cases h : eqCell n k kv.1 = some true
  ·simp only [mfind, h, Option.some.injEq]
   constructor
   ·rintro rfl; exact ⟨kv, List.mem_cons_self .., h, rfl⟩
   ·rintro ⟨x, hx, h1, rfl⟩
    rcases List.mem_cons.1 hx with rfl | hx
    ·rfl
    ·exact absurd (List.mem_map.2 ⟨x, hx, by rw [← lit_of_eq h, lit_of_eq h1]⟩) hn.1
  ·have e : mfind n k (kv :: l) = mfind n k l := by
    rw [mfind]
    split
    ·rename_i h2; exact absurd h2 h
    ·rfl
   rw [e, mfind_iff hn.2]
   constructor
   ·rintro ⟨x, hx, h1, h2⟩; exact ⟨x, List.mem_cons_of_mem _ hx, h1, h2⟩
   ·rintro ⟨x, hx, h1, h2⟩
    rcases List.mem_cons.1 hx with rfl | hx
    ·exact absurd h1 h
    ·exact ⟨x, hx, h1, h2⟩
theorem mfind_perm {n : Nat} {k : AVal} {a b : List (AVal × AVal)} (h : a.Perm b) (hn : (a.map fun kv => kv.1.lit).Nodup) : mfind n k a = mfind n k b := by
 have hnb : (b.map fun kv => kv.1.lit).Nodup := (h.map _).nodup_iff.1 hn
 apply Option.ext
 intro v
 rw [mfind_iff hn, mfind_iff hnb]
 exact ⟨fun ⟨x, hx, h1, h2⟩ => ⟨x, h.mem_iff.1 hx, h1, h2⟩, fun ⟨x, hx, h1, h2⟩ => ⟨x, h.mem_iff.2 hx, h1, h2⟩⟩
def mrest (n : Nat) (k : AVal) (l : List (AVal × AVal)) : List (AVal × AVal) := l.filter fun kv => !(eqCell n k kv.1 == some true)
theorem mrest_self {n : Nat} {k : AVal} {l : List (AVal × AVal)} (h : ∀ kv ∈ l, eqCell n k kv.1 ≠ some true) : mrest n k l = l :=
 List.filter_eq_self.2 fun kv hkv => by simpa using h kv hkv
theorem mput_split {n : Nat} {k v : AVal} : ∀ {l : List (AVal × AVal)}, (l.map fun kv => kv.1.lit).Nodup → ∃ k', (k' = k ∨ ∃ kv ∈ l, kv.1 = k' ∧ eqCell n k k' = some true) ∧ (mput n k v l).Perm ((k', v) :: mrest n k l) ∧ ((∃ kv ∈ l, eqCell n k kv.1 = some true) → ∃ kv ∈ l, kv.1 = k' ∧ eqCell n k k' = some true)
 | [], _ => ⟨k, .inl rfl, .refl _, fun ⟨kv, h, _⟩ => by cases h⟩
 | kv :: l, hn => by
  rw [List.map_cons, List.nodup_cons] at hn
  by_cases h : eqCell n k kv.1 = some true
  ·refine ⟨kv.1, .inr ⟨kv, List.mem_cons_self .., rfl, h⟩, ?_, fun _ => ⟨kv, List.mem_cons_self .., rfl, h⟩⟩
   have e : mrest n k (kv :: l) = l := by
    have : mrest n k (kv :: l) = mrest n k l := by unfold mrest; rw [List.filter_cons, if_neg (by simp [h])]
    rw [this]
    refine mrest_self fun x hx h1 => hn.1 (List.mem_map.2 ⟨x, hx, by rw [← lit_of_eq h, lit_of_eq h1]⟩)
   rw [e]
   have e2 : mput n k v (kv :: l) = (kv.1, v) :: l := by simp only [mput, h]
   rw [e2]
  ·obtain ⟨k', h1, h2, h3⟩ := mput_split (n := n) (k := k) (v := v) hn.2
   have e : mput n k v (kv :: l) = kv :: mput n k v l := by
    rw [mput]
    split
    ·rename_i h2; exact absurd h2 h
    ·rfl
   have e2 : mrest n k (kv :: l) = kv :: mrest n k l := by unfold mrest; rw [List.filter_cons, if_pos (by simpa using h)]
   refine ⟨k', ?_, ?_, ?_⟩
   ·rcases h1 with h1 | ⟨x, hx, g⟩
    ·exact .inl h1
    ·exact .inr ⟨x, List.mem_cons_of_mem _ hx, g⟩
   ·rw [e, e2]
    exact (List.Perm.cons _ h2).trans (.swap _ _ _)
   ·rintro ⟨x, hx, g⟩
    rcases List.mem_cons.1 hx with rfl | hx
    ·exact absurd g h
    ·obtain ⟨y, hy, g2⟩ := h3 ⟨x, hx, g⟩
     exact ⟨y, List.mem_cons_of_mem _ hy, g2⟩
theorem mput_nodup {n : Nat} {k v : AVal} {l : List (AVal × AVal)} (hn : (l.map fun kv => kv.1.lit).Nodup) (hok : (l.all fun kv => (eqCell n k kv.1).isSome) = true) : ((mput n k v l).map fun kv => kv.1.lit).Nodup := by
 obtain ⟨k', h1, h2, h3⟩ := mput_split (n := n) (k := k) (v := v) hn
 rw [(h2.map _).nodup_iff, List.map_cons, List.nodup_cons]
 have hlit : k'.lit = k.lit := by
  rcases h1 with rfl | ⟨_, _, _, h⟩
  ·rfl
  ·exact (lit_of_eq h).symm
 refine ⟨fun hm => ?_, hn.sublist ((List.filter_sublist ..).map _)⟩
 obtain ⟨x, hx, hxe⟩ := List.mem_map.1 hm
 obtain ⟨hx1, hx2⟩ := List.mem_filter.1 hx
 obtain ⟨b, hb⟩ := Option.isSome_iff_exists.1 (List.all_eq_true.1 hok x hx1)
 cases b with
 | true => rw [hb] at hx2; simp at hx2
 | false => exact lit_ne_of hb (by rw [hxe, hlit])
theorem mput_perm {n : Nat} {k v : AVal} {a b : List (AVal × AVal)} (h : a.Perm b) (hn : (a.map fun kv => kv.1.lit).Nodup) (hok : (a.all fun kv => (eqCell n k kv.1).isSome) = true) : (mput n k v a).Perm (mput n k v b) := by
 have hnb : (b.map fun kv => kv.1.lit).Nodup := (h.map _).nodup_iff.1 hn
 obtain ⟨k1, g1, g2, g3⟩ := mput_split (n := n) (k := k) (v := v) hn
 obtain ⟨k2, f1, f2, f3⟩ := mput_split (n := n) (k := k) (v := v) hnb
 have e : k1 = k2 := by
  by_cases hex : ∃ kv ∈ a, eqCell n k kv.1 = some true
  ·obtain ⟨x, hx, rfl, hx2⟩ := g3 hex
   obtain ⟨y, hy, rfl, hy2⟩ := f3 (hex.elim fun z hz => ⟨z, h.mem_iff.1 hz.1, hz.2⟩)
   have hy := h.mem_iff.2 hy
   by_cases hxy : x = y
   ·rw [hxy]
   ·obtain ⟨i, hi⟩ := List.getElem?_of_mem hx
    obtain ⟨j, hj⟩ := List.getElem?_of_mem hy
    have hil := (List.getElem?_eq_some_iff.1 hi).1
    have hjl := (List.getElem?_eq_some_iff.1 hj).1
    have hlit : x.1.lit = y.1.lit := by rw [← lit_of_eq hx2, lit_of_eq hy2]
    have := List.pairwise_iff_getElem.1 hn
    rcases Nat.lt_trichotomy i j with q | q | q
    ·have := this i j (by simpa using hil) (by simpa using hjl) q
     simp only [List.getElem_map, (List.getElem?_eq_some_iff.1 hi).2, (List.getElem?_eq_some_iff.1 hj).2] at this
     exact absurd hlit this
    ·subst q; rw [hi] at hj; exact absurd (Option.some.inj hj) hxy
    ·have := this j i (by simpa using hjl) (by simpa using hil) q
     simp only [List.getElem_map, (List.getElem?_eq_some_iff.1 hi).2, (List.getElem?_eq_some_iff.1 hj).2] at this
     exact absurd hlit.symm this
  ·have n1 : k1 = k := by
    rcases g1 with g1 | ⟨x, hx, rfl, hx2⟩
    ·exact g1
    ·exact absurd ⟨x, hx, hx2⟩ hex
   have n2 : k2 = k := by
    rcases f1 with f1 | ⟨x, hx, rfl, hx2⟩
    ·exact f1
    ·exact absurd ⟨x, h.mem_iff.2 hx, hx2⟩ hex
   rw [n1, n2]
 rw [e] at g2
 exact g2.trans ((List.Perm.cons _ (h.filter _)).trans f2.symm)
theorem run_checkKey {t : TypeId} {n : Nat} (h : keyA P t = some n) {k : AVal} (hk : (eqCell n k k).isSome = true) (b : Bool) : (Instr.checkKey b 10000 t k.lit).run P w = .ok () w := by
 show (Instr.checkKey b (9999 + 1) t k.lit).run P w = _
 obtain ⟨c, hc⟩ := Option.isSome_iff_exists.1 hk
 rcases keyA_cases h with ⟨rfl, hu⟩ | ⟨rfl, kk, hu⟩ | ⟨rfl, hu⟩
 ·obtain ⟨p, q, rfl, _, _⟩ := eqCell0 hc; rw [Instr.checkKey, Sem.run_bind, run_und hu, Result.andThen_ok]; rfl
 ·obtain ⟨k, p, q, rfl, _, _⟩ := eqCell1 hc; rw [Instr.checkKey, Sem.run_bind, run_und hu, Result.andThen_ok]; rfl
 ·obtain ⟨p, q, rfl, _, _⟩ := eqCell2 hc; rw [Instr.checkKey, Sem.run_bind, run_und hu, Result.andThen_ok]; rfl
theorem run_findKey {t : TypeId} {d : TypeDesc} (h : P.underlying t = some d) {v : Value} {es : List MapEntry} {r : Option (Nat × Value)} (hf : Instr.findNow d v es 0 = some r) :
  (Instr.findKey t v es).run P w = .ok r w := by
 simp [Instr.findKey, run_und h, hf]
theorem und_of_key {t : TypeId} {n : Nat} (h : keyA P t = some n) : ∃ d, P.underlying t = some d ∧ ((n = 0 ∧ d = .bool) ∨ (n = 1 ∧ ∃ kk, d = .int kk) ∨ (n = 2 ∧ d = .string)) := by
 rcases keyA_cases h with ⟨rfl, hu⟩ | ⟨rfl, kk, hu⟩ | ⟨rfl, hu⟩
 ·exact ⟨_, hu, .inl ⟨rfl, rfl⟩⟩
 ·exact ⟨_, hu, .inr (.inl ⟨rfl, kk, rfl⟩)⟩
 ·exact ⟨_, hu, .inr (.inr ⟨rfl, rfl⟩)⟩
theorem snd_mkMap {o : Oper} {t : TypeId} (ho : o.op = .makeMap t none) (hs : SA E C τ ρ H a w) (h : opA P .mkMap ρ H K) : OpRes P ((execOp a.eval o).run P w) (Out E ρ a K) := by
 simp only [opA, snocK_eq, Nat.zero_add] at h
 have run : (execOp a.eval o).run P w = .ok (.value (.map (some w.heap.size))) (w.alloc (.map #[] 0)) := by
  simp only [execOp, ho, Option.map_none, Instr.makeMap, Sem.run_bind, Result.andThen_ok, Sem.run_pure, run_newObj_alloc]
 rw [run]
 obtain ⟨st, s1⟩ := hs.st.alloc_obj (.map #[] 0) (.map []) 0 trivial fun C' τ' H' w' _ hh => ⟨[], #[], 0, .nil, hh, rfl, fun i e kv he => by simp at he, by simp, by simp, by simp⟩
 exact out_step hs h (.mp H.length (.map []) _ (by simp) rfl (updF_same _ _ _)) st s1
theorem mp_inv {id : Nat} {u : Value} (hr : Rel C w τ H (.mp id) u) : ∃ l, τ id = some l ∧ u = .map (some l.b) := by
 cases hr with
 | rd hr => cases hr
 | mp _ o' l ho' hm ht => exact ⟨l, ht, rfl⟩
theorem nilm_inv {u : Value} (hr : Rel C w τ H .nilm u) : u = .map none := by
 cases hr with
 | rd hr => cases hr; rfl
theorem getObj_of {b clock : Nat} {es : Array MapEntry} (h : w.heap[b]? = some (.map es clock)) : (getObj b).run P w = .ok (.map es clock) w := by
 simp only [getObj, Sem.run, h]
theorem snd_lookup {o : Oper} {t k el : TypeId} {x i : Operand} {x' i' : AOpd} {n : Nat} {zero : AVal} {ok : Bool} (ho : o.op = .lookup t x i ok) (hu : P.underlying t = some (.map k el)) (hn : keyA P k = some n)
  (hz : zeroV P el = some zero) (hx : compOpd x = some x') (hi : compOpd i = some i') (hs : SA E C τ ρ H a w)
  (h : opA P (.lookupM n zero ok x' i') ρ H K) : OpRes P ((execOp a.eval o).run P w) (Out E ρ a K) := by
 simp only [opA, evK_eq] at h
 have hr := hs.ev hx
 have hri := hs.ev hi
 obtain ⟨d, hd, hdn⟩ := und_of_key hn
 obtain ⟨iz, hiz, hzz⟩ : ∃ iz, P.info? el = some iz ∧ iz.zero.map ofConst = some zero := by
  unfold zeroV at hz
  split at hz
  ·rename_i iz hiz; exact ⟨iz, hiz, hz⟩
  ·cases hz
 obtain ⟨z, hz1, rfl⟩ := Option.map_eq_some_iff.1 hzz
 have hzv : (zeroValue el).run P w = .ok z w := by simp [zeroValue, run_info hiz, hz1]
 have none' : (execOp a.eval o).run P w = .ok (.value (if ok then .tuple #[z, .bool false] else z)) w →
   (ok = true → K (.tuple [ofConst z, .bool false]) H) → (ok = false → K (ofConst z) H) → OpRes P ((execOp a.eval o).run P w) (Out E ρ a K) := by
  intro run h1 h2
  rw [run]
  cases ok with
  | true =>
   refine out_same hs (h1 rfl) (.tuple _ _ rfl fun i c v hc hv => ?_)
   match i, hc, hv with
   | 0, hc, hv => simp at hc hv; subst hc hv; exact rel_ofConst _
   | 1, hc, hv => simp at hc hv; subst hc hv; exact .rd (.bool _)
   | i + 2, hc, hv => simp at hc
  | false => exact out_same hs (h2 rfl) (rel_ofConst _)
 have key : ∀ (id : Nat) (kvs : List (AVal × AVal)) (l : Loc) (es : Array MapEntry) (clock : Nat), a.eval x = .map (some l.b) → w.heap[l.b]? = some (.map es clock) → es.size = kvs.length →
   (∀ (i : Nat) (e : MapEntry) (kv : AVal × AVal), es[i]? = some e → kvs[i]? = some kv → e.key = kv.1.lit ∧ Rel C w τ H kv.2 e.val) → keyOk n (ev ρ i') kvs = true →
   (ok = true → optK (mfind n (ev ρ i') kvs) (K (.tuple [ofConst z, .bool false]) H) fun e => K (.tuple [e, .bool true]) H) →
   (ok = false → optK (mfind n (ev ρ i') kvs) (K (ofConst z) H) fun e => K e H) → OpRes P ((execOp a.eval o).run P w) (Out E ρ a K) := by
  intro id kvs l es clock hux hheap hsz hes hok hT hF
  simp only [keyOk, Bool.and_eq_true] at hok
  have hlit := lit_rel hri (isLit_of_eqCell hok.1)
  have hck := run_checkKey (P := P) (w := w) hn hok.1
  rcases find_of hdn es.toList kvs 0 (by simpa using hsz) (fun j e kv he hkv => (hes j e kv (by simpa using he) hkv).1) hok.2 with ⟨h1, h2, _⟩ | ⟨j, e, kv, h1, h2, h3, h4, h5, _⟩
  ·rw [h1] at hT hF
   refine none' ?_ hT hF
   simp only [execOp, ho, hux, hlit, Instr.lookup, Sem.run_bind, run_und hu, Result.andThen_ok, getObj_of hheap, hck, run_findKey hd h2, hzv, Sem.run_pure]
  ·have run : (execOp a.eval o).run P w = .ok (.value (if ok then .tuple #[e.val, .bool true] else e.val)) w := by
    simp only [execOp, ho, hux, hlit, Instr.lookup, Sem.run_bind, run_und hu, Result.andThen_ok, getObj_of hheap, hck, run_findKey hd h4, Sem.run_pure]
   rw [run]
   rw [h3] at hT hF
   have hrel := (hes j e kv (by simpa using h1) h2).2
   cases ok with
   | true =>
    refine out_same hs (hT rfl) (.tuple _ _ rfl fun i c v hc hv => ?_)
    match i, hc, hv with
    | 0, hc, hv => simp at hc hv; subst hc hv; exact hrel
    | 1, hc, hv => simp at hc hv; subst hc hv; exact .rd (.bool _)
    | i + 2, hc, hv => simp at hc
   | false => exact out_same hs (hF rfl) hrel
 split at h
 case h_3 => exact h.elim
 case h_1 hv =>
  rw [hv] at hr
  rw [chkA_iff] at h
  obtain ⟨hok, h⟩ := h
  simp only [keyOk, Bool.and_eq_true] at hok
  have hlit := lit_rel hri (isLit_of_eqCell hok.1)
  have hck := run_checkKey (P := P) (w := w) hn hok.1
  have hux := nilm_inv hr
  have h2 : Instr.findNow d (ev ρ i').lit (#[] : Array MapEntry).toList 0 = some none := rfl
  refine none' ?_ (fun e => by subst e; exact h) (fun e => by subst e; exact h)
  simp only [execOp, ho, hux, hlit, Instr.lookup, Sem.run_bind, run_und hu, Result.andThen_ok, Sem.run_pure, hck, run_findKey hd h2, hzv]
 case h_2 id hv =>
  rw [hv] at hr
  simp only [objK, idxA_iff] at h
  obtain ⟨ob, hob, h⟩ := h
  obtain ⟨l, hl, hux⟩ := mp_inv hr
  split at h
  case h_3 => exact h.elim
  case h_1 kvs =>
   obtain ⟨kvs0, es, clock, hp, hheap, hsz, hes, hnd, _⟩ := hs.st.wf.objs id _ l hob hl
   rw [chkA_iff] at h
   rw [← keyOk_perm hp, ← mfind_perm hp hnd] at h
   exact key id kvs0 l es clock hux hheap hsz hes h.1 (fun e => by subst e; exact h.2) (fun e => by subst e; exact h.2)
  case h_2 kvs bs ck =>
   obtain ⟨es, hheap, hsz, hes, _⟩ := hs.st.wf.objs id _ l hob hl
   rw [chkA_iff] at h
   exact key id kvs l es ck hux hheap hsz hes h.1 (fun e => by subst e; exact h.2) (fun e => by subst e; exact h.2)
theorem sameBits_lit {n : Nat} {k : AVal} (h : (eqCell n k k).isSome = true) : Instr.sameBits 10000 k.lit k.lit = true := by
 obtain ⟨c, hc⟩ := Option.isSome_iff_exists.1 h
 match n with
 | 0 => obtain ⟨p, q, rfl, _, _⟩ := eqCell0 hc; simp [AVal.lit, Instr.sameBits]
 | 1 => obtain ⟨k, p, q, rfl, _, _⟩ := eqCell1 hc; simp [AVal.lit, Instr.sameBits]
 | 2 => obtain ⟨p, q, rfl, _, _⟩ := eqCell2 hc; simp [AVal.lit, Instr.sameBits, beq_bytes]
 | n + 3 => unfold eqCell at hc; simp at hc
theorem List.map_modify_born {f : MapEntry → MapEntry} (hf : ∀ x, (f x).born = x.born) : ∀ (l : List MapEntry) (j : Nat), (l.modify j f).map MapEntry.born = l.map MapEntry.born
 | [], _ => by simp
 | x :: l, 0 => by simp [hf]
 | x :: l, j + 1 => by simp [List.map_modify_born hf l j]
theorem born_modify {es : Array MapEntry} {j : Nat} {f : MapEntry → MapEntry} (hf : ∀ x, (f x).born = x.born) : (es.modify j f).toList.map MapEntry.born = es.toList.map MapEntry.born := by
 rw [Array.toList_modify, List.map_modify_born hf]
theorem snd_mapSet {o : Oper} {t k el : TypeId} {x i y : Operand} {x' i' y' : AOpd} {n : Nat} (ho : o.op = .mapUpdate t x i y ∨ o.op = .insert t x i y) (hu : P.underlying t = some (.map k el)) (hn : keyA P k = some n)
  (hx : compOpd x = some x') (hi : compOpd i = some i') (hy : compOpd y = some y') (hs : SA E C τ ρ H a w)
  (h : opA P (.mapSet n x' i' y') ρ H K) : OpRes P ((execOp a.eval o).run P w) (Out E ρ a K) := by
 simp only [opA, evK_eq] at h
 have hr := hs.ev hx
 have hri := hs.ev hi
 have hry := hs.ev hy
 split at h
 case h_2 => exact h.elim
 rename_i id hv
 rw [hv] at hr
 simp only [objK, idxA_iff] at h
 obtain ⟨ob, hob, h⟩ := h
 split at h
 case h_2 => exact h.elim
 rename_i kvs
 obtain ⟨l, hl, hux⟩ := mp_inv hr
 obtain ⟨kvs0, es, clock, hp, hheap, hsz, hes, hnk, hnd, hlt⟩ := hs.st.wf.objs id _ l hob hl
 rw [chkA_iff] at h
 obtain ⟨hok, h⟩ := h
 rw [← keyOk_perm hp] at hok
 simp only [keyOk, Bool.and_eq_true] at hok
 have hlit := lit_rel hri (isLit_of_eqCell hok.1)
 obtain ⟨d, hd, hdn⟩ := und_of_key hn
 have hck := run_checkKey (P := P) (w := w) hn hok.1
 simp only [setO_eq] at h
 have hb := lt_of_heap hheap
 have fin : ∀ (es' : Array MapEntry) (clock' : Nat) (kvs' : List (AVal × AVal)), mput n (ev ρ i') (ev ρ y') kvs0 = kvs' → es'.size = kvs'.length →
   (∀ (C' : Nat → Nat) (τ' : Nat → Option Loc) (H' : List AObj) (w' : World), Step C τ H w C' τ' H' w' → ∀ (j : Nat) (e : MapEntry) (kv : AVal × AVal), es'[j]? = some e → kvs'[j]? = some kv → e.key = kv.1.lit ∧ Rel C' w' τ' H' kv.2 e.val) →
   (es'.toList.map MapEntry.born).Nodup → (∀ e ∈ es'.toList, e.born < clock') →
   (execOp a.eval o).run P w = .ok .skip ({ w with heap := w.heap.setIfInBounds l.b (.map es' clock') } : World) →
   OpRes P ((execOp a.eval o).run P w) (Out E ρ a K) := by
  intro es' clock' kvs' hkv hsz' hes' hnd' hlt' run
  rw [run]
  have hp' : kvs'.Perm (mput n (ev ρ i') (ev ρ y') kvs) := by rw [← hkv]; exact mput_perm hp hnk hok.2
  have hnk' : (kvs'.map fun kv => kv.1.lit).Nodup := by rw [← hkv]; exact mput_nodup hnk hok.2
  generalize hw' : ({ w with heap := w.heap.setIfInBounds l.b (.map es' clock') } : World) = w'
  obtain ⟨st, s1⟩ := hs.st.set_obj (w' := w') (o' := .map (mput n (ev ρ i') (ev ρ y') kvs)) hob hl (fun b hne => by
   rw [← hw']; simp only []; rw [Array.getElem?_setIfInBounds_ne (fun e => hne e.symm)]) (by rw [← hw']; simp) (by rw [← hw']) (by rw [← hw']) (by rw [← hw']) (by rw [← hw']) rfl trivial fun C' τ' H' s => by
    refine ⟨kvs', es', clock', hp', ?_, hsz', hes' _ _ _ _ s, hnk', hnd', hlt'⟩
    rw [← hw']
    simp only []
    rw [Array.getElem?_setIfInBounds_self_of_lt hb]
  exact out_step hs h (.tuple _ _ rfl fun i c v h => by simp at h) st s1
 have hset : ∀ (ob : Obj), (setObj l.b ob).run P w = .ok () ({ w with heap := w.heap.setIfInBounds l.b ob } : World) := fun ob => by
  simp only [setObj, Sem.run, hheap]
 rcases find_of hdn es.toList kvs0 0 (by simpa using hsz) (fun j e kv he hkv => (hes j e kv (by simpa using he) hkv).1) hok.2 with ⟨h1, h2, h3⟩ | ⟨j, e, kv, h1, h2, h3, h4, h5, h6⟩
 ·refine fin (es.push { key := a.eval i, val := a.eval y, born := clock }) (clock + 1) _ (h3 _) (by simp [hsz]) (fun C' τ' H' w' s j e kv he hkv => ?_) ?_ ?_ ?_
  ·rw [Array.getElem?_push] at he
   by_cases hj : j = es.size
   ·subst hj
    rw [if_pos rfl] at he
    rw [List.getElem?_append_right (by omega), hsz] at hkv
    simp at he hkv
    subst he hkv
    exact ⟨hlit, hry.mono s⟩
   ·rw [if_neg hj] at he
    have := (Array.getElem?_eq_some_iff.1 he).1
    rw [List.getElem?_append_left (by omega)] at hkv
    exact ⟨(hes j e kv he hkv).1, (hes j e kv he hkv).2.mono s⟩
  ·simp only [Array.toList_push, List.map_append, List.map_cons, List.map_nil]
   rw [List.nodup_append]
   refine ⟨hnd, by simp, fun x hx y hy => ?_⟩
   obtain ⟨e, he, rfl⟩ := List.mem_map.1 hx
   have := hlt e he
   simp at hy; omega
  ·intro e he
   simp only [Array.toList_push, List.mem_append, List.mem_singleton] at he
   rcases he with he | rfl
   ·have := hlt e he; omega
   ·simp
  ·rcases ho with ho | ho <;>
   simp only [execOp, ho, hux, hlit, Instr.mapUpdate, Sem.run_bind, run_und hu, Result.andThen_ok, getObj_of hheap, hck, run_findKey hd h2, hset, Sem.run_pure]
 ·have hj : es[j]? = some e := by simpa using h1
  have hkey : e.key = (ev ρ i').lit := by rw [(hes j e kv hj h2).1, lit_of_eq h5]
  have hjl := (Array.getElem?_eq_some_iff.1 hj).1
  refine fin (es.modify j fun x => { x with key := a.eval i, val := a.eval y }) clock _ (h6 _) (by simp [hsz]) (fun C' τ' H' w' s m x kv' he hkv => ?_) ?_ ?_ ?_
  ·rw [Array.getElem?_modify] at he
   rw [List.getElem?_set] at hkv
   by_cases hm : j = m
   ·subst hm
    rw [if_pos rfl, hj] at he
    rw [if_pos rfl, if_pos (by omega)] at hkv
    simp at he hkv
    subst he hkv
    exact ⟨by simp only []; rw [hlit, lit_of_eq h5], hry.mono s⟩
   ·rw [if_neg hm] at he hkv
    exact ⟨(hes m x kv' he hkv).1, (hes m x kv' he hkv).2.mono s⟩
  ·rw [born_modify (f := fun x => { x with key := a.eval i, val := a.eval y }) fun x => rfl]; exact hnd
  ·intro y1 hy1
   have hm : y1.born ∈ (es.modify j fun x => { x with key := a.eval i, val := a.eval y }).toList.map MapEntry.born := List.mem_map.2 ⟨y1, hy1, rfl⟩
   rw [born_modify (f := fun x => { x with key := a.eval i, val := a.eval y }) fun x => rfl] at hm
   obtain ⟨z, hz, e⟩ := List.mem_map.1 hm
   rw [← e]; exact hlt z hz
  ·have hks : (Instr.keyThatStays (((es[j]?).map (·.key)).getD (ev ρ i').lit) (ev ρ i').lit).run P w = .ok (ev ρ i').lit w := by
    rw [hj]
    simp only [Option.map_some, Option.getD_some, hkey]
    unfold Instr.keyThatStays
    rw [sameBits_lit hok.1]
    rfl
   rcases ho with ho | ho <;>
   simp only [execOp, ho, hux, hlit, Instr.mapUpdate, Sem.run_bind, run_und hu, Result.andThen_ok, getObj_of hheap, hck, run_findKey hd h4, hks, hset, Sem.run_pure, Nat.zero_add]
theorem Rd.recap {x : Bool} {sz : Nat} {es : List (List AVal)} {ad : Option Addr} {cap : Nat} (h : Rel C w τ H (.list x sz es) (.slice ad es.length cap)) : Rel C w τ H (.list true sz es) (.slice ad es.length es.length) := by
 cases h with
 | rd h =>
  cases h with
  | list0 => exact .rd (.list0 _ _ _ _ fun _ => rfl)
  | list _ _ _ b off cap vs hx hcap hsz hC hcell hp hrd => exact .rd (.list _ _ _ b off _ vs (fun _ => rfl) (Nat.le_refl _) hsz hC hcell hp hrd)
theorem snd_slice3 {o : Oper} {t el : TypeId} {x h m : Operand} {x' h' m' : AOpd} {n : Nat} (ho : o.op = .slice t x none (some h) (some m)) (hx : compOpd x = some x') (hh : compOpd h = some h') (hm : compOpd m = some m')
  (hu : P.underlying t = some (.slice el)) (hsz : sizeA P el = some n) (hs : SA E C τ ρ H a w) (hop : opA P (.slice3 n x' h' m') ρ H K) : OpRes P ((execOp a.eval o).run P w) (Out E ρ a K) := by
 simp only [opA, evK_eq] at hop
 have hr := hs.ev hx
 have hrh := hs.ev hh
 have hrm := hs.ev hm
 have bnd : ∀ (k : IntKind) (n : Int) (m : Nat) (code : BoundsCode), 0 ≤ n → n ≤ m → (Instr.sliceBound (.int k n) m code).run P w = .ok n.toNat w := by
  intro k n m code h0 h1
  simp [Instr.sliceBound, asIntOf, h0, h1]
 split at hop
 case h_2 => exact hop.elim
 rename_i ki i kj j ei ej
 rw [ei] at hrh
 rw [ej] at hrm
 have run : ∀ ad len cap, a.eval x = .slice ad len cap → i = j → 0 ≤ i → i ≤ cap →
   (execOp a.eval o).run P w = .ok (.value (.slice (if i.toNat = 0 then ad else ad.map (·.add (0 * n))) (i.toNat - 0) (i.toNat - 0))) w := by
  intro ad len cap e hij h0 hc
  subst hij
  have hb : (Instr.sliceBounds true len cap none (some (a.eval h)) (some (a.eval m))).run P w = .ok (0, i.toNat, i.toNat) w := by
   simp only [Instr.sliceBounds, hrh.int_inv, hrm.int_inv, Sem.run_bind, Sem.run_pure, Result.andThen_ok, bnd kj i cap _ h0 hc, bnd ki i i.toNat _ h0 (by omega)]
  simp only [execOp, ho, e, Option.map_none, Option.map_some, Instr.sliceAt, Instr.slice, Sem.run_bind, run_und hu, Result.andThen_ok, hb, run_size hsz, Sem.run_pure]
 split at hop
 case h_4 => exact hop.elim
 case h_3 id ep off len hv =>
  rw [hv] at hr
  simp only [objK, idxA_iff] at hop
  obtain ⟨ob, hob, hop⟩ := hop
  split at hop
  case h_2 => exact hop.elim
  rename_i s es
  simp only [chkA_iff, Nat.beq_eq, condA_eq] at hop
  obtain ⟨rfl, hep, ⟨hij, h0, hle⟩, hk⟩ := hop
  obtain ⟨ad, cap, e, hl1, hl2, hl3⟩ := hr.sl_inv hob hep
  rw [run _ _ _ e hij h0 (by omega)]
  simp only [Nat.sub_zero]
  by_cases hz : 0 < i
  ·rw [decide_eq_true hz] at hk
   have hz2 : ¬ i.toNat = 0 := by omega
   rw [if_neg hz2]
   rcases hl3 with ⟨_, hc⟩ | ⟨l, hl, hlc, hla⟩
   ·omega
   ·rcases hla with hc | rfl
    ·omega
    ·refine out_same hs hk (.slc id ep off i.toNat i.toNat _ s es hob (by omega) fun _ => ⟨by omega, Nat.le_refl _, l, hl, .inr ?_⟩)
     simp [Addr.add]
  ·rw [decide_eq_false hz] at hk
   have hz2 : i.toNat = 0 := by omega
   rw [if_pos hz2, hz2]
   exact out_same hs hk (.rd (.list0 _ _ _ _ fun _ => rfl))
 case h_1 hv =>
  rw [hv] at hr
  obtain ⟨⟨rfl, rfl⟩, hk⟩ := hop
  rw [run _ _ _ hr.nil_inv rfl (Int.le_refl _) (by simp)]
  exact out_same hs hk (.rd .nil)
 case h_2 ex s es hv =>
  rw [hv] at hr
  simp only [chkA_iff, Nat.beq_eq] at hop
  obtain ⟨rfl, ⟨hij, h0, hle⟩, hk⟩ := hop
  obtain ⟨ad, cap, e, hcap, _⟩ := hr.list_inv
  rw [e] at hr
  rw [run _ _ _ e hij h0 (by omega)]
  have h1 := Rd.subslice hr (Nat.zero_le i.toNat) (by omega) false (fun e => by cases e)
  simp only [List.drop_zero, Nat.sub_zero] at h1 ⊢
  have hl : (es.take i.toNat).length = i.toNat := by simp; omega
  refine out_same hs hk ?_
  by_cases hz : i.toNat = 0
  ·rw [if_pos hz, hz]
   exact .rd (.list0 _ _ _ _ fun _ => rfl)
  ·have hc0 : ¬ cap = 0 := by omega
   rw [if_neg hz]
   rw [if_neg hc0] at h1
   have h2 := Rd.recap (cap := cap) (by rw [hl]; exact h1)
   rw [hl] at h2
   exact h2
theorem snd_arrAddr {o : Oper} {t e : TypeId} {x i : Operand} {x' i' : AOpd} {n s : Nat} (ho : o.op = .indexAddr t x i) (hx : compOpd x = some x') (hi : compOpd i = some i') (hu : P.underlying t = some (.array n e))
  (hsz : sizeA P e = some s) (hs : SA E C τ ρ H a w) (h : opA P (.arrAddr s n x' i') ρ H K) : OpRes P ((execOp a.eval o).run P w) (Out E ρ a K) := by
 simp only [opA, evK_eq] at h
 have hr := hs.ev hx
 have hri := hs.ev hi
 split at h
 case h_2 => exact h.elim
 rename_i k m hm
 rw [hm] at hri
 have em := hri.int_inv
 have run : ∀ ad : Addr, a.eval x = .pointer (some ad) → 0 ≤ m → m < n → (execOp a.eval o).run P w = .ok (.value (.pointer (some (ad.add (m.toNat * s))))) w := by
  intro ad e1 h0 h1
  simp only [execOp, ho, e1, em, Instr.indexAt, Instr.sureAddr, asIntOf, Sem.run_bind, run_und hu, Result.andThen_ok, Sem.run_pure, if_pos (And.intro h0 h1), run_size hsz]
 split at h
 case h_3 => exact h.elim
 case h_1 id ep idx fld hv =>
  rw [hv] at hr
  obtain ⟨⟨h0, h1⟩, hk⟩ := h
  generalize hz : a.eval x = z at hr
  cases hr with
  | rd hr => cases hr
  | ptr _ _ _ _ ad esz es g1 g2 g3 =>
   rw [run _ hz h0 h1]
   refine out_same hs hk (.ptr _ _ _ _ _ _ _ g1 g2 fun hep => ?_)
   obtain ⟨l, h4, rfl⟩ := g3 hep
   exact ⟨l, h4, by rw [addr_add, Nat.add_assoc]⟩
 case h_2 e fld hv =>
  rw [hv] at hr
  obtain ⟨⟨h0, h1⟩, hk⟩ := h
  generalize hz : a.eval x = z at hr
  cases hr with
  | rd hr =>
   cases hr with
   | cptr _ _ b off vs hC hcell hp hrd =>
    rw [run _ hz h0 h1]
    refine out_same hs hk (.rd ?_)
    rw [addr_add, Nat.add_assoc]
    exact .cptr _ _ b off vs hC hcell hp hrd
theorem fillA_ok (hs : SA E C τ ρ H a w) {s : Nat} : ∀ (ps : List (Nat × Operand)) (qs : List (Nat × Nat × AOpd)) (cs : List AVal) (cells : Array Value) (Kf : List AVal → Prop),
  compArr s ps = some qs → cs.length = cells.size → (∀ (i : Nat) (c : AVal) (v : Value), cs[i]? = some c → cells[i]? = some v → Rel C w τ H c v) → fillK ρ qs cs Kf →
  ∃ cs' cells', Instr.fill (fun i => some (i * s, s)) cells (ps.map fun p => (p.1, a.eval p.2)) = some cells' ∧ cs'.length = cells'.size ∧ (∀ (i : Nat) (c : AVal) (v : Value), cs'[i]? = some c → cells'[i]? = some v → Rel C w τ H c v) ∧ Kf cs'
 | [], qs, cs, cells, Kf, hc, hl, hr, h => by
  simp only [compArr, Option.some.injEq] at hc; subst hc
  exact ⟨cs, cells, rfl, hl, hr, h⟩
 | (i, x) :: ps, qs, cs, cells, Kf, hc, hl, hr, h => by
  simp only [compArr, Option.bind_eq_bind, Option.bind_eq_some_iff, Option.pure_def, Option.some.injEq] at hc
  obtain ⟨y, hy, qs', hq, rfl⟩ := hc
  simp only [fillK_cons, evK_eq] at h
  have hrx := hs.ev hy
  split at h
  case h_2 => exact h.elim
  rename_i u hu
  simp only [chkA_iff, Bool.and_eq_true, decide_eq_true_eq] at h
  obtain ⟨⟨hus, hfit⟩, h⟩ := h
  obtain ⟨c1, c2⟩ := hrx.cells hu
  have hfold := arr_foldl (a.eval x).cells cells (i * s)
  obtain ⟨cs', cells', e1, e2, e3, e4⟩ := fillA_ok hs ps qs' (putCells cs (i * s) u) ((a.eval x).cells.zipIdx.foldl (fun cs (c, j) => cs.setIfInBounds (i * s + j) c) cells) Kf hq (by rw [length_putCells, hfold, foldl_size]; exact hl) (fun m c v hm hv => by
   rw [putCells_getElem? u cs (i * s) (by omega)] at hm
   rw [hfold, foldl_set _ _ _ _ (by simp; omega)] at hv
   simp only [Array.length_toList, Nat.add_zero] at hv
   by_cases hin : i * s ≤ m ∧ m < i * s + u.length
   ·rw [if_pos hin] at hm
    rw [if_pos (by omega)] at hv
    rw [Array.getElem?_toList] at hv
    exact c2 _ c v hm hv
   ·rw [if_neg hin] at hm
    rw [if_neg (by omega)] at hv
    exact hr m c v hm hv) h
  refine ⟨cs', cells', ?_, e2, e3, e4⟩
  have hcond : (decide ((a.eval x).cells.size ≠ s) || decide (i * s + (a.eval x).cells.size > cells.size)) = false := by
   simp only [Bool.or_eq_false_iff, decide_eq_false_iff_not]; omega
  simp only [List.map_cons, Instr.fill, hcond, Bool.false_eq_true, if_false, e1]
theorem snd_buildA {o : Oper} {t e : TypeId} {n s : Nat} {parts : Array (Nat × Operand)} {zero : List AVal} {qs : List (Nat × Nat × AOpd)} (ho : o.op = .build t parts) (hu : P.underlying t = some (.array n e)) (hz : zeroA P t = some zero)
  (hsz : sizeA P e = some s) (hq : compArr s parts.toList = some qs) (hs : SA E C τ ρ H a w) (h : opA P (.build zero qs) ρ H K) : OpRes P ((execOp a.eval o).run P w) (Out E ρ a K) := by
 simp only [opA] at h
 obtain ⟨i, z, hi, hz1, hzs, hzi, hzr⟩ := zero_rel (C := C) (w := w) (τ := τ) (H := H) hz
 obtain ⟨cs', cells', e1, e2, e3, hk⟩ := fillA_ok hs parts.toList qs zero z.cells _ hq hzs hzr h
 have hk := forceK_mono hk
 have hfill : Instr.fill (fun i => some (i * s, s)) z.cells ((parts.map fun (i, x) => (i, a.eval x)).toList) = some cells' := by
  rw [Array.toList_map]
  exact e1
 have run : (execOp a.eval o).run P w = .ok (.value (.agg cells')) w := by
  simp only [execOp, ho, Instr.build, Sem.run_bind, zeroValue, run_info hi, Result.andThen_ok, hz1, Sem.run_pure, run_und hu, run_size hsz, hfill]
 rw [run]
 exact out_same hs hk (.agg _ _ e2 e3)
end
section
variable {P : Program} {E : Env} {C : Nat → Nat} {τ : Nat → Option Loc} {ρ : List AVal} {H : List AObj} {a : Act} {w : World} {K : AVal → List AObj → Prop}
theorem WF.map (hw : WF C τ H w) {id : Nat} {kvs : List (AVal × AVal)} {l : Loc} (ho : H[id]? = some (.map kvs) ∨ ∃ bs ck, H[id]? = some (.bmap kvs bs ck)) (hl : τ id = some l) :
  ∃ es clock, w.heap[l.b]? = some (.map es clock) ∧ es.size = kvs.length := by
 rcases ho with ho | ⟨bs, ck, ho⟩
 ·obtain ⟨kvs0, es, clock, hp, h1, h2, _⟩ := hw.objs id _ l ho hl
  exact ⟨es, clock, h1, by rw [h2, hp.length_eq]⟩
 ·obtain ⟨es, h1, h2, _⟩ := hw.objs id _ l ho hl
  exact ⟨es, ck, h1, h2⟩
theorem snd_lenM {o : Oper} {t k el : TypeId} {x : Operand} {x' : AOpd} (hop : o.op = .call { callee := .builtin .len, args := #[x], argTypes := #[t] }) (hx : compOpd x = some x')
  (hu : P.underlying t = some (.map k el)) (hs : SA E C τ ρ H a w) (h : opA P (.lenM x') ρ H K) : OpRes P ((execOp a.eval o).run P w) (Out E ρ a K) := by
 simp only [opA, evK_eq] at h
 have hr := hs.ev hx
 split at h
 case h_3 => exact h.elim
 case h_1 hv =>
  rw [hv] at hr
  have : (execOp a.eval o).run P w = .ok (.value (.int .i64 0)) w := by
   simp [execOp, hop, resolve, invoke, builtin, Builtin.len_, nilm_inv hr, run_und hu, goInt]
  rw [this]
  exact out_same hs h (.rd (.int _ _))
 case h_2 id hv =>
  rw [hv] at hr
  simp only [objK, idxA_iff] at h
  obtain ⟨ob, hob, h⟩ := h
  obtain ⟨l, hl, hux⟩ := mp_inv hr
  have fin : ∀ (kvs : List (AVal × AVal)), (H[id]? = some (.map kvs) ∨ ∃ bs ck, H[id]? = some (.bmap kvs bs ck)) → K (.int .i64 kvs.length) H → OpRes P ((execOp a.eval o).run P w) (Out E ρ a K) := by
   intro kvs ho hk
   obtain ⟨es, clock, h1, h2⟩ := hs.st.wf.map ho hl
   have : (execOp a.eval o).run P w = .ok (.value (.int .i64 kvs.length)) w := by
    simp [execOp, hop, resolve, invoke, builtin, Builtin.len_, hux, run_und hu, goInt, getObj_of h1, h2]
   rw [this]
   exact out_same hs hk (.rd (.int _ _))
  split at h
  case h_3 => exact h.elim
  case h_1 kvs => exact fin kvs (.inl hob) h
  case h_2 kvs bs ck => exact fin kvs (.inr ⟨bs, ck, hob⟩) h
theorem run_isNilM {op : BinOp} {t k el : TypeId} {p : Option Nat} (hd : P.underlying t = some (.map k el)) (hop : op = .eql ∨ op = .neq) :
  (binOp op t (.map p) (.map none)).run P w = .ok (.bool (if decide (op = .neq) then !p.isNone else p.isNone)) w := by
 have : (Op.equal t (.map p) (.map none)).run P w = .ok p.isNone w := by
  show (Op.equalIn (9999 + 1) t (.map p) (.map none)).run P w = _
  rw [Op.equalIn]
  cases p <;> simp only [Sem.run_bind, run_und hd, Result.andThen_ok, Sem.run_pure, Option.isNone_none, Option.isNone_some]
 rcases hop with rfl | rfl <;> simp [binOp, this]
theorem snd_isNilM {o : Oper} {op : BinOp} {t u k el : TypeId} {x y : Operand} {x' : AOpd} (ho : o.op = .binOp op t x y u) (hx : compOpd x = some x') (hy : isNilMA y = true) (hd : P.underlying t = some (.map k el)) (hop : op = .eql ∨ op = .neq)
  (hs : SA E C τ ρ H a w) (h : opA P (.isNilM (decide (op = .neq)) x') ρ H K) : OpRes P ((execOp a.eval o).run P w) (Out E ρ a K) := by
 simp only [opA, evK_eq] at h
 have hr := hs.ev hx
 have hyn : y = .const (.map none) := by
  unfold isNilMA at hy
  split at hy
  ·rfl
  ·cases hy
 subst hyn
 have run : ∀ p, a.eval x = .map p → (execOp a.eval o).run P w = .ok (.value (.bool (if decide (op = .neq) then !p.isNone else p.isNone))) w := by
  intro p e
  have e0 : a.eval (.const (.map none)) = .map none := rfl
  simp only [execOp, ho, e, e0, Sem.run_bind, run_eqGuard (v := .map _) rfl (by simp), Result.andThen_ok, run_isNilM hd hop, Sem.run_pure]
 split at h
 case h_3 => exact h.elim
 case h_1 hv =>
  rw [hv] at hr
  rw [run _ (nilm_inv hr)]
  rcases hop with rfl | rfl <;> exact out_same hs h (.rd (.bool _))
 case h_2 id hv =>
  rw [hv] at hr
  obtain ⟨l, hl, hux⟩ := mp_inv hr
  rw [run _ hux]
  rcases hop with rfl | rfl <;> exact out_same hs h (.rd (.bool _))
theorem run_isNilF {op : BinOp} {t : TypeId} {ps rs : Array TypeId} {vd : Bool} {f : Fn} {a b : Array Value} (hd : P.underlying t = some (.func ps rs vd)) (hop : op = .eql ∨ op = .neq) :
  (binOp op t (.func f a b) .nilFunc).run P w = .ok (.bool (decide (op = .neq))) w := by
 have : (Op.equal t (.func f a b) .nilFunc).run P w = .ok false w := by
  show (Op.equalIn (9999 + 1) t (.func f a b) .nilFunc).run P w = _
  rw [Op.equalIn]
  simp only [Sem.run_bind, run_und hd, Result.andThen_ok, Sem.run_pure]
 rcases hop with rfl | rfl <;> simp [binOp, this]
theorem snd_isNilF {o : Oper} {op : BinOp} {t u : TypeId} {ps rs : Array TypeId} {vd : Bool} {x y : Operand} {x' : AOpd} (ho : o.op = .binOp op t x y u) (hx : compOpd x = some x') (hy : isNilFA y = true) (hd : P.underlying t = some (.func ps rs vd)) (hop : op = .eql ∨ op = .neq)
  (hs : SA E C τ ρ H a w) (h : opA P (.isNilF (decide (op = .neq)) x') ρ H K) : OpRes P ((execOp a.eval o).run P w) (Out E ρ a K) := by
 simp only [opA, evK_eq] at h
 have hr := hs.ev hx
 have hyn : y = .const .nilFunc := by
  unfold isNilFA at hy
  split at hy
  ·rfl
  ·cases hy
 subst hyn
 have run : ∀ f b c, a.eval x = .func f b c → (execOp a.eval o).run P w = .ok (.value (.bool (decide (op = .neq)))) w := by
  intro f b c e
  have e0 : a.eval (.const .nilFunc) = .nilFunc := rfl
  simp only [execOp, ho, e, e0, Sem.run_bind, run_eqGuard (v := .func _ _ _) rfl (by simp), Result.andThen_ok, run_isNilF hd hop, Sem.run_pure]
 split at h
 case h_3 => exact h.elim
 case h_1 hv =>
  rw [hv] at hr
  obtain ⟨f, b, c, hux⟩ : ∃ f b c, a.eval x = .func f b c := by
   generalize a.eval x = z at hr
   cases hr with
   | rd hr => cases hr; exact ⟨_, _, _, rfl⟩
   | fn => exact ⟨_, _, _, rfl⟩
  rw [run _ _ _ hux]
  exact out_same hs h (.rd (.bool _))
 case h_2 hv =>
  rw [hv] at hr
  obtain ⟨f, b, c, hux⟩ : ∃ f b c, a.eval x = .func f b c := by
   generalize a.eval x = z at hr
   cases hr with
   | rd hr => cases hr
   | fnb => exact ⟨_, _, _, rfl⟩
  rw [run _ _ _ hux]
  exact out_same hs h (.rd (.bool _))
theorem run_isNilP {op : BinOp} {t e : TypeId} {p : Option Addr} (hd : P.underlying t = some (.pointer e)) (hop : op = .eql ∨ op = .neq) :
  (binOp op t (.pointer p) (.pointer none)).run P w = .ok (.bool (if decide (op = .neq) then !p.isNone else p.isNone)) w := by
 have : (Op.equal t (.pointer p) (.pointer none)).run P w = .ok p.isNone w := by
  show (Op.equalIn (9999 + 1) t (.pointer p) (.pointer none)).run P w = _
  rw [Op.equalIn]
  cases p <;> simp only [Sem.run_bind, run_und hd, Result.andThen_ok, Sem.run_pure, Option.isNone_none, Option.isNone_some]
 rcases hop with rfl | rfl <;> simp [binOp, this]
theorem snd_isNilP {o : Oper} {op : BinOp} {t u e : TypeId} {x y : Operand} {x' : AOpd} (ho : o.op = .binOp op t x y u) (hx : compOpd x = some x') (hy : isNilPA y = true) (hd : P.underlying t = some (.pointer e)) (hop : op = .eql ∨ op = .neq)
  (hs : SA E C τ ρ H a w) (h : opA P (.isNilP (decide (op = .neq)) x') ρ H K) : OpRes P ((execOp a.eval o).run P w) (Out E ρ a K) := by
 simp only [opA, evK_eq] at h
 have hr := hs.ev hx
 have hyn : y = .const (.pointer none) := by
  unfold isNilPA at hy
  split at hy
  ·rfl
  ·cases hy
 subst hyn
 have run : ∀ p, a.eval x = .pointer p → (execOp a.eval o).run P w = .ok (.value (.bool (if decide (op = .neq) then !p.isNone else p.isNone))) w := by
  intro p e
  have e0 : a.eval (.const (.pointer none)) = .pointer none := rfl
  simp only [execOp, ho, e, e0, Sem.run_bind, run_eqGuard (v := .pointer _) rfl (by simp), Result.andThen_ok, run_isNilP hd hop, Sem.run_pure]
 split at h
 case h_4 => exact h.elim
 case h_1 hv =>
  rw [hv] at hr
  have hux : a.eval x = .pointer none := by
   generalize a.eval x = z at hr
   cases hr with
   | rd hr => cases hr; rfl
  rw [run _ hux]
  rcases hop with rfl | rfl <;> exact out_same hs h (.rd (.bool _))
 case h_2 hv =>
  rw [hv] at hr
  obtain ⟨ad, hux⟩ : ∃ ad, a.eval x = .pointer (some ad) := by
   generalize a.eval x = z at hr
   cases hr with
   | rd hr => cases hr
   | ptr => exact ⟨_, rfl⟩
  rw [run _ hux]
  rcases hop with rfl | rfl <;> exact out_same hs h (.rd (.bool _))
 case h_3 hv =>
  rw [hv] at hr
  obtain ⟨ad, hux⟩ : ∃ ad, a.eval x = .pointer (some ad) := by
   generalize a.eval x = z at hr
   cases hr with
   | rd hr => cases hr; exact ⟨_, rfl⟩
  rw [run _ hux]
  rcases hop with rfl | rfl <;> exact out_same hs h (.rd (.bool _))
theorem find_of2 {d : TypeDesc} {n : Nat} (hd : (n = 0 ∧ d = .bool) ∨ (n = 1 ∧ ∃ kk, d = .int kk) ∨ (n = 2 ∧ d = .string)) {k : AVal} :
  ∀ (es : List MapEntry) (kvs : List (AVal × AVal)) (i : Nat), es.length = kvs.length → (∀ (j : Nat) (e : MapEntry) (kv : AVal × AVal), es[j]? = some e → kvs[j]? = some kv → e.key = kv.1.lit) →
   (kvs.all fun kv => (eqCell n k kv.1).isSome) = true →
   (midx n k kvs = none ∧ mdel n k kvs = kvs ∧ Instr.findNow d k.lit es i = some none) ∨
   ∃ j e kv, es[j]? = some e ∧ kvs[j]? = some kv ∧ midx n k kvs = some j ∧ mdel n k kvs = kvs.eraseIdx j ∧ Instr.findNow d k.lit es i = some (some (i + j, e.val)) ∧ eqCell n k kv.1 = some true
 | [], [], i, _, _, _ => .inl ⟨rfl, rfl, rfl⟩
 | [], _ :: _, _, h, _, _ => by simp at h
 | _ :: _, [], _, h, _, _ => by simp at h
 | e :: es, kv :: kvs, i, hl, hk, hs => by
  simp only [List.all_cons, Bool.and_eq_true] at hs
  obtain ⟨b, hb⟩ := Option.isSome_iff_exists.1 hs.1
  have hkey := hk 0 e kv rfl rfl
  have hsn := sameNow_of hd hb
  cases b with
  | true =>
   refine .inr ⟨0, e, kv, rfl, rfl, ?_, ?_, ?_, hb⟩
   ·simp only [midx, hb]
   ·simp only [mdel, hb, List.eraseIdx_zero, List.tail_cons]
   ·simp only [Instr.findNow, hkey, hsn, Nat.add_zero]
  | false =>
   rcases find_of2 hd es kvs (i + 1) (by simpa using hl) (fun j x y hx hy => hk (j + 1) x y hx hy) hs.2 with ⟨h1, h2, h3⟩ | ⟨j, x, y, h1, h2, h3, h4, h5, h6⟩
   ·refine .inl ⟨?_, ?_, ?_⟩
    ·simp only [midx, hb, h1, Option.map_none]
    ·simp only [mdel, hb, h2]
    ·simp only [Instr.findNow, hkey, hsn, h3]
   ·refine .inr ⟨j + 1, x, y, h1, h2, ?_, ?_, ?_, h6⟩
    ·simp only [midx, hb, h3, Option.map_some]
    ·simp only [mdel, hb, h4, List.eraseIdx_cons_succ]
    ·simp only [Instr.findNow, hkey, hsn, h5]; rw [show i + 1 + j = i + (j + 1) from by omega]
theorem mdel_eq {n : Nat} {k : AVal} : ∀ {l : List (AVal × AVal)}, (l.map fun kv => kv.1.lit).Nodup → mdel n k l = mrest n k l
 | [], _ => rfl
 | kv :: l, hn => by
  rw [List.map_cons, List.nodup_cons] at hn
  by_cases h : eqCell n k kv.1 = some true
  ·have e : mrest n k (kv :: l) = mrest n k l := by unfold mrest; rw [List.filter_cons, if_neg (by simp [h])]
   rw [e, mrest_self fun x hx h1 => hn.1 (List.mem_map.2 ⟨x, hx, by rw [← lit_of_eq h, lit_of_eq h1]⟩)]
   simp only [mdel, h]
  ·have e : mdel n k (kv :: l) = kv :: mdel n k l := by
    rw [mdel]
    split
    ·rename_i h2; exact absurd h2 h
    ·rfl
   have e2 : mrest n k (kv :: l) = kv :: mrest n k l := by unfold mrest; rw [List.filter_cons, if_pos (by simpa using h)]
   rw [e, e2, mdel_eq hn.2]
theorem mdel_perm {n : Nat} {k : AVal} {a b : List (AVal × AVal)} (h : a.Perm b) (hn : (a.map fun kv => kv.1.lit).Nodup) : (mdel n k a).Perm (mdel n k b) := by
 rw [mdel_eq hn, mdel_eq ((h.map _).nodup_iff.1 hn)]
 exact h.filter _
theorem mdel_nodup {n : Nat} {k : AVal} {a : List (AVal × AVal)} (hn : (a.map fun kv => kv.1.lit).Nodup) : ((mdel n k a).map fun kv => kv.1.lit).Nodup := by
 rw [mdel_eq hn]
 exact hn.sublist ((List.filter_sublist ..).map _)
theorem List.map_eraseIdx_born : ∀ (l : List MapEntry) (j : Nat), (l.eraseIdx j).map MapEntry.born = (l.map MapEntry.born).eraseIdx j
 | [], _ => by simp
 | _ :: _, 0 => by simp
 | x :: l, j + 1 => by simp [List.map_eraseIdx_born l j]
theorem setBlock_at {b : Nat} {ob : Obj} (hb : b < w.heap.size) : (ChangeMaps.setBlock w b ob).heap[b]? = some ob := by
 simp only [ChangeMaps.setBlock]
 rw [Array.getElem?_setIfInBounds_self_of_lt hb]
theorem St.setb {w0 : World} {Pr : Nat → Prop} (hs : St w0 Pr C τ H w) {id : Nat} {o o' : AObj} {l : Loc} {ob : Obj} (hob : H[id]? = some o) (hl : τ id = some l) (haft : o.after o' (some l) (some l)) (hok : o'.ok)
  (hat : ∀ (C' : Nat → Nat) (τ' : Nat → Option Loc) (H' : List AObj), Step C τ H w C' τ' H' (ChangeMaps.setBlock w l.b ob) → ObjAt C' (ChangeMaps.setBlock w l.b ob) τ' H' l o') :
  St w0 Pr C τ (H.set id o') (ChangeMaps.setBlock w l.b ob) ∧ Step C τ H w C τ (H.set id o') (ChangeMaps.setBlock w l.b ob) :=
 hs.set_obj hob hl (fun b hne => by simp only [ChangeMaps.setBlock]; rw [Array.getElem?_setIfInBounds_ne (fun e => hne e.symm)]) (by simp [ChangeMaps.setBlock]) rfl rfl rfl rfl haft hok hat
theorem St.see {w0 : World} {Pr : Nat → Prop} (hs : St w0 Pr C τ H w) {id : Nat} {o o' : AObj} {l : Loc} (hob : H[id]? = some o) (hl : τ id = some l) (haft : o.after o' (some l) (some l)) (hok : o'.ok)
  (hat : ∀ (C' : Nat → Nat) (τ' : Nat → Option Loc) (H' : List AObj), Step C τ H w C' τ' H' w → ObjAt C' w τ' H' l o') :
  St w0 Pr C τ (H.set id o') w ∧ Step C τ H w C τ (H.set id o') w :=
 hs.set_obj hob hl (fun _ _ => rfl) rfl rfl rfl rfl rfl haft hok hat
theorem St.reveal {w0 : World} {Pr : Nat → Prop} (hs : St w0 Pr C τ H w) {id : Nat} {kvs : List (AVal × AVal)} {l : Loc} (hob : H[id]? = some (.map kvs)) (hl : τ id = some l) :
  ∃ (kvs0 : List (AVal × AVal)) (bs : List Nat) (ck : Nat) (es : Array MapEntry), kvs0.Perm kvs ∧ bs.length = kvs0.length ∧ bs.Nodup ∧ (∀ b ∈ bs, b < ck) ∧ w.heap[l.b]? = some (.map es ck) ∧
   St w0 Pr C τ (H.set id (.bmap kvs0 bs ck)) w ∧ Step C τ H w C τ (H.set id (.bmap kvs0 bs ck)) w := by
 obtain ⟨kvs0, es, ck, hp, h1, h2, h3, hn, h4, h5⟩ := hs.wf.objs id _ l hob hl
 obtain ⟨st, s1⟩ := hs.see (o' := .bmap kvs0 (es.toList.map MapEntry.born) ck) hob hl rfl trivial fun C' τ' H' s =>
  ⟨es, h1, h2, fun i e kv he hkv => ⟨(h3 i e kv he hkv).1, (h3 i e kv he hkv).2.mono s⟩, hn, rfl, h4, fun b hb => by
   obtain ⟨e, he, rfl⟩ := List.mem_map.1 hb
   exact h5 e he⟩
 exact ⟨kvs0, es.toList.map MapEntry.born, ck, es, hp, by simp [h2], h4, fun b hb => by
  obtain ⟨e, he, rfl⟩ := List.mem_map.1 hb
  exact h5 e he, h1, st, s1⟩
theorem snd_deleteM {o : Oper} {t k el : TypeId} {tys : List TypeId} {x i : Operand} {x' i' : AOpd} {n : Nat} (hop : o.op = .call { callee := .builtin .delete, args := #[x, i], argTypes := ⟨t :: tys⟩ }) (hu : P.underlying t = some (.map k el)) (hn : keyA P k = some n)
  (hx : compOpd x = some x') (hi : compOpd i = some i') (hs : SA E C τ ρ H a w) (h : opA P (.deleteM n x' i') ρ H K) : OpRes P ((execOp a.eval o).run P w) (Out E ρ a K) := by
 simp only [opA, evK_eq] at h
 have hr := hs.ev hx
 have hri := hs.ev hi
 obtain ⟨d, hd, hdn⟩ := und_of_key hn
 split at h
 case h_3 => exact h.elim
 case h_1 hv =>
  rw [hv] at hr
  rw [chkA_iff] at h
  obtain ⟨hok, h⟩ := h
  simp only [keyOk, Bool.and_eq_true] at hok
  have hlit := lit_rel hri (isLit_of_eqCell hok.1)
  have hck := run_checkKey (P := P) (w := w) hn hok.1
  have hux := nilm_inv hr
  have : (execOp a.eval o).run P w = .ok (.value (.tuple #[])) w := by
   simp [execOp, hop, resolve, invoke, builtin, Builtin.delete_, hux, hlit, run_und hu, hck]
  rw [this]
  exact out_same hs h (.tuple _ _ rfl fun i c v h => by simp at h)
 case h_2 id hv =>
  rw [hv] at hr
  simp only [objK, idxA_iff] at h
  obtain ⟨ob, hob, h⟩ := h
  obtain ⟨l, hl, hux⟩ := mp_inv hr
  split at h
  case h_2 => exact h.elim
  rename_i kvs
  rw [chkA_iff] at h
  obtain ⟨hok, h⟩ := h
  obtain ⟨kvs0, es, clock, hp, hheap, hsz, hes, hnk, hnd, hlt⟩ := hs.st.wf.objs id _ l hob hl
  rw [← keyOk_perm hp] at hok
  simp only [keyOk, Bool.and_eq_true] at hok
  simp only [setO_eq] at h
  have hlit := lit_rel hri (isLit_of_eqCell hok.1)
  have hck := run_checkKey (P := P) (w := w) hn hok.1
  have hb := lt_of_heap hheap
  have hset : ∀ (ob : Obj), (setObj l.b ob).run P w = .ok () (ChangeMaps.setBlock w l.b ob) := fun ob => by
   simp only [setObj, Sem.run, hheap]; rfl
  have fin : ∀ (es' : Array MapEntry), es'.size = (mdel n (ev ρ i') kvs0).length →
    (∀ (j : Nat) (e : MapEntry) (kv : AVal × AVal), es'[j]? = some e → (mdel n (ev ρ i') kvs0)[j]? = some kv → e.key = kv.1.lit ∧ Rel C w τ H kv.2 e.val) →
    (es'.toList.map MapEntry.born).Nodup → (∀ e ∈ es'.toList, e.born < clock) →
    (execOp a.eval o).run P w = .ok (.value (.tuple #[])) (ChangeMaps.setBlock w l.b (.map es' clock)) → OpRes P ((execOp a.eval o).run P w) (Out E ρ a K) := by
   intro es' h1 h2 h3 h4 run
   rw [run]
   obtain ⟨st, s1⟩ := hs.st.setb (ob := .map es' clock) (o' := .map (mdel n (ev ρ i') kvs)) hob hl rfl trivial fun C' τ' H' s =>
    ⟨mdel n (ev ρ i') kvs0, es', clock, mdel_perm hp hnk, setBlock_at hb, h1, fun i e kv he hkv => ⟨(h2 i e kv he hkv).1, (h2 i e kv he hkv).2.mono s⟩, mdel_nodup hnk, h3, h4⟩
   exact out_step hs h (.tuple _ _ rfl fun i c v h => by simp at h) st s1
  rcases find_of2 hdn es.toList kvs0 0 (by simpa using hsz) (fun j e kv he hkv => (hes j e kv (by simpa using he) hkv).1) hok.2 with ⟨h1, h2, h3⟩ | ⟨j, e, kv, h1, h2, h3, h4, h5, h6⟩
  ·refine fin es (by rw [h2, hsz]) (by rw [h2]; exact hes) hnd hlt ?_
   simp [execOp, hop, resolve, invoke, builtin, Builtin.delete_, hux, hlit, run_und hu, hck, getObj_of hheap, run_findKey hd h3, hset]
  ·have hj : es[j]? = some e := by simpa using h1
   have hjl := (Array.getElem?_eq_some_iff.1 hj).1
   have htl : (es.eraseIdxIfInBounds j).toList = es.toList.eraseIdx j := by
    rw [Array.eraseIdxIfInBounds, dif_pos hjl, Array.toList_eraseIdx]
   refine fin (es.eraseIdxIfInBounds j) ?_ ?_ ?_ ?_ ?_
   ·rw [← Array.length_toList, htl, h4, List.length_eraseIdx, List.length_eraseIdx, Array.length_toList, hsz]
   ·rw [h4]
    intro m x kv' he hkv
    rw [← Array.getElem?_toList, htl, List.getElem?_eraseIdx] at he
    rw [List.getElem?_eraseIdx] at hkv
    split at he
    ·rename_i hm; rw [if_pos hm] at hkv; exact hes m x kv' (by simpa using he) hkv
    ·rename_i hm; rw [if_neg hm] at hkv; exact hes (m + 1) x kv' (by simpa using he) hkv
   ·rw [htl, List.map_eraseIdx_born]
    exact hnd.sublist (List.eraseIdx_sublist ..)
   ·intro y hy
    rw [htl] at hy
    exact hlt y ((List.eraseIdx_sublist ..).subset hy)
   ·simp [execOp, hop, resolve, invoke, builtin, Builtin.delete_, hux, hlit, run_und hu, hck, getObj_of hheap, run_findKey hd h5, hset]
theorem snd_rangeM {o : Oper} {t k el : TypeId} {x : Operand} {x' : AOpd} (ho : o.op = .range t x) (hu : P.underlying t = some (.map k el)) (hx : compOpd x = some x') (hs : SA E C τ ρ H a w)
  (h : opA P (.rangeM x') ρ H K) : OpRes P ((execOp a.eval o).run P w) (Out E ρ a K) := by
 simp only [opA, evK_eq] at h
 have hr := hs.ev hx
 have runS : ∀ (b : Nat) (es : Array MapEntry) (ck : Nat), a.eval x = .map (some b) → w.heap[b]? = some (.map es ck) → (execOp a.eval o).run P w = .ok (.value (.pointer (some ⟨w.heap.size, 0, none⟩))) (w.alloc (.mapIter (some b) ck #[] ck)) := by
  intro b es ck e hh
  simp only [execOp, ho, e, Instr.range, Sem.run_bind, run_und hu, Result.andThen_ok, getObj_of hh, Sem.run_pure, run_newObj_alloc]
 have go : ∀ {m : Nat} {kvs : List (AVal × AVal)} {bs : List Nat} {ck : Nat} {es : Array MapEntry} {l : Loc} {H1 : List AObj}, H1[m]? = some (.bmap kvs bs ck) → τ m = some l → a.eval x = .map (some l.b) → w.heap[l.b]? = some (.map es ck) →
   St E.w0 E.Pr C τ H1 w → Step C τ H w C τ H1 w → K (.it H1.length) (H1 ++ [.mit (some m) ck []]) → OpRes P ((execOp a.eval o).run P w) (Out E ρ a K) := by
  intro m kvs bs ck es l H1 g1 g2 g3 g4 st1 s1 hk
  rw [runS _ _ _ g3 g4]
  obtain ⟨st, s2⟩ := st1.alloc_obj (.mapIter (some l.b) ck #[] ck) (.mit (some m) ck []) 0 trivial fun C' τ' H' w' s hh => by
   obtain ⟨o', ho', ha⟩ := s.obj m _ g1
   obtain ⟨h1, h2⟩ := AObj.after_mp rfl ha
   exact ⟨o', l, ho', h1, h2.trans g2, hh⟩
  exact out_step hs hk (.mt H1.length (some m) ck [] _ (by simp) (updF_same _ _ _)) st (s1.trans s2)
 split at h
 case h_3 => exact h.elim
 case h_1 hv =>
  rw [hv] at hr
  simp only [snocK_eq, Nat.zero_add] at h
  have run : (execOp a.eval o).run P w = .ok (.value (.pointer (some ⟨w.heap.size, 0, none⟩))) (w.alloc (.mapIter none 0 #[] 0)) := by
   simp only [execOp, ho, nilm_inv hr, Instr.range, Sem.run_bind, run_und hu, Result.andThen_ok, Sem.run_pure, run_newObj_alloc]
  rw [run]
  obtain ⟨st, s1⟩ := hs.st.alloc_obj (.mapIter none 0 #[] 0) (.mit none 0 []) 0 trivial fun C' τ' H' w' _ hh => hh
  exact out_step hs h (.mt H.length none 0 [] _ (by simp) (updF_same _ _ _)) st s1
 case h_2 m hv =>
  rw [hv] at hr
  simp only [objK, idxA_iff] at h
  obtain ⟨ob, hob, h⟩ := h
  obtain ⟨l, hl, hux⟩ := mp_inv hr
  split at h
  case h_3 => exact h.elim
  case h_1 kvs =>
   obtain ⟨kvs0, bs, ck, es, hp, h1, h2, h3, h4, st, s1⟩ := hs.st.reveal hob hl
   have h := h kvs0 bs ck hp h1 h2 h3
   simp only [setO_eq, snocK_eq, Nat.zero_add] at h
   have hm := (List.getElem?_eq_some_iff.1 hob).1
   exact go (List.getElem?_set_self hm) hl hux h4 st s1 h
  case h_2 kvs bs ck =>
   simp only [snocK_eq, Nat.zero_add] at h
   obtain ⟨es, h4, _⟩ := hs.st.wf.objs m _ l hob hl
   exact go hob hl hux h4 hs.st .refl h
theorem rel_lit {k : AVal} (h : k.isLit = true) : Rel C w τ H k k.lit := by
 cases k <;> simp only [AVal.isLit, Bool.false_eq_true] at h
 ·exact .rd (.bool _)
 ·exact .rd (.int _ _)
 ·exact .rd (.str _)
theorem it_inv {id : Nat} {u : Value} {mid : Option Nat} {ck : Nat} {seen : List Nat} (hr : Rel C w τ H (.it id) u) (ho : H[id]? = some (.mit mid ck seen)) : ∃ l, τ id = some l ∧ u = .pointer (some ⟨l.b, 0, none⟩) := by
 cases hr with
 | rd hr => cases hr
 | it _ s p l ho' ht => rw [ho] at ho'; cases ho'
 | mt _ _ _ _ l ho' ht => exact ⟨l, ht, rfl⟩
theorem snd_nextM {o : Oper} {x : Operand} {x' : AOpd} (ho : o.op = .next x false) (hx : compOpd x = some x') (hs : SA E C τ ρ H a w)
  (h : opA P (.nextM x') ρ H K) : OpRes P ((execOp a.eval o).run P w) (Out E ρ a K) := by
 simp only [opA, evK_eq] at h
 have hr := hs.ev hx
 split at h
 case h_2 => exact h.elim
 rename_i id hv
 rw [hv] at hr
 simp only [objK, idxA_iff] at h
 obtain ⟨ob, hob, h⟩ := h
 split at h
 case h_3 => exact h.elim
 case h_1 ck seen =>
  obtain ⟨l, hl, hux⟩ := it_inv hr hob
  have hat : w.heap[l.b]? = some (.mapIter none 0 #[] 0) := hs.st.wf.objs id _ l hob hl
  have hget : (getObj l.b).run P w = .ok (.mapIter none 0 #[] 0) w := by simp only [getObj, Sem.run, hat]
  have run : (execOp a.eval o).run P w = .ok (.value (.tuple #[.bool false])) w := by
   simp only [execOp, ho, hux, Instr.next, Sem.run_bind, hget, Result.andThen_ok, Sem.run_pure]
  rw [run]
  refine out_same hs h (.tuple _ _ rfl fun i c v hc hv => ?_)
  match i, hc, hv with
  | 0, hc, hv => simp at hc hv; subst hc hv; exact .rd (.bool _)
  | i + 1, hc, hv => simp at hc
 case h_2 m ck seen =>
  obtain ⟨om, hom, h⟩ := h
  split at h
  case h_2 => exact h.elim
  rename_i kvs bs c2
  rw [chkA_iff, Nat.beq_eq] at h
  obtain ⟨rfl, hstep, hover⟩ := h
  obtain ⟨l, hl, hux⟩ := it_inv hr hob
  obtain ⟨om', lm, g1, g2, g3, g4⟩ := hs.st.wf.objs id _ l hob hl
  obtain ⟨es, e1, e2, e3, _, e4, e5, e6⟩ := hs.st.wf.objs m _ lm hom g3
  have hborn : ∀ (i : Nat) (e : MapEntry), es[i]? = some e → bs[i]? = some e.born := fun i e he => by
   rw [← e4, List.getElem?_map, Array.getElem?_toList, he]; rfl
  have hold : ∀ y ∈ es.toList, y.born < c2 := fun y hy => e6 _ (by rw [← e4]; exact List.mem_map.2 ⟨y, hy, rfl⟩)
  rcases run_next_at (P := P) w o.type l.b lm.b c2 c2 seen.toArray es c2 g4 e1 hold (Nat.le_refl _) with ⟨h0, run⟩ | ⟨e, he, w1, hw1, run⟩
  ·have run : (execOp a.eval o).run P w = .ok (.value (.tuple #[.bool false])) w := by
    simp only [execOp, ho, hux, Sem.run_bind, run, Result.andThen_ok, Sem.run_pure]
   rw [run]
   refine out_same hs (hover fun b hb => ?_) (.tuple _ _ rfl fun i c v hc hv => ?_)
   ·rw [← e4] at hb
    obtain ⟨y, hy, rfl⟩ := List.mem_map.1 hb
    apply Classical.byContradiction
    intro hn
    have : y ∈ leftOf es seen.toArray := by
     unfold leftOf
     rw [Array.mem_filter]
     exact ⟨by simpa using hy, by simpa using hn⟩
    have hpos : 0 < (leftOf es seen.toArray).size := by
     obtain ⟨i, hi, _⟩ := Array.mem_iff_getElem.1 this
     omega
    omega
   ·match i, hc, hv with
    | 0, hc, hv => simp at hc hv; subst hc hv; exact .rd (.bool _)
    | i + 1, hc, hv => simp at hc
  ·have hmem : e ∈ es.toList ∧ e.born ∉ seen := by
    unfold leftOf at he
    rw [Array.mem_toList_iff, Array.mem_filter] at he
    exact ⟨by simpa using he.1, by simpa using he.2⟩
   obtain ⟨i, hi⟩ := List.getElem?_of_mem hmem.1
   have hi : es[i]? = some e := by simpa using hi
   have hil := (Array.getElem?_eq_some_iff.1 hi).1
   have hkv : kvs[i]? = some kvs[i] := List.getElem?_eq_getElem (by omega)
   have hk := hstep i _ _ hkv (hborn i e hi) hmem.2
   simp only [setO_eq, chkA_iff] at hk
   have run : (execOp a.eval o).run P w = .ok (.value (.tuple #[.bool true, e.key, e.val])) (ChangeMaps.setBlock w1 l.b (.mapIter (some lm.b) c2 (seen.toArray.push e.born) c2)) := by
    simp only [execOp, ho, hux, Sem.run_bind, run, Result.andThen_ok, Sem.run_pure]
   rw [run]
   obtain ⟨st0, s0⟩ : St E.w0 E.Pr C τ H w1 ∧ Step C τ H w C τ H w1 := by
    rcases hw1 with rfl | rfl
    ·exact ⟨hs.st, .refl⟩
    ·exact hs.st.same rfl rfl rfl rfl (Nat.le_succ _)
   have hh1 : w1.heap = w.heap := by rcases hw1 with rfl | rfl <;> rfl
   have hb : l.b < w1.heap.size := by rw [hh1]; exact lt_of_heap g4
   obtain ⟨st, s1⟩ := st0.setb (ob := .mapIter (some lm.b) c2 (seen.toArray.push e.born) c2) (o' := .mit (some m) c2 (seen ++ [e.born])) hob hl ⟨rfl, rfl⟩ trivial fun C' τ' H' s => by
    obtain ⟨o', ho', ha⟩ := s.obj m _ hom
    obtain ⟨q1, q2⟩ := AObj.after_mp rfl ha
    refine ⟨o', lm, ho', q1, q2.trans g3, ?_⟩
    rw [setBlock_at hb]
    simp
   have hrel := e3 i e _ hi hkv
   refine out_step hs hk.2 (.tuple _ _ rfl fun j c v hc hv => ?_) st (s0.trans s1)
   match j, hc, hv with
   | 0, hc, hv => simp at hc hv; subst hc hv; exact .rd (.bool _)
   | 1, hc, hv => simp at hc hv; subst hc hv; rw [hrel.1]; exact rel_lit hk.1
   | 2, hc, hv => simp at hc hv; subst hc hv; exact (hrel.2.mono s0).mono s1
   | j + 3, hc, hv => simp at hc
theorem snd_entryM {o : Oper} {x : Operand} {x' : AOpd} (ho : o.op = .entry x) (hx : compOpd x = some x') (hs : SA E C τ ρ H a w)
  (h : opA P (.entryM x') ρ H K) : OpRes P ((execOp a.eval o).run P w) (Out E ρ a K) := by
 simp only [opA, evK_eq] at h
 have hr := hs.ev hx
 split at h
 case h_2 => exact h.elim
 rename_i id hv
 rw [hv] at hr
 simp only [objK, idxA_iff] at h
 obtain ⟨ob, hob, h⟩ := h
 split at h
 case h_2 => exact h.elim
 rename_i m ck seen
 obtain ⟨om, hom, h⟩ := h
 split at h
 case h_2 => exact h.elim
 rename_i kvs bs c2
 simp only [chkA_iff, Nat.beq_eq] at h
 obtain ⟨rfl, i, kv, b, h1, h2, h3, h4, hk⟩ := h
 obtain ⟨l, hl, hux⟩ := it_inv hr hob
 obtain ⟨om', lm, g1, g2, g3, g4⟩ := hs.st.wf.objs id _ l hob hl
 obtain ⟨es, e1, e2, e3, _, e4, e5, e6⟩ := hs.st.wf.objs m _ lm hom g3
 have hil : i < es.size := by have := (List.getElem?_eq_some_iff.1 h3).1; omega
 have hi : es[i]? = some es[i] := Array.getElem?_eq_getElem hil
 have hb : es[i].born = b := by
  rw [← e4, List.getElem?_map, Array.getElem?_toList, hi] at h2
  simpa using h2
 have hseen : seen.toArray = (seen.dropLast.toArray).push es[i].born := by
  obtain ⟨ys, rfl⟩ := List.getLast?_eq_some_iff.1 h1
  rw [hb, List.push_toArray, List.dropLast_concat]
 rw [hseen] at g4
 have run : (execOp a.eval o).run P w = .ok (.value (.tuple #[es[i].key, es[i].val])) w := by
  have r0 := run_entry_at (P := P) w l.b lm.b c2 seen.dropLast.toArray es c2 es[i] g4 e1 (by simp) (by rw [show (es.toList.map fun x => x.born) = bs from e4]; exact e5)
  simp only [execOp, ho, hux, Sem.run_bind, r0, Result.andThen_ok, Sem.run_pure]
 rw [run]
 have hrel := e3 i _ kv hi h3
 refine out_same hs hk (.tuple _ _ rfl fun j c v hc hv => ?_)
 match j, hc, hv with
 | 0, hc, hv => simp at hc hv; subst hc hv; rw [hrel.1]; exact rel_lit h4
 | 1, hc, hv => simp at hc hv; subst hc hv; exact hrel.2
 | j + 2, hc, hv => simp at hc
theorem find_born_idx {b : Nat} : ∀ (es : List MapEntry) (i : Nat) (e : MapEntry), (es.map MapEntry.born).Nodup → es[i]? = some e → e.born = b → es.findIdx? (fun e => (e.born : Int) == (b : Int)) = some i
 | [], i, e, _, h, _ => by simp at h
 | x :: es, 0, e, hn, h, hb => by
  cases h
  simp [List.findIdx?_cons, hb]
 | x :: es, i + 1, e, hn, h, hb => by
  rw [List.map_cons, List.nodup_cons] at hn
  have h : es[i]? = some e := by simpa using h
  have hne : x.born ≠ b := fun hx => hn.1 (by rw [hx, ← hb]; exact List.mem_map.2 ⟨e, List.mem_of_getElem? h, rfl⟩)
  rw [List.findIdx?_cons, if_neg (by simp; omega), find_born_idx es i e hn.2 h hb]
  rfl
theorem midx_none {n : Nat} {k : AVal} : ∀ {l : List (AVal × AVal)}, midx n k l = none → ∀ kv ∈ l, eqCell n k kv.1 ≠ some true
 | [], _, kv, h => by cases h
 | x :: l, hm, kv, h => by
  rw [midx] at hm
  split at hm
  ·cases hm
  ·rename_i hne
   rcases List.mem_cons.1 h with rfl | h
   ·exact fun e => hne e
   ·exact midx_none (Option.map_eq_none_iff.1 hm) kv h
theorem keys_set {l : List (AVal × AVal)} {i : Nat} {kv : AVal × AVal} {v : AVal} (h : l[i]? = some kv) : (l.set i (kv.1, v)).map (fun kv => kv.1.lit) = l.map fun kv => kv.1.lit := by
 rw [List.map_set]
 apply List.ext_getElem?
 intro j
 rw [List.getElem?_set]
 by_cases e : i = j
 ·subst e
  have hi := (List.getElem?_eq_some_iff.1 h).1
  rw [if_pos rfl, if_pos (by simpa using hi), List.getElem?_map, h]; rfl
 ·rw [if_neg e]
theorem snd_mapEnt {o : Oper} {t k el : TypeId} {x i : Operand} {x' i' : AOpd} {n : Nat} {zero : AVal} (ho : o.op = .mapEntry t x i) (hu : P.underlying t = some (.map k el)) (hn : keyA P k = some n)
  (hz : zeroV P el = some zero) (hx : compOpd x = some x') (hi : compOpd i = some i') (hs : SA E C τ ρ H a w)
  (h : opA P (.mapEnt n zero x' i') ρ H K) : OpRes P ((execOp a.eval o).run P w) (Out E ρ a K) := by
 simp only [opA, evK_eq] at h
 have hr := hs.ev hx
 have hri := hs.ev hi
 split at h
 case h_2 => exact h.elim
 rename_i id hv
 rw [hv] at hr
 simp only [objK, idxA_iff] at h
 obtain ⟨ob, hob, h⟩ := h
 split at h
 case h_2 => exact h.elim
 rename_i kvs bs ck
 rw [chkA_iff] at h
 obtain ⟨hok, h⟩ := h
 simp only [keyOk, Bool.and_eq_true] at hok
 have hlit := lit_rel hri (isLit_of_eqCell hok.1)
 obtain ⟨d, hd, hdn⟩ := und_of_key hn
 obtain ⟨iz, hiz, hzz⟩ : ∃ iz, P.info? el = some iz ∧ iz.zero.map ofConst = some zero := by
  unfold zeroV at hz
  split at hz
  ·rename_i iz hiz; exact ⟨iz, hiz, hz⟩
  ·cases hz
 obtain ⟨z, hz1, rfl⟩ := Option.map_eq_some_iff.1 hzz
 have hzv : (zeroValue el).run P w = .ok z w := by simp [zeroValue, run_info hiz, hz1]
 have hck := run_checkKey (P := P) (w := w) hn hok.1
 obtain ⟨l, hl, hux⟩ := mp_inv hr
 obtain ⟨es, hheap, hsz, hes, hnk, e4, e5, e6⟩ := hs.st.wf.objs id _ l hob hl
 have hb := lt_of_heap hheap
 have hset : ∀ (ob : Obj), (setObj l.b ob).run P w = .ok () (ChangeMaps.setBlock w l.b ob) := fun ob => by
  simp only [setObj, Sem.run, hheap]; rfl
 rcases find_of2 hdn es.toList kvs 0 (by simpa using hsz) (fun j e kv he hkv => (hes j e kv (by simpa using he) hkv).1) hok.2 with ⟨h1, h2, h3⟩ | ⟨j, e, kv, h1, h2, h3, h4, h5, h6⟩
 ·rw [h1] at h
  simp only [optNK, setO_eq] at h
  have run : (execOp a.eval o).run P w = .ok (.value (.tuple #[z, goInt ck])) (ChangeMaps.setBlock w l.b (.map (es.push { key := a.eval i, val := z, born := ck }) (ck + 1))) := by
   simp only [execOp, ho, hux, hlit, Instr.mapEntry, Sem.run_bind, run_und hu, Result.andThen_ok, getObj_of hheap, hck, run_findKey hd h3, hzv, hset, Sem.run_pure]
  rw [run]
  obtain ⟨st, s1⟩ := hs.st.setb (ob := .map (es.push { key := a.eval i, val := z, born := ck }) (ck + 1)) (o' := .bmap (kvs ++ [(ev ρ i', ofConst z)]) (bs ++ [ck]) (ck + 1)) hob hl rfl trivial fun C' τ' H' s => by
   refine ⟨_, setBlock_at hb, by simp [hsz], fun j e kv he hkv => ?_, ?_, by simp [e4], ?_, fun b hb => ?_⟩
   ·rw [Array.getElem?_push] at he
    by_cases hj : j = es.size
    ·subst hj
     rw [if_pos rfl] at he
     rw [List.getElem?_append_right (by omega), hsz] at hkv
     simp at he hkv
     subst he hkv
     exact ⟨hlit, rel_ofConst _⟩
    ·rw [if_neg hj] at he
     have := (Array.getElem?_eq_some_iff.1 he).1
     rw [List.getElem?_append_left (by omega)] at hkv
     exact ⟨(hes j e kv he hkv).1, (hes j e kv he hkv).2.mono s⟩
   ·rw [List.map_append, List.map_cons, List.map_nil, List.nodup_append]
    refine ⟨hnk, by simp, fun x hx y hy => ?_⟩
    obtain ⟨kv, hkv, rfl⟩ := List.mem_map.1 hx
    simp only [List.mem_singleton] at hy
    subst hy
    obtain ⟨c, hc⟩ := Option.isSome_iff_exists.1 (List.all_eq_true.1 hok.2 kv hkv)
    cases c with
    | false => exact fun e => lit_ne_of hc e.symm
    | true => exact absurd hc (midx_none h1 kv hkv)
   ·rw [List.nodup_append]
    exact ⟨e5, by simp, fun x hx y hy => by have := e6 x hx; simp at hy; omega⟩
   ·simp only [List.mem_append, List.mem_singleton] at hb
    rcases hb with hb | rfl
    ·have := e6 b hb; omega
    ·omega
  refine out_step hs h (.tuple _ _ rfl fun j c v hc hv => ?_) st s1
  match j, hc, hv with
  | 0, hc, hv => simp at hc hv; subst hc hv; exact rel_ofConst _
  | 1, hc, hv => simp at hc hv; subst hc hv; exact .rd (.int _ _)
  | j + 2, hc, hv => simp at hc
 ·have hj : es[j]? = some e := by simpa using h1
  have hjl := (Array.getElem?_eq_some_iff.1 hj).1
  have hkey : e.key = (ev ρ i').lit := by rw [(hes j e kv hj h2).1, lit_of_eq h6]
  rw [h3] at h
  simp only [optNK, idxA_iff] at h
  obtain ⟨kv', hkv', b, hbs, hk⟩ := h
  rw [h2] at hkv'; cases hkv'
  have hbe : b = e.born := by
   rw [← e4, List.getElem?_map, Array.getElem?_toList, hj] at hbs
   simpa using hbs.symm
  subst hbe
  have hks : (Instr.keyThatStays (((es[j]?).map (·.key)).getD (ev ρ i').lit) (ev ρ i').lit).run P w = .ok (ev ρ i').lit w := by
   rw [hj]
   simp only [Option.map_some, Option.getD_some, hkey]
   unfold Instr.keyThatStays
   rw [sameBits_lit hok.1]
   rfl
  have hmod : (es.modify j fun e => { e with key := (ev ρ i').lit }) = es := by
   apply Array.ext_getElem?
   intro m
   rw [Array.getElem?_modify]
   by_cases hm : j = m
   ·subst hm
    rw [if_pos rfl, hj]
    simp only [Option.map_some]
    rw [← hkey]
   ·rw [if_neg hm]
  have run : (execOp a.eval o).run P w = .ok (.value (.tuple #[e.val, goInt e.born])) (ChangeMaps.setBlock w l.b (.map es ck)) := by
   have hbj : ((es[j]?).map (fun x => (x.born : Int))).getD 0 = e.born := by rw [hj]; rfl
   simp only [execOp, ho, hux, hlit, Instr.mapEntry, Sem.run_bind, run_und hu, Result.andThen_ok, getObj_of hheap, hck, run_findKey hd h5, Nat.zero_add, hks, hmod, hset, Sem.run_pure, hbj]
  rw [run]
  have hself : H.set id (.bmap kvs bs ck) = H := by
   apply List.ext_getElem?
   intro m
   rw [List.getElem?_set]
   by_cases hm : id = m
   ·subst hm; rw [if_pos rfl, if_pos (List.getElem?_eq_some_iff.1 hob).1, hob]
   ·rw [if_neg hm]
  obtain ⟨st, s1⟩ := hs.st.setb (ob := .map es ck) (o' := .bmap kvs bs ck) hob hl rfl trivial fun C' τ' H' s =>
   ⟨es, setBlock_at hb, hsz, fun i e kv he hkv => ⟨(hes i e kv he hkv).1, (hes i e kv he hkv).2.mono s⟩, hnk, e4, e5, e6⟩
  rw [hself] at st s1
  refine out_step hs hk (.tuple _ _ rfl fun m c v hc hv => ?_) st s1
  match m, hc, hv with
  | 0, hc, hv => simp at hc hv; subst hc hv; exact (hes j e kv hj h2).2.mono s1
  | 1, hc, hv => simp at hc hv; subst hc hv; exact .rd (.int _ _)
  | m + 2, hc, hv => simp at hc
theorem snd_entryStoreM {o : Oper} {t : TypeId} {x s y : Operand} {x' s' y' : AOpd} (ho : o.op = .entryStore t x s y)
  (hx : compOpd x = some x') (hi : compOpd s = some s') (hy : compOpd y = some y') (hs : SA E C τ ρ H a w)
  (h : opA P (.entryStoreM x' s' y') ρ H K) : OpRes P ((execOp a.eval o).run P w) (Out E ρ a K) := by
 simp only [opA, evK_eq] at h
 have hr := hs.ev hx
 have hri := hs.ev hi
 have hry := hs.ev hy
 split at h
 case h_2 => exact h.elim
 rename_i id sv hv hsv
 rw [hv] at hr
 rw [hsv] at hri
 simp only [objK, idxA_iff] at h
 obtain ⟨ob, hob, h⟩ := h
 split at h
 case h_2 => exact h.elim
 rename_i kvs bs ck
 obtain ⟨i, kv, b, h1, h2, h3, h⟩ := h
 simp only [setO_eq] at h
 obtain ⟨l, hl, hux⟩ := mp_inv hr
 obtain ⟨es, hheap, hsz, hes, hnk, e4, e5, e6⟩ := hs.st.wf.objs id _ l hob hl
 have hb := lt_of_heap hheap
 have hset : ∀ (ob : Obj), (setObj l.b ob).run P w = .ok () (ChangeMaps.setBlock w l.b ob) := fun ob => by
  simp only [setObj, Sem.run, hheap]; rfl
 have hil : i < es.size := by have := (List.getElem?_eq_some_iff.1 h3).1; omega
 have hi2 : es[i]? = some es[i] := Array.getElem?_eq_getElem hil
 have hbe : es[i].born = b := by
  rw [← e4, List.getElem?_map, Array.getElem?_toList, hi2] at h1
  simpa using h1
 have hfind : es.findIdx? (fun e => (e.born : Int) == sv) = some i := by
  rw [← h2, show es = es.toList.toArray from rfl, List.findIdx?_toArray]
  exact find_born_idx es.toList i es[i] (by rw [e4]; exact e5) (by rw [Array.getElem?_toList]; exact hi2) hbe
 have run : (execOp a.eval o).run P w = .ok .skip (ChangeMaps.setBlock w l.b (.map (es.modify i fun e => { e with val := a.eval y }) ck)) := by
  simp only [execOp, ho, hux, hri.int_inv, Instr.entryStore, Sem.run_bind, Result.andThen_ok, getObj_of hheap, asInt, asIntOf, Sem.run_pure, hfind, hset, Sem.run_map]
 rw [run]
 obtain ⟨st, s1⟩ := hs.st.setb (ob := .map (es.modify i fun e => { e with val := a.eval y }) ck) (o' := .bmap (kvs.set i (kv.1, ev ρ y')) bs ck) hob hl rfl trivial fun C' τ' H' s => by
  refine ⟨_, setBlock_at hb, by simp [hsz], fun m x kv' he hkv => ?_, by rw [keys_set h3]; exact hnk, by rw [born_modify (f := fun e => { e with val := a.eval y }) fun x => rfl]; exact e4, e5, e6⟩
  rw [Array.getElem?_modify] at he
  rw [List.getElem?_set] at hkv
  by_cases hm : i = m
  ·subst hm
   rw [if_pos rfl, hi2] at he
   rw [if_pos rfl, if_pos (by omega)] at hkv
   simp at he hkv
   subst he hkv
   exact ⟨(hes i _ kv hi2 h3).1, hry.mono s⟩
  ·rw [if_neg hm] at he hkv
   exact ⟨(hes m x kv' he hkv).1, (hes m x kv' he hkv).2.mono s⟩
 exact out_step hs h (.tuple _ _ rfl fun i c v h => by simp at h) st s1
end
section
variable {E : Env} {P : Program} {C : Nat → Nat} {τ : Nat → Option Loc} {ρ : List AVal} {H : List AObj} {a : Act} {w : World} {K : AVal → List AObj → Prop}
theorem opRes_of_callsX {f : FuncId} {args : List AVal} {vs : Array Value} (hs : SA E C τ ρ H a w) (hl : args.length = vs.size)
  (hr : ∀ (i : Nat) (c : AVal) (v : Value), args[i]? = some c → vs[i]? = some v → Rel C w τ H c v) (h : ACalls P f args H K) :
  OpRes P ((callFunc f vs).run P w) (Out E ρ a K) := by
 have h := h C τ w vs hs.st.wf hl hr
 have fin : ∀ {e : Ending} {w' : World}, (∃ v r C' τ' H', e = .returned v ∧ K r H' ∧ Rel C' w' τ' H' r v ∧ St w (PrCall τ H w) C' τ' H' w' ∧ Step C τ H w C' τ' H' w') → ∃ v, e = .returned v ∧ Out E ρ a K v w' := by
  rintro e w' ⟨v, r, C', τ', H', he, hk, hrel, hst, hstep⟩
  exact ⟨v, he, r, C', τ', H', hk, hrel, hs.go (hs.st.after hst) hstep⟩
 unfold CallsX at h
 unfold OpRes
 split at h
 ·rename_i g asv w' e
  rw [e]
  exact h.mono fun e w'' hh => fin hh
 ·rename_i v w' e
  rw [e]
  obtain ⟨v', he, hout⟩ := fin h
  cases he
  exact hout
 ·exact h.elim
theorem snd_call {o : Oper} {f : FuncId} {args : Array Operand} {tys : Array TypeId} {ys : List AOpd} (ho : o.op = .call { callee := .value (.func f), args := args, argTypes := tys }) (hc : compOpds args.toList = some ys)
  (hs : SA E C τ ρ H a w) (h : opA P (.call f ys) ρ H K) : OpRes P ((execOp a.eval o).run P w) (Out E ρ a K) := by
 simp only [opA, evsK_eq] at h
 have hr := evsK_rel hs _ _ hc
 have run : (execOp a.eval o).run P w = (callFunc f (args.map a.eval)).run P w := by
  simp [execOp, ho, resolve, Deferred.ofValue, invoke, Act.eval]
 rw [run]
 exact opRes_of_callsX hs (by simpa using hr.1) (fun i c v h1 h2 => hr.2 i c v h1 (by rw [← h2]; simp)) h
theorem snd_callv {o : Oper} {t : Nat} {args : Array Operand} {tys : Array TypeId} {ys : List AOpd} (ho : o.op = .call { callee := .value (.tmp t), args := args, argTypes := tys }) (hc : compOpds args.toList = some ys)
  (hs : SA E C τ ρ H a w) (h : opA P (.callv (.t t) ys) ρ H K) : OpRes P ((execOp a.eval o).run P w) (Out E ρ a K) := by
 simp only [opA, evsK_eq, evK_eq] at h
 have hr := evsK_rel hs _ _ hc
 have hrf := hs.ev (x := .tmp t) (y := .t t) rfl
 split at h
 case h_3 => exact h.elim
 ·rename_i f caps hv
  rw [hv] at hrf
  obtain ⟨vs, e, hl, hrel⟩ : ∃ vs, a.eval (.tmp t) = .func (.func f) #[] vs ∧ caps.length = vs.size ∧ ∀ (i : Nat) (c : AVal) (v : Value), caps[i]? = some c → vs[i]? = some v → Rel C w τ H c v := by
   generalize a.eval (.tmp t) = z at hrf
   cases hrf with
   | rd hrf => cases hrf; exact ⟨#[], rfl, rfl, fun i c v h => by simp at h⟩
   | fn f cs vs hl h => exact ⟨vs, rfl, hl, h⟩
  have run : (execOp a.eval o).run P w = (callFunc f (args.map a.eval ++ vs)).run P w := by
   simp [execOp, ho, resolve, Deferred.ofValue, invoke, e]
  rw [run]
  refine opRes_of_callsX hs (by have := hr.1; simp at this ⊢; omega) (fun i c v h1 h2 => ?_) h
  by_cases hi : i < ys.length
  ·rw [List.getElem?_append_left (by simpa using hi)] at h1
   have hsz : args.size = ys.length := by have := hr.1; simp at this; omega
   rw [Array.getElem?_append_left (by simpa using (by omega : i < args.size))] at h2
   exact hr.2 i c v h1 (by rw [← h2]; simp)
  ·have hsz : args.size = ys.length := by have := hr.1; simp at this; omega
   rw [List.getElem?_append_right (by simpa using hi)] at h1
   rw [Array.getElem?_append_right (by simp; omega)] at h2
   simp only [List.length_map, Array.size_map] at h1 h2
   exact hrel _ c v h1 (by rw [← h2, hsz])
 ·rename_i f caps hv
  rw [hv] at hrf
  obtain ⟨vs, e, hl, hrel⟩ : ∃ vs, a.eval (.tmp t) = .func (.func f) vs #[] ∧ caps.length = vs.size ∧ ∀ (i : Nat) (c : AVal) (v : Value), caps[i]? = some c → vs[i]? = some v → Rel C w τ H c v := by
   generalize a.eval (.tmp t) = z at hrf
   cases hrf with
   | rd hrf => cases hrf
   | fnb f cs vs hl h => exact ⟨vs, rfl, hl, h⟩
  have run : (execOp a.eval o).run P w = (callFunc f (vs ++ args.map a.eval)).run P w := by
   simp [execOp, ho, resolve, Deferred.ofValue, invoke, e]
  rw [run]
  have hsz : args.size = ys.length := by have := hr.1; simp at this; omega
  refine opRes_of_callsX hs (by simp; omega) (fun i c v h1 h2 => ?_) h
  by_cases hi : i < caps.length
  ·rw [List.getElem?_append_left hi] at h1
   rw [Array.getElem?_append_left (by omega)] at h2
   exact hrel i c v h1 h2
  ·rw [List.getElem?_append_right (by omega)] at h1
   rw [Array.getElem?_append_right (by omega)] at h2
   rw [← hl] at h2
   exact hr.2 _ c v h1 (by rw [← h2]; simp)
theorem op_sound {o : Oper} {oj : Bool} {ao : AOp} (hc : compOp P oj o.op = some ao) (hs : SA E C τ ρ H a w) (h : opA P ao ρ H K) : OpRes P ((execOp a.eval o).run P w) (Out E ρ a K) := by
 cases ho : o.op with
 | move x => rw [ho] at hc; simp only [compOp, Option.bind_eq_bind, Option.bind_eq_some_iff, Option.pure_def, Option.some.injEq] at hc; obtain ⟨x', hx, rfl⟩ := hc; exact snd_move (.inl ho) hx hs h
 | assign x => rw [ho] at hc; simp only [compOp, Option.bind_eq_bind, Option.bind_eq_some_iff, Option.pure_def, Option.some.injEq] at hc; obtain ⟨x', hx, rfl⟩ := hc; exact snd_move (.inr ho) hx hs h
 | pick c x y =>
  rw [ho] at hc; simp only [compOp, Option.bind_eq_bind, Option.bind_eq_some_iff, Option.pure_def, Option.some.injEq] at hc
  obtain ⟨c', hc', x', hx, y', hy, rfl⟩ := hc; exact snd_pick ho hc' hx hy hs h
 | alloc e => rw [ho] at hc; simp only [compOp, Option.bind_eq_bind, Option.bind_eq_some_iff, Option.pure_def, Option.some.injEq] at hc; obtain ⟨z, hz, rfl⟩ := hc; exact snd_alloc ho hz hs h
 | box e x => rw [ho] at hc; simp only [compOp, Option.bind_eq_bind, Option.bind_eq_some_iff, Option.pure_def, Option.some.injEq] at hc; obtain ⟨x', hx, rfl⟩ := hc; exact snd_box ho hx hs h
 | build t parts =>
  rw [ho] at hc; simp only [compOp] at hc
  split at hc
  ·rename_i fs hu
   split at hc
   ·rename_i hp
    simp only [Option.bind_eq_bind, Option.bind_eq_some_iff, Option.pure_def, Option.some.injEq] at hc
    obtain ⟨z, hz, qs, hq, rfl⟩ := hc
    exact snd_build ho hu hz hp hq hs h
   ·cases hc
  ·rename_i n e hu
   simp only [Option.bind_eq_bind, Option.bind_eq_some_iff, Option.pure_def, Option.some.injEq] at hc
   obtain ⟨z, hz, s, hsz, qs, hq, rfl⟩ := hc
   exact snd_buildA ho hu hz hsz hq hs h
  ·cases hc
 | buildSlice t len parts =>
  rw [ho] at hc; simp only [compOp] at hc
  cases oj <;> simp only [Bool.false_eq_true, if_false, if_true, Option.bind_eq_bind, Option.bind_eq_some_iff, Option.pure_def, Option.some.injEq] at hc <;> obtain ⟨e, he, s, hsz, z, hz, r, hr, rfl⟩ := hc
  ·exact snd_buildSlice ho he hsz hz hr hs (.inl h)
  ·exact snd_buildSlice ho he hsz hz hr hs (.inr h)
 | load t x =>
  rw [ho] at hc; simp only [compOp, Option.bind_eq_bind, Option.bind_eq_some_iff, Option.pure_def, Option.some.injEq] at hc
  obtain ⟨ag, ht, s, hsz, x', hx, rfl⟩ := hc; exact snd_load ho hx ht hsz hs h
 | store t x y =>
  rw [ho] at hc; simp only [compOp, Option.bind_eq_bind, Option.bind_eq_some_iff, Option.pure_def, Option.some.injEq] at hc
  obtain ⟨s, hsz, x', hx, y', hy, rfl⟩ := hc; exact snd_store ho hx hy hsz hs h
 | nilCheck x => rw [ho] at hc; simp only [compOp, Option.bind_eq_bind, Option.bind_eq_some_iff, Option.pure_def, Option.some.injEq] at hc; obtain ⟨x', hx, rfl⟩ := hc; exact snd_nop ho hx hs h
 | binOp op t x y u =>
  rw [ho] at hc; simp only [compOp, Option.bind_eq_bind, Option.bind_eq_some_iff] at hc
  obtain ⟨x', hx, y', hy, hc⟩ := hc
  have eqcase : op = .eql ∨ op = .neq → (match P.underlying t with
   | some (.slice _) => if isNilA y then pure (.isNil (decide (op = .neq)) x') else none
   | some (.map _ _) => if isNilMA y then pure (.isNilM (decide (op = .neq)) x') else none
   | some (.pointer _) => if isNilPA y then pure (.isNilP (decide (op = .neq)) x') else none
   | some (.func _ _ _) => if isNilFA y then pure (.isNilF (decide (op = .neq)) x') else none
   | some .bool => pure (.eqb (decide (op = .neq)) x' y')
   | some (.int _) | some .string => pure (.bin op x' y')
   | some (.struct fs) => if P.stoodInHeld t || P.eqGuardType P.depth t then none else do pure (.eqs (decide (op = .neq)) (← fieldKinds P fs.toList 0) x' y')
   | _ => none : Option AOp) = some ao → OpRes P ((execOp a.eval o).run P w) (Out E ρ a K) := by
   intro hop hc
   split at hc
   ·rename_i hu
    split at hc
    ·rename_i hy'; simp only [Option.pure_def, Option.some.injEq] at hc; subst hc; exact snd_isNil ho hx hy' hu hop hs h
    ·cases hc
   ·rename_i hu
    split at hc
    ·rename_i hy'; simp only [Option.pure_def, Option.some.injEq] at hc; subst hc; exact snd_isNilM ho hx hy' hu hop hs h
    ·cases hc
   ·rename_i hu
    split at hc
    ·rename_i hy'; simp only [Option.pure_def, Option.some.injEq] at hc; subst hc; exact snd_isNilP ho hx hy' hu hop hs h
    ·cases hc
   ·rename_i hu
    split at hc
    ·rename_i hy'; simp only [Option.pure_def, Option.some.injEq] at hc; subst hc; exact snd_isNilF ho hx hy' hu hop hs h
    ·cases hc
   ·rename_i hu; simp only [Option.pure_def, Option.some.injEq] at hc; subst hc; exact snd_eqb ho hx hy hu hop hs h
   ·simp only [Option.pure_def, Option.some.injEq] at hc; subst hc; exact snd_bin ho hx hy hs h
   ·simp only [Option.pure_def, Option.some.injEq] at hc; subst hc; exact snd_bin ho hx hy hs h
   ·rename_i fs hu
    split at hc
    ·cases hc
    ·rename_i hg
     simp only [Option.bind_eq_bind, Option.bind_eq_some_iff, Option.pure_def, Option.some.injEq] at hc
     obtain ⟨ks, hks, rfl⟩ := hc
     simp only [Bool.or_eq_true, not_or, Bool.not_eq_true] at hg
     exact snd_eqs ho hx hy hu hop hg.1 hg.2 hks hs h
   ·cases hc
  split at hc
  ·exact eqcase (.inl rfl) hc
  ·exact eqcase (.inr rfl) hc
  ·simp only [Option.pure_def, Option.some.injEq] at hc; subst hc; exact snd_bin ho hx hy hs h
 | unOp op t x => rw [ho] at hc; simp only [compOp, Option.bind_eq_bind, Option.bind_eq_some_iff, Option.pure_def, Option.some.injEq] at hc; obtain ⟨x', hx, rfl⟩ := hc; exact snd_un ho hx hs h
 | convert s d x =>
  rw [ho] at hc; simp only [compOp, Option.bind_eq_bind, Option.bind_eq_some_iff] at hc
  obtain ⟨x', hx, hc⟩ := hc
  have byte : ∀ e, isByteA P e = true → P.underlying e = some (.int .u8) := by
   intro e he
   unfold isByteA at he
   split at he
   ·assumption
   ·cases he
  split at hc
  ·rename_i h1 h2; simp only [Option.pure_def, Option.some.injEq] at hc; subst hc; exact snd_conv ho hx h1 h2 hs h
  ·rename_i h1 h2; simp only [Option.pure_def, Option.some.injEq] at hc; subst hc; exact snd_convSS ho hx h1 h2 hs h
  ·rename_i h1 h2
   split at hc
   ·rename_i hb; simp only [Option.pure_def, Option.some.injEq] at hc; subst hc; exact snd_convBS ho hx h1 h2 (byte _ hb) hs h
   ·cases hc
  ·rename_i h1 h2
   split at hc
   ·rename_i hb; simp only [Option.pure_def, Option.some.injEq] at hc; subst hc; exact snd_convSB ho hx h1 h2 (byte _ hb) hs h
   ·cases hc
  ·rename_i e1 e2 h1 h2
   split at hc
   ·rename_i hb
    simp only [Bool.and_eq_true, decide_eq_true_eq] at hb
    obtain ⟨rfl, hb⟩ := hb
    rw [h1] at h2; cases h2
    simp only [Option.pure_def, Option.some.injEq] at hc; subst hc; exact snd_mark ho hx h1 (byte _ hb) hs h
   ·cases hc
  ·cases hc
 | makeFunc fn first caps =>
  rw [ho] at hc; cases fn <;> simp only [compOp] at hc <;> try (cases hc; done)
  split at hc
  ·rename_i hf
   simp only [Option.bind_eq_bind, Option.bind_eq_some_iff, Option.pure_def, Option.some.injEq] at hc
   obtain ⟨ys, hy, rfl⟩ := hc; exact snd_makeFunc ho hf hy hs h
  ·split at hc
   ·rename_i hf
    simp only [Option.bind_eq_bind, Option.bind_eq_some_iff, Option.pure_def, Option.some.injEq] at hc
    obtain ⟨ys, hy, rfl⟩ := hc; exact snd_makeFuncB ho hf hy hs h
   ·cases hc
 | makeSlice t l c =>
  rw [ho] at hc; simp only [compOp, Option.bind_eq_bind, Option.bind_eq_some_iff, Option.pure_def, Option.some.injEq] at hc
  obtain ⟨e, he, hc⟩ := hc
  cases oj
  ·simp only [Bool.false_eq_true, if_false, Option.bind_eq_bind, Option.bind_eq_some_iff, Option.pure_def, Option.some.injEq] at hc
   obtain ⟨s, hsz, b, hb, z, hz, l', hl, c', hc', rfl⟩ := hc; exact snd_mkSlice ho hl hc' he hsz hb hz hs h
  ·simp only [if_true, Option.bind_eq_bind, Option.bind_eq_some_iff, Option.pure_def, Option.some.injEq] at hc
   obtain ⟨s, hsz, b, hb, z, hz, l', hl, c', hc', rfl⟩ := hc; exact snd_mkSliceC ho hl hc' he hsz hb hz hs h
 | slice t x lo hi mx =>
  rw [ho] at hc; simp only [compOp] at hc
  unfold compSlice at hc
  split at hc
  ·split at hc
   ·rename_i hu
    simp only [Option.bind_eq_bind, Option.bind_eq_some_iff, Option.pure_def, Option.some.injEq] at hc
    obtain ⟨x', hx, lo', hlo, hi', hhi, rfl⟩ := hc
    exact snd_sliceStr ho hx hlo hhi hu hs h
   ·rename_i e hu
    simp only [Option.bind_eq_bind, Option.bind_eq_some_iff, Option.pure_def, Option.some.injEq] at hc
    obtain ⟨n, hn, x', hx, lo', hlo, hi', hhi, rfl⟩ := hc
    exact snd_slice ho hx hlo hhi hu hn hs h
   ·cases hc
  ·split at hc
   ·rename_i m _ _ _ hh e hu
    split at hc
    ·rename_i hz
     have zero : ∀ q : Operand, isZeroA q = true → q = .const (.int .i64 0) := by
      intro q hq
      unfold isZeroA at hq
      split at hq
      ·rfl
      ·cases hq
     simp only [Bool.and_eq_true] at hz
     cases zero _ hz.1
     cases zero _ hz.2
     simp only [Option.bind_eq_bind, Option.bind_eq_some_iff, Option.pure_def, Option.some.injEq] at hc
     obtain ⟨n, hn, x', hx, rfl⟩ := hc
     exact snd_slice00 ho hx hu hn hs h
    ·simp only [Option.bind_eq_bind, Option.bind_eq_some_iff, Option.pure_def, Option.some.injEq] at hc
     obtain ⟨n, hn, x', hx, h', hh', m', hm', rfl⟩ := hc
     exact snd_slice3 ho hx hh' hm' hu hn hs h
   ·cases hc
 | fieldAddr s x f =>
  rw [ho] at hc; simp only [compOp] at hc
  split at hc
  ·rename_i fs hu
   simp only [Option.bind_eq_bind, Option.bind_eq_some_iff] at hc
   obtain ⟨fd, hf, n, hn, hc⟩ := hc
   split at hc
   ·cases hc
   ·rename_i hne
    simp only [Option.bind_eq_some_iff, Option.pure_def, Option.some.injEq] at hc
    obtain ⟨x', hx, rfl⟩ := hc
    exact snd_fieldAddr ho hx hu hf hn hne hs h
  ·cases hc
 | field s x f =>
  rw [ho] at hc; simp only [compOp] at hc
  split at hc
  ·rename_i fs hu
   simp only [Option.bind_eq_bind, Option.bind_eq_some_iff, Option.pure_def, Option.some.injEq] at hc
   obtain ⟨fd, hf, ag, ht, n, hn, x', hx, rfl⟩ := hc
   exact snd_field ho hx hu hf hn ht hs h
  ·cases hc
 | indexAddr t x i =>
  rw [ho] at hc; simp only [compOp] at hc
  split at hc
  ·rename_i n e hu
   simp only [Option.bind_eq_bind, Option.bind_eq_some_iff, Option.pure_def, Option.some.injEq] at hc
   obtain ⟨s, hsz, x', hx, i', hi, rfl⟩ := hc; exact snd_arrAddr ho hx hi hu hsz hs h
  ·simp only [Option.bind_eq_bind, Option.bind_eq_some_iff, Option.pure_def, Option.some.injEq] at hc
   obtain ⟨e, he, s, hsz, x', hx, i', hi, rfl⟩ := hc; exact snd_indexAddr ho hx hi he hsz hs h
 | index t x i =>
  rw [ho] at hc; simp only [compOp] at hc
  split at hc
  ·rename_i hu
   simp only [Option.bind_eq_bind, Option.bind_eq_some_iff, Option.pure_def, Option.some.injEq] at hc
   obtain ⟨x', hx, i', hi, rfl⟩ := hc
   exact snd_indexStr ho hx hi hu hs h
  ·cases hc
 | extract x i => rw [ho] at hc; simp only [compOp, Option.bind_eq_bind, Option.bind_eq_some_iff, Option.pure_def, Option.some.injEq] at hc; obtain ⟨x', hx, rfl⟩ := hc; exact snd_extract ho hx hs h
 | range t x =>
  rw [ho] at hc; simp only [compOp] at hc
  split at hc
  ·rename_i hu
   simp only [Option.bind_eq_bind, Option.bind_eq_some_iff, Option.pure_def, Option.some.injEq] at hc
   obtain ⟨x', hx, rfl⟩ := hc
   exact snd_range ho hx hu hs h
  ·rename_i hu
   simp only [Option.bind_eq_bind, Option.bind_eq_some_iff, Option.pure_def, Option.some.injEq] at hc
   obtain ⟨x', hx, rfl⟩ := hc
   exact snd_rangeM ho hu hx hs h
  ·cases hc
 | next x b =>
  rw [ho] at hc
  cases b <;> simp only [compOp, Option.bind_eq_bind, Option.bind_eq_some_iff, Option.pure_def, Option.some.injEq] at hc
  ·obtain ⟨x', hx, rfl⟩ := hc; exact snd_nextM ho hx hs h
  ·obtain ⟨x', hx, rfl⟩ := hc; exact snd_next ho hx hs h
 | entry x => rw [ho] at hc; simp only [compOp, Option.bind_eq_bind, Option.bind_eq_some_iff, Option.pure_def, Option.some.injEq] at hc; obtain ⟨x', hx, rfl⟩ := hc; exact snd_entryM ho hx hs h
 | mapEntry t x i =>
  rw [ho] at hc; simp only [compOp] at hc
  split at hc
  ·rename_i k e hu
   simp only [Option.bind_eq_bind, Option.bind_eq_some_iff, Option.pure_def, Option.some.injEq] at hc
   obtain ⟨n, hn, z, hz, x', hx, i', hi, rfl⟩ := hc
   exact snd_mapEnt ho hu hn hz hx hi hs h
  ·cases hc
 | entryStore t x s y =>
  rw [ho] at hc; simp only [compOp, Option.bind_eq_bind, Option.bind_eq_some_iff, Option.pure_def, Option.some.injEq] at hc
  obtain ⟨x', hx, s', hs', y', hy, rfl⟩ := hc
  exact snd_entryStoreM ho hx hs' hy hs h
 | makeMap t r =>
  rw [ho] at hc
  cases r <;> simp only [compOp, Option.some.injEq] at hc
  ·subst hc; exact snd_mkMap ho hs h
  ·cases hc
 | lookup t x i ok =>
  rw [ho] at hc; simp only [compOp] at hc
  split at hc
  ·rename_i k e hu
   simp only [Option.bind_eq_bind, Option.bind_eq_some_iff, Option.pure_def, Option.some.injEq] at hc
   obtain ⟨n, hn, z, hz, x', hx, i', hi, rfl⟩ := hc
   exact snd_lookup ho hu hn hz hx hi hs h
  ·cases hc
 | mapUpdate t x i y =>
  rw [ho] at hc; simp only [compOp] at hc
  split at hc
  ·rename_i k e hu
   simp only [Option.bind_eq_bind, Option.bind_eq_some_iff, Option.pure_def, Option.some.injEq] at hc
   obtain ⟨n, hn, x', hx, i', hi, y', hy, rfl⟩ := hc
   exact snd_mapSet (.inl ho) hu hn hx hi hy hs h
  ·cases hc
 | insert t x i y =>
  rw [ho] at hc; simp only [compOp] at hc
  split at hc
  ·rename_i k e hu
   simp only [Option.bind_eq_bind, Option.bind_eq_some_iff, Option.pure_def, Option.some.injEq] at hc
   obtain ⟨n, hn, x', hx, i', hi, y', hy, rfl⟩ := hc
   exact snd_mapSet (.inr ho) hu hn hx hi hy hs h
  ·cases hc
 | call c =>
  rw [ho] at hc; simp only [compOp] at hc
  obtain ⟨callee, ⟨args⟩, ⟨tys⟩⟩ := c
  unfold compCall at hc
  split at hc
  ·rename_i f he
   simp only [] at he; subst he
   simp only [Option.bind_eq_bind, Option.bind_eq_some_iff, Option.pure_def] at hc
   obtain ⟨ys, hy, hc⟩ := hc
   cases oj <;> simp only [Bool.false_eq_true, if_false, if_true, Option.some.injEq] at hc <;> subst hc
   ·exact snd_call ho hy hs h
   ·exact snd_call ho hy hs (show opA P (.call f ys) ρ H K from h)
  ·rename_i t he
   simp only [] at he; subst he
   simp only [Option.bind_eq_bind, Option.bind_eq_some_iff, Option.pure_def] at hc
   obtain ⟨ys, hy, hc⟩ := hc
   cases oj <;> simp only [Bool.false_eq_true, if_false, if_true, Option.some.injEq] at hc <;> subst hc
   ·exact snd_callv ho hy hs h
   ·exact snd_callv ho hy hs (show opA P (.callv (.t t) ys) ρ H K from h)
  ·rename_i he
   simp only [] at he hc; subst he
   unfold compLen at hc
   split at hc
   ·split at hc
    ·rename_i hu
     simp only [Option.bind_eq_bind, Option.bind_eq_some_iff, Option.pure_def, Option.some.injEq] at hc
     obtain ⟨x', hx, rfl⟩ := hc
     exact snd_lenS ho hx hu hs h
    ·rename_i hu
     simp only [Option.bind_eq_bind, Option.bind_eq_some_iff, Option.pure_def, Option.some.injEq] at hc
     obtain ⟨x', hx, rfl⟩ := hc
     exact snd_len ho hx hu hs h
    ·rename_i hu
     simp only [Option.bind_eq_bind, Option.bind_eq_some_iff, Option.pure_def, Option.some.injEq] at hc
     obtain ⟨x', hx, rfl⟩ := hc
     exact snd_lenM ho hx hu hs h
    ·cases hc
   ·cases hc
  ·rename_i he
   simp only [] at he hc; subst he
   unfold compAppend at hc
   split at hc
   ·split at hc
    ·rename_i x y t u hsrc
     simp only [Option.bind_eq_bind, Option.bind_eq_some_iff, Option.pure_def, Option.some.injEq] at hc
     obtain ⟨e, he, n, hn, b, hb, z, hz, x', hx, y', hy, hc⟩ := hc
     have hsr : (∃ e', P.underlying u = some (.slice e')) ∨ P.underlying u = some .string := by
      unfold srcType at hsrc
      split at hsrc
      ·rename_i e' hu; exact .inl ⟨_, hu⟩
      ·rename_i hu; exact .inr hu
      ·cases hsrc
     split at hc
     ·simp only [Option.some.injEq] at hc
      subst hc
      exact snd_appendI ho hx hy he hsr hn hb hz hs h
     ·simp only [Option.some.injEq] at hc
      subst hc
      exact snd_append ho hx hy he hsr hn hb hz hs h
    ·cases hc
   ·cases hc
  ·rename_i he
   simp only [] at he hc; subst he
   unfold compMn at hc
   split at hc
   ·simp only [Option.bind_eq_bind, Option.bind_eq_some_iff, Option.pure_def, Option.some.injEq] at hc
    obtain ⟨x', hx, y', hy, rfl⟩ := hc
    exact snd_mn ho hx hy hs h
   ·cases hc
  ·rename_i he
   simp only [] at he hc; subst he
   unfold compMx at hc
   split at hc
   ·simp only [Option.bind_eq_bind, Option.bind_eq_some_iff, Option.pure_def, Option.some.injEq] at hc
    obtain ⟨x', hx, y', hy, rfl⟩ := hc
    exact snd_mx ho hx hy hs h
   ·cases hc
  ·rename_i he
   simp only [] at he hc; subst he
   unfold compCap at hc
   split at hc
   ·split at hc
    ·rename_i hu
     simp only [Option.bind_eq_bind, Option.bind_eq_some_iff, Option.pure_def, Option.some.injEq] at hc
     obtain ⟨x', hx, rfl⟩ := hc
     exact snd_cap ho hx hu hs h
    ·cases hc
   ·cases hc
  ·rename_i he
   simp only [] at he hc; subst he
   unfold compDel at hc
   split at hc
   ·split at hc
    ·rename_i hu
     simp only [Option.bind_eq_bind, Option.bind_eq_some_iff, Option.pure_def, Option.some.injEq] at hc
     obtain ⟨n, hn, x', hx, y', hy, rfl⟩ := hc
     exact snd_deleteM ho hu hn hx hy hs h
    ·cases hc
   ·cases hc
  ·cases hc
 | _ => rw [ho] at hc; simp only [compOp] at hc; cases hc
end
end Go.AW
