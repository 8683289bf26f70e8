/-
  The abstract machine's operations are sound: what they ask suffices for the model's operations. First part: values, loads, stores, new objects.
  No condition: plain laws over any program.
-/
import Derived.Test.YtikifhfpiahnoaaAwComp
import Derived.Laws.Entries
namespace Go.AW

/-- The state in which a body began. -/
structure Env where
  w0 : World
  Pr : Nat → Prop
  C0 : Nat → Nat
  τ0 : Nat → Option Loc
  H0 : List AObj
  hpr : H0 = [] → ∀ b, b < w0.heap.size → Pr b

structure SA (E : Env) (C : Nat → Nat) (τ : Nat → Option Loc) (ρ : List AVal) (H : List AObj) (a : Act) (w : World) : Prop where
  st : St E.w0 E.Pr C τ H w
  step : Step E.C0 E.τ0 E.H0 E.w0 C τ H w
  tmps : ∀ t, Rel C w τ H (getT ρ t) (a.tmps.getD t undef)
  size : ρ.length = a.tmps.size
  defers : a.defers = []

/-- What an operation's run must come to. -/
def OpRes (P : Program) (r : Result Next) (S : Value → World → Prop) : Prop :=
  match r with
  | .ok (.value u) w' => S u w'
  | .ok .skip w' => S undef w'
  | .ok (.enter f args) w' => Calls P f args w' fun e w'' => ∃ v, e = .returned v ∧ S v w''
  | _ => False

def Out (E : Env) (ρ : List AVal) (a : Act) (K : AVal → List AObj → Prop) (u : Value) (w' : World) : Prop :=
  ∃ v C' τ' H', K v H' ∧ Rel C' w' τ' H' v u ∧ SA E C' τ' ρ H' a w'

section
variable {E : Env} {P : Program} {C C' : Nat → Nat} {τ τ' : Nat → Option Loc} {ρ : List AVal} {H H' : List AObj} {a : Act} {w w' : World} {K : AVal → List AObj → Prop}

theorem SA.go (h : SA E C τ ρ H a w) (st : St E.w0 E.Pr C' τ' H' w') (s : Step C τ H w C' τ' H' w') : SA E C' τ' ρ H' a w' :=
  ⟨st, h.step.trans s, fun t => (h.tmps t).mono s, h.size, h.defers⟩

theorem getT_setT : ∀ (l : List AVal) (n : Nat) (v : AVal) (t : Nat), getT (setT l n v) t = if t = n ∧ n < l.length then v else getT l t
  | [], n, v, t => by simp [setT, getT]
  | x :: xs, 0, v, t => by cases t <;> simp [setT, getT]
  | x :: xs, n + 1, v, t => by
    cases t with
    | zero => simp [setT, getT]
    | succ t => simp [setT, getT, getT_setT xs n v t]

theorem length_setT : ∀ (l : List AVal) (n : Nat) (v : AVal), (setT l n v).length = l.length
  | [], _, _ => rfl
  | _ :: _, 0, _ => rfl
  | x :: xs, n + 1, v => by simp [setT, length_setT xs n v]

theorem SA.put (h : SA E C τ ρ H a w) {v : AVal} {u : Value} (hr : Rel C w τ H v u) (d : Nat) : SA E C τ (setT ρ d v) H (a.put (some d) u) w := by
  refine ⟨h.st, h.step, fun t => ?_, by rw [length_setT, h.size]; simp [Act.put], h.defers⟩
  rw [getT_setT, h.size]
  simp only [Act.put, Array.getD_eq_getD_getElem?, Array.getElem?_setIfInBounds]
  by_cases e : t = d
  · subst e
    by_cases e2 : t < a.tmps.size
    · simp [e2, hr]
    · have := h.tmps t
      simp only [Array.getD_eq_getD_getElem?] at this
      simp [e2] at this ⊢
      exact this
  · have := h.tmps t
    simp only [Array.getD_eq_getD_getElem?] at this
    simp [e, Ne.symm e]
    exact this

theorem rd_ofCell (v : Value) : Rel C w τ H (ofCell v) v := by
  unfold ofCell
  split <;> first
    | exact .rd (.bool _) | exact .rd (.int _ _) | exact .rd (.str _) | exact .rd .nil | exact .undef _ | skip
  rename_i h1 h2 h3 h4 h5 h6
  refine .rd (.junk _ ?_)
  cases v <;> first | rfl | (exact absurd rfl (h5 _)) | (exact absurd rfl (h6 _))

theorem rel_agg_ofCell (cs : Array Value) : Rel C w τ H (.agg (cs.toList.map ofCell)) (.agg cs) := by
  refine .agg _ _ (by simp) fun i c v hc hv => ?_
  rw [List.getElem?_map, Array.getElem?_toList, hv] at hc
  cases hc
  exact rd_ofCell v

theorem rel_ofConst (v : Value) : Rel C w τ H (ofConst v) v := by
  unfold ofConst
  split
  · exact rel_agg_ofCell _
  · exact rd_ofCell v

theorem SA.ev (h : SA E C τ ρ H a w) {x : Operand} {y : AOpd} (hc : compOpd x = some y) : Rel C w τ H (ev ρ y) (a.eval x) := by
  cases x <;> simp only [compOpd, Option.some.injEq] at hc <;> try (cases hc)
  · exact h.tmps _
  · exact rel_ofConst _
  · exact .rd (.fn _)

/-! ### Inversions -/

theorem Rel.int_inv {k : IntKind} {n : Int} {u : Value} (h : Rel C w τ H (.int k n) u) : u = .int k n := by
  cases h with | rd h => cases h; rfl
theorem Rel.bool_inv {b : Bool} {u : Value} (h : Rel C w τ H (.bool b) u) : u = .bool b := by
  cases h with | rd h => cases h; rfl
theorem Rel.str_inv {s : ByteArray} {u : Value} (h : Rel C w τ H (.str s) u) : u = .string s := by
  cases h with | rd h => cases h; rfl
theorem Rel.nil_inv {u : Value} (h : Rel C w τ H .nil u) : u = .slice none 0 0 := by
  cases h with | rd h => cases h; rfl
theorem Rel.agg_inv {cs : List AVal} {u : Value} (h : Rel C w τ H (.agg cs) u) : ∃ vs, u = .agg vs ∧ cs.length = vs.size ∧ ∀ (i : Nat) (c : AVal) (v : Value), cs[i]? = some c → vs[i]? = some v → Rel C w τ H c v := by
  cases h with
  | rd h => cases h
  | agg _ vs hl h => exact ⟨vs, rfl, hl, h⟩
theorem Rel.tuple_inv {cs : List AVal} {u : Value} (h : Rel C w τ H (.tuple cs) u) : ∃ vs, u = .tuple vs ∧ cs.length = vs.size ∧ ∀ (i : Nat) (c : AVal) (v : Value), cs[i]? = some c → vs[i]? = some v → Rel C w τ H c v := by
  cases h with
  | rd h => cases h
  | tuple _ vs hl h => exact ⟨vs, rfl, hl, h⟩

/-- The cells of a value. -/
theorem Rel.cells {x : AVal} {u : Value} {cs : List AVal} (h : Rel C w τ H x u) (hc : toCells x = some cs) :
    cs.length = u.cells.size ∧ ∀ (i : Nat) (c : AVal) (v : Value), cs[i]? = some c → u.cells[i]? = some v → Rel C w τ H c v := by
  have one : ∀ (y : AVal), y.isCell = true → y = x → u.cells = #[u] ∧ [y].length = u.cells.size ∧ ∀ (i : Nat) (c : AVal) (v : Value), [y][i]? = some c → u.cells[i]? = some v → Rel C w τ H c v := by
    rintro y hy rfl
    have hu : u.cells = #[u] := by
      have := h.plain hy
      cases u <;> first | rfl | (simp [Value.oneCell'] at this)
    refine ⟨hu, by rw [hu]; rfl, fun i c v h1 h2 => ?_⟩
    rw [hu] at h2
    cases i with
    | zero => simp at h1 h2; subst h1 h2; exact h
    | succ i => simp at h1
  cases x <;> simp only [toCells, Option.some.injEq] at hc <;> try (cases hc)
  case agg.refl =>
    obtain ⟨vs, rfl, hl, hr⟩ := h.agg_inv
    exact ⟨hl, hr⟩
  all_goals exact (one _ rfl rfl).2

theorem rel_cellsPlain {cs : List AVal} {vs : Array Value} (hl : cs.length = vs.size) (hr : ∀ (i : Nat) (c : AVal) (v : Value), cs[i]? = some c → vs[i]? = some v → Rel C w τ H c v)
    (hp : cs.all AVal.isCell = true) : ∀ v ∈ vs.toList, v.oneCell' = true := by
  intro v hv
  obtain ⟨i, hi, rfl⟩ := List.getElem_of_mem hv
  simp at hi
  have hc : cs[i]? = some cs[i] := List.getElem?_eq_getElem (by omega)
  have := hr i _ _ hc (by rw [Array.getElem?_eq_getElem hi])
  refine this.plain ?_
  exact List.all_eq_true.1 hp _ (List.getElem_mem _)

/-! ### The model's small runs -/

theorem run_info {t : TypeId} {i : TypeInfo} (h : P.info? t = some i) : (typeInfo t).run P w = .ok i w := by simp [typeInfo, h]
theorem run_size {t : TypeId} {n : Nat} (h : sizeA P t = some n) : (sizeOf t).run P w = .ok n w := by
  unfold sizeA at h
  cases hi : P.info? t with
  | none => rw [hi] at h; cases h
  | some i => rw [hi] at h; simp at h; simp [sizeOf, run_info hi, h]
theorem run_und {t : TypeId} {d : TypeDesc} (h : P.underlying t = some d) : (underlying t).run P w = .ok d w := run_underlying h w
theorem run_isAgg {t : TypeId} {b : Bool} (h : tagOf P t = some b) : (isAgg t).run P w = .ok b w := by
  unfold tagOf at h
  cases hu : P.underlying t with
  | none => rw [hu] at h; cases h
  | some d =>
    rw [hu] at h
    cases d <;> simp at h <;> subst h <;> simp [isAgg, run_und hu]
theorem zero_parts {t : TypeId} {cs : List AVal} (h : zeroA P t = some cs) : ∃ i z, P.info? t = some i ∧ i.zero = some z ∧ z.cells.size = i.size ∧ cs = z.cells.toList.map ofCell := by
  unfold zeroA at h
  cases hi : P.info? t with
  | none => rw [hi] at h; cases h
  | some i =>
    rw [hi] at h
    simp only [] at h
    cases hz : i.zero with
    | none => rw [hz] at h; cases h
    | some z =>
      rw [hz] at h
      simp only [] at h
      split at h
      · rename_i hs; cases h; exact ⟨i, z, rfl, hz, hs, rfl⟩
      · cases h

theorem addr_add (b o n : Nat) : (⟨b, o, none⟩ : Addr).add n = ⟨b, o + n, none⟩ := by
  unfold Addr.add; split <;> simp_all

/-- Cells are written into a block. -/
theorem run_storeCells_blk (b o : Nat) (t : TypeId) (fz : Nat × Nat) : ∀ (vs : List Value) (i : Nat) (cur : Array Value) (w : World), w.heap[b]? = some (.cells cur t fz) → o + i + vs.length ≤ cur.size →
    (fz.1 = fz.2 ∨ cur.size ≤ fz.1) → (∀ v ∈ vs, v.oneCell' = true) →
    ∃ w' cur', (storeCells ⟨b, o, none⟩ vs i).run P w = .ok () w' ∧ w'.os = w.os ∧ w'.tape = w.tape ∧ w'.output = w.output ∧ w'.heap.size = w.heap.size ∧
      (∀ b', b' ≠ b → w'.heap[b']? = w.heap[b']?) ∧ w'.heap[b]? = some (.cells cur' t fz) ∧ cur'.size = cur.size ∧
      (∀ k, cur'[k]? = if o + i ≤ k ∧ k < o + i + vs.length then vs[k - (o + i)]? else cur[k]?)
  | [], i, cur, w, hg, _, _, _ => ⟨w, cur, rfl, rfl, rfl, rfl, rfl, fun _ _ => rfl, hg, rfl, fun k => by
      rw [if_neg (by simp only [List.length_nil]; omega)]⟩
  | v :: rest, i, cur, w, hg, hl, hf, h1 => by
    simp only [List.length_cons] at hl
    have hi : o + i < cur.size := by omega
    have hcell : w.cell? ⟨b, o + i, none⟩ = some cur[o + i] := by simp [World.cell?, hg, hi]
    have hfro : w.frozen? ⟨b, o + i, none⟩ = false := by
      simp only [World.frozen?, hg]
      simp only [Bool.and_eq_false_iff, decide_eq_false_iff_not]
      omega
    have hb : b < w.heap.size := lt_of_heap hg
    have hheap : (w.setCell ⟨b, o + i, none⟩ v).heap[b]? = some (.cells (cur.setIfInBounds (o + i) v) t fz) := by
      simp only [World.setCell, Array.getElem?_modify, if_true, hg]
      simp
    have hst : (store ((⟨b, o, none⟩ : Addr).add i) v).run P w = .ok () (w.setCell ⟨b, o + i, none⟩ v) := by
      rw [addr_add, run_store P w _ v _ (h1 v (by simp)), hcell]
      simp [hfro]
    obtain ⟨w', cur', e1, e2, e3, e4, e5, e6, e7, e8, e9⟩ := run_storeCells_blk b o t fz rest (i + 1) (cur.setIfInBounds (o + i) v) (w.setCell ⟨b, o + i, none⟩ v) hheap (by simp; omega) (by simpa using hf) (fun x hx => h1 x (by simp [hx]))
    refine ⟨w', cur', ?_, e2, e3, e4, by rw [e5]; simp [World.setCell], fun b' hb' => ?_, e7, by rw [e8]; simp, fun k => ?_⟩
    · simp only [storeCells, Sem.run_bind, hst, Result.andThen_ok, e1]
    · rw [e6 b' hb']
      simp only [World.setCell, Array.getElem?_modify]
      rw [if_neg (fun e => hb' e.symm)]
    · rw [e9 k]
      by_cases hk : k = o + i
      · subst hk
        have a1 : ¬ (o + (i + 1) ≤ o + i ∧ o + i < o + (i + 1) + rest.length) := by omega
        have a2 : o + i ≤ o + i ∧ o + i < o + i + (v :: rest).length := by simp
        rw [if_neg a1, if_pos a2]
        simp [hi]
      · by_cases hk2 : o + i ≤ k ∧ k < o + i + (v :: rest).length
        · have a1 : o + (i + 1) ≤ k ∧ k < o + (i + 1) + rest.length := by simp at hk2; omega
          rw [if_pos a1, if_pos hk2]
          obtain ⟨m, hm⟩ : ∃ m, k - (o + i) = m + 1 := ⟨k - (o + i) - 1, by omega⟩
          rw [hm, show k - (o + (i + 1)) = m from by omega]
          simp
        · have a1 : ¬ (o + (i + 1) ≤ k ∧ k < o + (i + 1) + rest.length) := by simp at hk2; omega
          rw [if_neg a1, if_neg hk2, Array.getElem?_setIfInBounds_ne (fun e => hk e.symm)]
end
end Go.AW
