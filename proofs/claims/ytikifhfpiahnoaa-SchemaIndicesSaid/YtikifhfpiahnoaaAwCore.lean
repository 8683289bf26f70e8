/-
  Values of an abstract machine without addresses, and how they read in a world of the model: the base of the walk.
  No condition: definitions and plain laws on worlds.
-/
import Derived.Tactics
import Derived.Laws.IdiomCopy
import Derived.Laws.Cells
namespace Go.AW

/-- Values of the abstract machine. 'list': cells that never change again; 'sl', 'ptr': into an object of the call's own; 'junk': one cell, unknown. -/
inductive AVal where
  | undef
  | junk
  | bool (b : Bool)
  | int (k : IntKind) (n : Int)
  | str (s : ByteArray)
  | agg (cs : List AVal)
  | tuple (vs : List AVal)
  | nil
  | list (x : Bool) (sz : Nat) (es : List (List AVal))
  | sl (id ep off len : Nat)
  | ptr (id ep idx fld : Nat)
  | cptr (cs : List AVal) (fld : Nat)
  | fn (f : FuncId) (caps : List AVal)
  | it (id : Nat)
  deriving Inhabited

/-- The value of one cell. -/
def AVal.isCell : AVal → Bool
  | .undef | .agg _ | .tuple _ => false
  | _ => true

/-- The value of one cell that names no object. -/
def AVal.isPure : AVal → Bool
  | .junk | .bool _ | .int _ _ | .str _ | .nil | .list _ _ _ | .cptr _ _ => true
  | .fn _ [] => true
  | _ => false

/-- An object of the call's own: elements, each of 'esz' cells; or a string's iterator. -/
inductive AObj where
  | arr (esz : Nat) (es : List (List AVal))
  | iter (s : ByteArray) (pos : Nat)

/-- Where an object lies: a block of 'cap' elements. -/
structure Loc where
  b : Nat
  cap : Nat

/-- What reads without objects: literals and committed memory. 'C b': how many cells of block b are committed. -/
inductive Rd (C : Nat → Nat) (w : World) : AVal → Value → Prop where
  | junk (v : Value) (h : v.oneCell' = true) : Rd C w .junk v
  | bool (b : Bool) : Rd C w (.bool b) (.bool b)
  | int (k : IntKind) (n : Int) : Rd C w (.int k n) (.int k n)
  | str (s : ByteArray) : Rd C w (.str s) (.string s)
  | nil : Rd C w .nil (.slice none 0 0)
  | list0 (x : Bool) (sz : Nat) (a : Option Addr) (cap : Nat) (hx : x = true → cap = 0) : Rd C w (.list x sz []) (.slice a 0 cap)
  | list (x : Bool) (sz : Nat) (es : List (List AVal)) (b off cap : Nat) (vs : Nat → Nat → Value)
      (hx : x = true → cap = es.length) (hcap : es.length ≤ cap) (hsz : ∀ e ∈ es, e.length = sz)
      (hC : off + es.length * sz ≤ C b)
      (hcell : ∀ i j, i < es.length → j < sz → w.cell? ⟨b, off + i * sz + j, none⟩ = some (vs i j))
      (hp : ∀ (i j : Nat) (e : List AVal) (d : AVal), es[i]? = some e → e[j]? = some d → d.isCell = true)
      (hrd : ∀ i j e d, es[i]? = some e → e[j]? = some d → Rd C w d (vs i j)) :
      Rd C w (.list x sz es) (.slice (some ⟨b, off, none⟩) es.length cap)
  | cptr (cs : List AVal) (fld b off : Nat) (vs : Nat → Value) (hC : off + cs.length ≤ C b)
      (hcell : ∀ j, j < cs.length → w.cell? ⟨b, off + j, none⟩ = some (vs j))
      (hp : ∀ (j : Nat) (d : AVal), cs[j]? = some d → d.isCell = true)
      (hrd : ∀ j d, cs[j]? = some d → Rd C w d (vs j)) :
      Rd C w (.cptr cs fld) (.pointer (some ⟨b, off + fld, none⟩))
  | fn (f : FuncId) : Rd C w (.fn f []) (.func (.func f) #[] #[])

/-- How a value reads, objects included. What is said of a handle is said while it is current ('ep' is the object's length). -/
inductive Rel (C : Nat → Nat) (w : World) (τ : Nat → Option Loc) (H : List AObj) : AVal → Value → Prop where
  | rd {d : AVal} {v : Value} (h : Rd C w d v) : Rel C w τ H d v
  | undef (v : Value) : Rel C w τ H .undef v
  | sl (id ep off len : Nat) (a : Option Addr) (cap : Nat) (esz : Nat) (es : List (List AVal)) (ho : H[id]? = some (.arr esz es)) (hep : ep ≤ es.length)
      (h : ep = es.length → off + len ≤ es.length ∧ len ≤ cap ∧
        ((τ id = none ∧ cap = 0) ∨ ∃ l, τ id = some l ∧ off + cap ≤ l.cap ∧ (cap = 0 ∨ a = some ⟨l.b, off * esz, none⟩))) :
      Rel C w τ H (.sl id ep off len) (.slice a len cap)
  | ptr (id ep idx fld : Nat) (a : Addr) (esz : Nat) (es : List (List AVal)) (ho : H[id]? = some (.arr esz es)) (hep : ep ≤ es.length)
      (h : ep = es.length → ∃ l, τ id = some l ∧ a = ⟨l.b, idx * esz + fld, none⟩) :
      Rel C w τ H (.ptr id ep idx fld) (.pointer (some a))
  | it (id : Nat) (s : ByteArray) (pos : Nat) (l : Loc) (ho : H[id]? = some (.iter s pos)) (ht : τ id = some l) :
      Rel C w τ H (.it id) (.pointer (some ⟨l.b, 0, none⟩))
  | agg (cs : List AVal) (vs : Array Value) (hl : cs.length = vs.size)
      (h : ∀ (i : Nat) (c : AVal) (v : Value), cs[i]? = some c → vs[i]? = some v → Rel C w τ H c v) : Rel C w τ H (.agg cs) (.agg vs)
  | tuple (cs : List AVal) (vs : Array Value) (hl : cs.length = vs.size)
      (h : ∀ (i : Nat) (c : AVal) (v : Value), cs[i]? = some c → vs[i]? = some v → Rel C w τ H c v) : Rel C w τ H (.tuple cs) (.tuple vs)
  | fn (f : FuncId) (cs : List AVal) (vs : Array Value) (hl : cs.length = vs.size)
      (h : ∀ (i : Nat) (c : AVal) (v : Value), cs[i]? = some c → vs[i]? = some v → Rel C w τ H c v) : Rel C w τ H (.fn f cs) (.func (.func f) #[] vs)

/-- An object lies at its place. -/
def ObjAt (C : Nat → Nat) (w : World) (τ : Nat → Option Loc) (H : List AObj) (l : Loc) : AObj → Prop
  | .arr esz es => es.length ≤ l.cap ∧ ∃ cells elem fz, w.heap[l.b]? = some (.cells cells elem fz) ∧ cells.size = l.cap * esz ∧
    (fz.1 = fz.2 ∨ cells.size ≤ fz.1) ∧
    (∀ (i j : Nat) (e : List AVal) (d : AVal), es[i]? = some e → e[j]? = some d → ∃ v, cells[i * esz + j]? = some v ∧ Rel C w τ H d v)
  | .iter s pos => w.heap[l.b]? = some (.stringIter s pos)

/-- What an object is by itself. -/
def AObj.ok : AObj → Prop
  | .arr esz es => ∀ e ∈ es, e.length = esz ∧ ∀ d ∈ e, d.isCell = true
  | .iter _ _ => True

/-- The abstract heap lies in the world. -/
structure WF (C : Nat → Nat) (τ : Nat → Option Loc) (H : List AObj) (w : World) : Prop where
  ok : ∀ (id : Nat) (o : AObj), H[id]? = some o → o.ok
  virt : ∀ (id : Nat) (o : AObj), H[id]? = some o → τ id = none → ∃ esz, o = .arr esz []
  objs : ∀ (id : Nat) (o : AObj) (l : Loc), H[id]? = some o → τ id = some l → ObjAt C w τ H l o
  comm : ∀ (id : Nat) (l : Loc), id < H.length → τ id = some l → C l.b = 0
  inj : ∀ (i j : Nat) (li lj : Loc), i < H.length → j < H.length → τ i = some li → τ j = some lj → li.b = lj.b → i = j
  lt : ∀ b, 0 < C b → b < w.heap.size

/-- Block b is an object's. -/
def Owned (τ : Nat → Option Loc) (H : List AObj) (b : Nat) : Prop := ∃ id l, id < H.length ∧ τ id = some l ∧ l.b = b

/-- The frame: what is protected has not changed. -/
structure Fr (w0 : World) (Pr : Nat → Prop) (w : World) : Prop where
  os : w.os = w0.os
  tape : w.tape = w0.tape
  output : w.output = w0.output
  size : w0.heap.size ≤ w.heap.size
  prot : ∀ b, Pr b → w.heap[b]? = w0.heap[b]?

structure St (w0 : World) (Pr : Nat → Prop) (C : Nat → Nat) (τ : Nat → Option Loc) (H : List AObj) (w : World) : Prop where
  wf : WF C τ H w
  fr : Fr w0 Pr w
  own : ∀ b, Owned τ H b → ¬ Pr b
  plt : ∀ b, Pr b → b < w0.heap.size

/-- A later object is of the same kind, and no shorter; where it is as long it lies where it lay. -/
def AObj.after (o o' : AObj) (t t' : Option Loc) : Prop :=
  match o, o' with
  | .arr esz es, .arr esz' es' => esz' = esz ∧ es.length ≤ es'.length ∧ (es.length = es'.length → t' = t)
  | .iter _ _, .iter _ _ => t' = t
  | _, _ => False

/-- From one state to a later one: what was committed reads as it did, the objects are there still. -/
structure Step (C : Nat → Nat) (τ : Nat → Option Loc) (H : List AObj) (w : World) (C' : Nat → Nat) (τ' : Nat → Option Loc) (H' : List AObj) (w' : World) : Prop where
  le : ∀ b, C b ≤ C' b
  cell : ∀ b i, i < C b → w'.cell? ⟨b, i, none⟩ = w.cell? ⟨b, i, none⟩
  obj : ∀ (id : Nat) (o : AObj), H[id]? = some o → ∃ o' : AObj, H'[id]? = some o' ∧ o.after o' (τ id) (τ' id)
  grow : w.heap.size ≤ w'.heap.size
  old : ∀ b, b < w.heap.size → C' b = C b

theorem AObj.after_refl (o : AObj) (t : Option Loc) : o.after o t t := by
  cases o <;> simp [AObj.after]

theorem AObj.after_trans {o o' o'' : AObj} {t t' t'' : Option Loc} (h : o.after o' t t') (k : o'.after o'' t' t'') : o.after o'' t t'' := by
  cases o <;> cases o' <;> cases o'' <;> simp only [AObj.after] at h k ⊢
  · obtain ⟨e1, l1, t1⟩ := h
    obtain ⟨e2, l2, t2⟩ := k
    exact ⟨e2.trans e1, Nat.le_trans l1 l2, fun e => (t2 (by omega)).trans (t1 (by omega))⟩
  · exact k.trans h

section
variable {C C' C'' : Nat → Nat} {τ τ' τ'' : Nat → Option Loc} {H H' H'' : List AObj} {w w' w'' : World}

theorem Step.refl : Step C τ H w C τ H w := ⟨fun _ => Nat.le_refl _, fun _ _ _ => rfl, fun _ o h => ⟨o, h, o.after_refl _⟩, Nat.le_refl _, fun _ _ => rfl⟩

theorem Step.trans (h : Step C τ H w C' τ' H' w') (k : Step C' τ' H' w' C'' τ'' H'' w'') : Step C τ H w C'' τ'' H'' w'' := by
  refine ⟨fun b => Nat.le_trans (h.le b) (k.le b), fun b i hi => ?_, fun id o ho => ?_, Nat.le_trans h.grow k.grow, fun b hb => (k.old b (Nat.lt_of_lt_of_le hb h.grow)).trans (h.old b hb)⟩
  · rw [k.cell b i (Nat.lt_of_lt_of_le hi (h.le b)), h.cell b i hi]
  · obtain ⟨o1, h1, t1⟩ := h.obj id o ho
    obtain ⟨o2, h2, t2⟩ := k.obj id o1 h1
    exact ⟨o2, h2, AObj.after_trans t1 t2⟩

theorem Rd.mono {d : AVal} {v : Value} (h : Rd C w d v) (hle : ∀ b, C b ≤ C' b) (hc : ∀ b i, i < C b → w'.cell? ⟨b, i, none⟩ = w.cell? ⟨b, i, none⟩) : Rd C' w' d v := by
  induction h with
  | junk v h => exact .junk v h
  | bool b => exact .bool b
  | int k n => exact .int k n
  | str s => exact .str s
  | nil => exact .nil
  | list0 x sz a cap hx => exact .list0 x sz a cap hx
  | list x sz es b off cap vs hx hcap hsz hC hcell hp hrd ih =>
    refine .list x sz es b off cap vs hx hcap hsz (Nat.le_trans hC (hle b)) (fun i j hi hj => ?_) hp ih
    rw [hc b _ ?_, hcell i j hi hj]
    have h1 : (i + 1) * sz ≤ es.length * sz := Nat.mul_le_mul_right _ hi
    rw [Nat.add_mul] at h1
    omega
  | cptr cs fld b off vs hC hcell hp hrd ih =>
    refine .cptr cs fld b off vs (Nat.le_trans hC (hle b)) (fun j hj => ?_) hp ih
    rw [hc b _ (by omega), hcell j hj]
  | fn f => exact .fn f

theorem Rel.mono {d : AVal} {v : Value} (h : Rel C w τ H d v) (s : Step C τ H w C' τ' H' w') : Rel C' w' τ' H' d v := by
  induction h with
  | rd h => exact .rd (h.mono s.le s.cell)
  | undef v => exact .undef v
  | sl id ep off len a cap esz es ho hep h =>
    obtain ⟨o', ho', hx⟩ := s.obj id _ ho
    cases o' with
    | iter _ _ => simp [AObj.after] at hx
    | arr esz' es' =>
      obtain ⟨rfl, hl, ht⟩ := hx
      refine .sl id ep off len a cap esz' es' ho' (Nat.le_trans hep hl) (fun e => ?_)
      have e1 : ep = es.length := by omega
      have e2 : es.length = es'.length := by omega
      rw [ht e2, ← e2]
      exact h e1
  | ptr id ep idx fld a esz es ho hep h =>
    obtain ⟨o', ho', hx⟩ := s.obj id _ ho
    cases o' with
    | iter _ _ => simp [AObj.after] at hx
    | arr esz' es' =>
      obtain ⟨rfl, hl, ht⟩ := hx
      refine .ptr id ep idx fld a esz' es' ho' (Nat.le_trans hep hl) (fun e => ?_)
      have e1 : ep = es.length := by omega
      have e2 : es.length = es'.length := by omega
      rw [ht e2]
      exact h e1
  | it id s' pos l ho ht =>
    obtain ⟨o', ho', hx⟩ := s.obj id _ ho
    cases o' with
    | arr _ _ => simp [AObj.after] at hx
    | iter s2 p2 => exact .it id s2 p2 l ho' (hx.trans ht)
  | agg cs vs hl h ih => exact .agg cs vs hl ih
  | tuple cs vs hl h ih => exact .tuple cs vs hl ih
  | fn f cs vs hl h ih => exact .fn f cs vs hl ih

theorem Rel.plain {d : AVal} {v : Value} (h : Rel C w τ H d v) (hd : d.isCell = true) : v.oneCell' = true := by
  cases h with
  | rd h => cases h with
    | junk _ h => exact h
    | _ => rfl
  | undef v => simp [AVal.isCell] at hd
  | agg => simp [AVal.isCell] at hd
  | tuple => simp [AVal.isCell] at hd
  | _ => rfl

theorem AVal.isCell_of_isPure {d : AVal} (h : d.isPure = true) : d.isCell = true := by
  cases d <;> first | rfl | (simp [AVal.isPure] at h)

theorem Rel.pure {d : AVal} {v : Value} (h : Rel C w τ H d v) (hd : d.isPure = true) : Rd C w d v := by
  cases h with
  | rd h => exact h
  | undef v => simp [AVal.isPure] at hd
  | fn f cs vs hl h =>
    cases cs with
    | nil =>
      have : vs = #[] := Array.eq_empty_of_size_eq_zero (by simpa using hl.symm)
      subst this
      exact .fn f
    | cons c cs => simp [AVal.isPure] at hd
  | _ => simp [AVal.isPure] at hd

theorem Fr.refl (w : World) (Pr : Nat → Prop) : Fr w Pr w := ⟨rfl, rfl, rfl, Nat.le_refl _, fun _ _ => rfl⟩

theorem Fr.trans {w0 w1 w2 : World} {Pr Pr' : Nat → Prop} (h : Fr w0 Pr w1) (k : Fr w1 Pr' w2) (hp : ∀ b, Pr b → Pr' b) : Fr w0 Pr w2 :=
  ⟨k.os.trans h.os, k.tape.trans h.tape, k.output.trans h.output, Nat.le_trans h.size k.size, fun b hb => (k.prot b (hp b hb)).trans (h.prot b hb)⟩

/-- The protection that a call begins with: all that there is but the objects. -/
def PrCall (τ : Nat → Option Loc) (H : List AObj) (w : World) (b : Nat) : Prop := b < w.heap.size ∧ ¬ Owned τ H b

theorem St.start (h : WF C τ H w) : St w (PrCall τ H w) C τ H w := ⟨h, Fr.refl _ _, fun _ ho hp => hp.2 ho, fun _ hp => hp.1⟩

/-- A call's end is the caller's next state. -/
theorem St.after {w0 : World} {Pr : Nat → Prop} (h : St w0 Pr C τ H w) (k : St w (PrCall τ H w) C' τ' H' w') : St w0 Pr C' τ' H' w' := by
  have hp : ∀ b, Pr b → PrCall τ H w b := fun b hb => ⟨Nat.lt_of_lt_of_le (h.plt b hb) h.fr.size, fun ho => h.own b ho hb⟩
  exact ⟨k.wf, h.fr.trans k.fr hp, fun b ho hb => k.own b ho (hp b hb), h.plt⟩
end
end Go.AW
