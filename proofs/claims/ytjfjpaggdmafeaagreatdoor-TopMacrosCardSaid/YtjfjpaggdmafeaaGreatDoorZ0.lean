/-
  An abstract machine over the model, the code of functions on it, and their contracts: what the claim needs.
  No condition: definitions, plain laws, contracts over any program that has this code.
-/
import Derived.Test.YtjfjpaggdmafeaaGreatDoorProg
import Derived.Tactics
import Derived.Laws.IdiomCopy
import Derived.Laws.Cells
import Derived.StillTail
import Derived.Laws.Entries
import Derived.Lib.Strings
import Derived.Laws.Append
import Derived.Laws.BytesString
import Derived.Laws.NewFold
import Derived.Laws.StructEq
import Derived.Maps.RangeRun
import Derived.Scope
import Derived.Lib.Bytealg
import Derived.ChangeArms
import Derived.Below
import Derived.Carry
import Derived.ProofKit
import Derived.WideShapes
import Derived.OpenShut
import Derived.ChangeOld
import Derived.Handed
import Derived.KernelRfl
import Derived.Laws.AppendOwn
import Derived.Deep.DeepHandedRow
import Derived.Deep.DeepWitnessRowRef
import Derived.Lib.LaidU8
import Derived.SliceStrings
set_option linter.all false
namespace Go.AW
inductive AVal where
 | undef
 | junk
 | bool (b : Bool)
 | int (k : IntKind) (n : Int)
 | str (s : ByteArray)
 | agg (cs : List AVal)
 | tuple (vs : List AVal)
 | nil
 | list (x : Bool) (sz : Nat) (es : List (List AVal))
 | sl (id ep off len : Nat)
 | ptr (id ep idx fld : Nat)
 | cptr (cs : List AVal) (fld : Nat)
 | fn (f : FuncId) (caps : List AVal)
 | fnb (f : FuncId) (caps : List AVal)
 | it (id : Nat)
 | mp (id : Nat)
 | slc (id ep off len cap : Nat)
 | nilm
 | nilp
 deriving Inhabited
def AVal.isCell : AVal → Bool
 | .undef | .agg _ | .tuple _ => false
 | _ => true
def AVal.isPure : AVal → Bool
 | .junk | .bool _ | .int _ _ | .str _ | .nil | .list _ _ _ | .cptr _ _ | .nilm | .nilp => true
 | .fn _ [] => true
 | _ => false
def AVal.isLit : AVal → Bool
 | .bool _ | .int _ _ | .str _ => true
 | _ => false
def AVal.lit : AVal → Value
 | .bool b => .bool b
 | .int k n => .int k n
 | .str s => .string s
 | _ => _root_.Go.undef
inductive AObj where
 | arr (esz : Nat) (es : List (List AVal))
 | iter (s : ByteArray) (pos : Nat)
 | map (kvs : List (AVal × AVal))
 | bmap (kvs : List (AVal × AVal)) (bs : List Nat) (ck : Nat)
 | mit (mid : Option Nat) (ck : Nat) (seen : List Nat)
def AObj.isMp : AObj → Bool
 | .map _ | .bmap _ _ _ => true
 | _ => false
structure Loc where
 b : Nat
 cap : Nat
inductive Rd (C : Nat → Nat) (w : World) : AVal → Value → Prop where
 | junk (v : Value) (h : v.oneCell' = true) : Rd C w .junk v
 | bool (b : Bool) : Rd C w (.bool b) (.bool b)
 | int (k : IntKind) (n : Int) : Rd C w (.int k n) (.int k n)
 | str (s : ByteArray) : Rd C w (.str s) (.string s)
 | nil : Rd C w .nil (.slice none 0 0)
 | list0 (x : Bool) (sz : Nat) (a : Option Addr) (cap : Nat) (hx : x = true → cap = 0) : Rd C w (.list x sz []) (.slice a 0 cap)
 | list (x : Bool) (sz : Nat) (es : List (List AVal)) (b off cap : Nat) (vs : Nat → Nat → Value)
   (hx : x = true → cap = es.length) (hcap : es.length ≤ cap) (hsz : ∀ e ∈ es, e.length = sz)
   (hC : off + es.length * sz ≤ C b)
   (hcell : ∀ i j, i < es.length → j < sz → w.cell? ⟨b, off + i * sz + j, none⟩ = some (vs i j))
   (hp : ∀ (i j : Nat) (e : List AVal) (d : AVal), es[i]? = some e → e[j]? = some d → d.isCell = true)
   (hrd : ∀ i j e d, es[i]? = some e → e[j]? = some d → Rd C w d (vs i j)) :
   Rd C w (.list x sz es) (.slice (some ⟨b, off, none⟩) es.length cap)
 | cptr (cs : List AVal) (fld b off : Nat) (vs : Nat → Value) (hC : off + cs.length ≤ C b)
   (hcell : ∀ j, j < cs.length → w.cell? ⟨b, off + j, none⟩ = some (vs j))
   (hp : ∀ (j : Nat) (d : AVal), cs[j]? = some d → d.isCell = true)
   (hrd : ∀ j d, cs[j]? = some d → Rd C w d (vs j)) :
   Rd C w (.cptr cs fld) (.pointer (some ⟨b, off + fld, none⟩))
 | fn (f : FuncId) : Rd C w (.fn f []) (.func (.func f) #[] #[])
 | nilm : Rd C w .nilm (.map none)
 | nilp : Rd C w .nilp (.pointer none)
inductive Rel (C : Nat → Nat) (w : World) (τ : Nat → Option Loc) (H : List AObj) : AVal → Value → Prop where
 | rd {d : AVal} {v : Value} (h : Rd C w d v) : Rel C w τ H d v
 | undef (v : Value) : Rel C w τ H .undef v
 | sl (id ep off len : Nat) (a : Option Addr) (cap : Nat) (esz : Nat) (es : List (List AVal)) (ho : H[id]? = some (.arr esz es)) (hep : ep ≤ es.length)
   (h : ep = es.length → off + len ≤ es.length ∧ len ≤ cap ∧
    ((τ id = none ∧ cap = 0) ∨ ∃ l, τ id = some l ∧ off + cap = l.cap ∧ (cap = 0 ∨ a = some ⟨l.b, off * esz, none⟩))) :
   Rel C w τ H (.sl id ep off len) (.slice a len cap)
 | ptr (id ep idx fld : Nat) (a : Addr) (esz : Nat) (es : List (List AVal)) (ho : H[id]? = some (.arr esz es)) (hep : ep ≤ es.length)
   (h : ep = es.length → ∃ l, τ id = some l ∧ a = ⟨l.b, idx * esz + fld, none⟩) :
   Rel C w τ H (.ptr id ep idx fld) (.pointer (some a))
 | it (id : Nat) (s : ByteArray) (pos : Nat) (l : Loc) (ho : H[id]? = some (.iter s pos)) (ht : τ id = some l) :
   Rel C w τ H (.it id) (.pointer (some ⟨l.b, 0, none⟩))
 | mp (id : Nat) (o : AObj) (l : Loc) (ho : H[id]? = some o) (hm : o.isMp = true) (ht : τ id = some l) :
   Rel C w τ H (.mp id) (.map (some l.b))
 | mt (id : Nat) (mid : Option Nat) (ck : Nat) (seen : List Nat) (l : Loc) (ho : H[id]? = some (.mit mid ck seen)) (ht : τ id = some l) :
   Rel C w τ H (.it id) (.pointer (some ⟨l.b, 0, none⟩))
 | slc (id ep off len cap : Nat) (a : Option Addr) (esz : Nat) (es : List (List AVal)) (ho : H[id]? = some (.arr esz es)) (hep : ep ≤ es.length)
   (h : ep = es.length → off + cap ≤ es.length ∧ len ≤ cap ∧ ∃ l, τ id = some l ∧ (cap = 0 ∨ a = some ⟨l.b, off * esz, none⟩)) :
   Rel C w τ H (.slc id ep off len cap) (.slice a len cap)
 | agg (cs : List AVal) (vs : Array Value) (hl : cs.length = vs.size)
   (h : ∀ (i : Nat) (c : AVal) (v : Value), cs[i]? = some c → vs[i]? = some v → Rel C w τ H c v) : Rel C w τ H (.agg cs) (.agg vs)
 | tuple (cs : List AVal) (vs : Array Value) (hl : cs.length = vs.size)
   (h : ∀ (i : Nat) (c : AVal) (v : Value), cs[i]? = some c → vs[i]? = some v → Rel C w τ H c v) : Rel C w τ H (.tuple cs) (.tuple vs)
 | fn (f : FuncId) (cs : List AVal) (vs : Array Value) (hl : cs.length = vs.size)
   (h : ∀ (i : Nat) (c : AVal) (v : Value), cs[i]? = some c → vs[i]? = some v → Rel C w τ H c v) : Rel C w τ H (.fn f cs) (.func (.func f) #[] vs)
 | fnb (f : FuncId) (cs : List AVal) (vs : Array Value) (hl : cs.length = vs.size)
   (h : ∀ (i : Nat) (c : AVal) (v : Value), cs[i]? = some c → vs[i]? = some v → Rel C w τ H c v) : Rel C w τ H (.fnb f cs) (.func (.func f) vs #[])
def ObjAt (C : Nat → Nat) (w : World) (τ : Nat → Option Loc) (H : List AObj) (l : Loc) : AObj → Prop
 | .arr esz es => es.length ≤ l.cap ∧ ∃ cells elem fz, w.heap[l.b]? = some (.cells cells elem fz) ∧ cells.size = l.cap * esz ∧
  (fz.1 = fz.2 ∨ cells.size ≤ fz.1) ∧
  (∀ (i j : Nat) (e : List AVal) (d : AVal), es[i]? = some e → e[j]? = some d → ∃ v, cells[i * esz + j]? = some v ∧ Rel C w τ H d v)
 | .iter s pos => w.heap[l.b]? = some (.stringIter s pos)
 | .map kvs => ∃ (kvs0 : List (AVal × AVal)) (es : Array MapEntry) (clock : Nat), kvs0.Perm kvs ∧ w.heap[l.b]? = some (.map es clock) ∧ es.size = kvs0.length ∧
  (∀ (i : Nat) (e : MapEntry) (kv : AVal × AVal), es[i]? = some e → kvs0[i]? = some kv → e.key = kv.1.lit ∧ Rel C w τ H kv.2 e.val) ∧
  (kvs0.map fun kv => kv.1.lit).Nodup ∧ (es.toList.map MapEntry.born).Nodup ∧ ∀ e ∈ es.toList, e.born < clock
 | .bmap kvs bs ck => ∃ es, w.heap[l.b]? = some (.map es ck) ∧ es.size = kvs.length ∧
  (∀ (i : Nat) (e : MapEntry) (kv : AVal × AVal), es[i]? = some e → kvs[i]? = some kv → e.key = kv.1.lit ∧ Rel C w τ H kv.2 e.val) ∧
  (kvs.map fun kv => kv.1.lit).Nodup ∧ es.toList.map MapEntry.born = bs ∧ bs.Nodup ∧ ∀ b ∈ bs, b < ck
 | .mit none _ _ => w.heap[l.b]? = some (.mapIter none 0 #[] 0)
 | .mit (some m) ck seen => ∃ om lm, H[m]? = some om ∧ om.isMp = true ∧ τ m = some lm ∧ w.heap[l.b]? = some (.mapIter (some lm.b) ck seen.toArray ck)
def AObj.ok : AObj → Prop
 | .arr esz es => ∀ e ∈ es, e.length = esz ∧ ∀ d ∈ e, d.isCell = true
 | .iter _ _ => True
 | .map _ => True
 | .bmap _ _ _ => True
 | .mit _ _ _ => True
class Draws where
 up : Prop
 gl : Nat → Option (List AVal)
variable [Draws]
structure WF (C : Nat → Nat) (τ : Nat → Option Loc) (H : List AObj) (w : World) : Prop where
 ok : ∀ (id : Nat) (o : AObj), H[id]? = some o → o.ok
 virt : ∀ (id : Nat) (o : AObj), H[id]? = some o → τ id = none → ∃ esz, o = .arr esz []
 objs : ∀ (id : Nat) (o : AObj) (l : Loc), H[id]? = some o → τ id = some l → ObjAt C w τ H l o
 comm : ∀ (id : Nat) (l : Loc), id < H.length → τ id = some l → C l.b = 0
 inj : ∀ (i j : Nat) (li lj : Loc), i < H.length → j < H.length → τ i = some li → τ j = some lj → li.b = lj.b → i = j
 lt : ∀ b, 0 < C b → b < w.heap.size
 gls : ∀ (g : Nat) (cs : List AVal), Draws.gl g = some cs → Rd C w (.cptr cs 0) (.pointer (some ⟨g, 0, none⟩))
def Owned (τ : Nat → Option Loc) (H : List AObj) (b : Nat) : Prop := ∃ id l, id < H.length ∧ τ id = some l ∧ l.b = b
structure Fr (w0 : World) (Pr : Nat → Prop) (w : World) : Prop where
 os : w.os = w0.os
 tape : w.tape = w0.tape
 output : w.output = w0.output
 size : w0.heap.size ≤ w.heap.size
 prot : ∀ b, Pr b → w.heap[b]? = w0.heap[b]?
 drawn : Draws.up → w0.drawn ≤ w.drawn
structure St (w0 : World) (Pr : Nat → Prop) (C : Nat → Nat) (τ : Nat → Option Loc) (H : List AObj) (w : World) : Prop where
 wf : WF C τ H w
 fr : Fr w0 Pr w
 own : ∀ b, Owned τ H b → ¬ Pr b
 plt : ∀ b, Pr b → b < w0.heap.size
def AObj.after (o o' : AObj) (t t' : Option Loc) : Prop :=
 match o, o' with
 | .arr esz es, .arr esz' es' => esz' = esz ∧ es.length ≤ es'.length ∧ (es.length = es'.length → t' = t)
 | .iter _ _, .iter _ _ => t' = t
 | .map _, .map _ => t' = t
 | .map _, .bmap _ _ _ => t' = t
 | .bmap _ _ _, .map _ => t' = t
 | .bmap _ _ _, .bmap _ _ _ => t' = t
 | .mit m _ _, .mit m' _ _ => m' = m ∧ t' = t
 | _, _ => False
structure Step (C : Nat → Nat) (τ : Nat → Option Loc) (H : List AObj) (w : World) (C' : Nat → Nat) (τ' : Nat → Option Loc) (H' : List AObj) (w' : World) : Prop where
 le : ∀ b, C b ≤ C' b
 cell : ∀ b i, i < C b → w'.cell? ⟨b, i, none⟩ = w.cell? ⟨b, i, none⟩
 obj : ∀ (id : Nat) (o : AObj), H[id]? = some o → ∃ o' : AObj, H'[id]? = some o' ∧ o.after o' (τ id) (τ' id)
 grow : w.heap.size ≤ w'.heap.size
 old : ∀ b, b < w.heap.size → C' b = C b
theorem AObj.after_refl (o : AObj) (t : Option Loc) : o.after o t t := by
 cases o <;> simp [AObj.after]
theorem AObj.after_trans {o o' o'' : AObj} {t t' t'' : Option Loc} (h : o.after o' t t') (k : o'.after o'' t' t'') : o.after o'' t t'' := by
 cases o <;> cases o' <;> cases o'' <;> simp only [AObj.after] at h k ⊢
 ·obtain ⟨e1, l1, t1⟩ := h
  obtain ⟨e2, l2, t2⟩ := k
  exact ⟨e2.trans e1, Nat.le_trans l1 l2, fun e => (t2 (by omega)).trans (t1 (by omega))⟩
 all_goals first
  | exact k.trans h
  | exact ⟨k.1.trans h.1, k.2.trans h.2⟩
  | exact h.elim
  | exact k.elim
theorem AObj.after_mp {o o' : AObj} {t t' : Option Loc} (hm : o.isMp = true) (h : o.after o' t t') : o'.isMp = true ∧ t' = t := by
 cases o <;> simp only [AObj.isMp, Bool.false_eq_true] at hm <;> cases o' <;> simp only [AObj.after] at h <;> exact ⟨rfl, h⟩
section
variable {C C' C'' : Nat → Nat} {τ τ' τ'' : Nat → Option Loc} {H H' H'' : List AObj} {w w' w'' : World}
theorem Step.refl : Step C τ H w C τ H w := ⟨fun _ => Nat.le_refl _, fun _ _ _ => rfl, fun _ o h => ⟨o, h, o.after_refl _⟩, Nat.le_refl _, fun _ _ => rfl⟩
theorem Step.trans (h : Step C τ H w C' τ' H' w') (k : Step C' τ' H' w' C'' τ'' H'' w'') : Step C τ H w C'' τ'' H'' w'' := by
 refine ⟨fun b => Nat.le_trans (h.le b) (k.le b), fun b i hi => ?_, fun id o ho => ?_, Nat.le_trans h.grow k.grow, fun b hb => (k.old b (Nat.lt_of_lt_of_le hb h.grow)).trans (h.old b hb)⟩
 ·rw [k.cell b i (Nat.lt_of_lt_of_le hi (h.le b)), h.cell b i hi]
 ·obtain ⟨o1, h1, t1⟩ := h.obj id o ho
  obtain ⟨o2, h2, t2⟩ := k.obj id o1 h1
  exact ⟨o2, h2, AObj.after_trans t1 t2⟩
theorem Rd.mono {d : AVal} {v : Value} (h : Rd C w d v) (hle : ∀ b, C b ≤ C' b) (hc : ∀ b i, i < C b → w'.cell? ⟨b, i, none⟩ = w.cell? ⟨b, i, none⟩) : Rd C' w' d v := by
 induction h with
 | junk v h => exact .junk v h
 | bool b => exact .bool b
 | int k n => exact .int k n
 | str s => exact .str s
 | nil => exact .nil
 | list0 x sz a cap hx => exact .list0 x sz a cap hx
 | list x sz es b off cap vs hx hcap hsz hC hcell hp hrd ih =>
  refine .list x sz es b off cap vs hx hcap hsz (Nat.le_trans hC (hle b)) (fun i j hi hj => ?_) hp ih
  rw [hc b _ ?_, hcell i j hi hj]
  have h1 : (i + 1) * sz ≤ es.length * sz := Nat.mul_le_mul_right _ hi
  rw [Nat.add_mul] at h1
  omega
 | cptr cs fld b off vs hC hcell hp hrd ih =>
  refine .cptr cs fld b off vs (Nat.le_trans hC (hle b)) (fun j hj => ?_) hp ih
  rw [hc b _ (by omega), hcell j hj]
 | fn f => exact .fn f
 | nilm => exact .nilm
 | nilp => exact .nilp
theorem Rel.mono {d : AVal} {v : Value} (h : Rel C w τ H d v) (s : Step C τ H w C' τ' H' w') : Rel C' w' τ' H' d v := by
 induction h with
 | rd h => exact .rd (h.mono s.le s.cell)
 | undef v => exact .undef v
 | sl id ep off len a cap esz es ho hep h =>
  obtain ⟨o', ho', hx⟩ := s.obj id _ ho
  cases o' with
  | iter _ _ => simp [AObj.after] at hx
  | map _ => simp [AObj.after] at hx
  | bmap _ _ _ => simp [AObj.after] at hx
  | mit _ _ _ => simp [AObj.after] at hx
  | arr esz' es' =>
   obtain ⟨rfl, hl, ht⟩ := hx
   refine .sl id ep off len a cap esz' es' ho' (Nat.le_trans hep hl) (fun e => ?_)
   have e1 : ep = es.length := by omega
   have e2 : es.length = es'.length := by omega
   rw [ht e2, ← e2]
   exact h e1
 | ptr id ep idx fld a esz es ho hep h =>
  obtain ⟨o', ho', hx⟩ := s.obj id _ ho
  cases o' with
  | iter _ _ => simp [AObj.after] at hx
  | map _ => simp [AObj.after] at hx
  | bmap _ _ _ => simp [AObj.after] at hx
  | mit _ _ _ => simp [AObj.after] at hx
  | arr esz' es' =>
   obtain ⟨rfl, hl, ht⟩ := hx
   refine .ptr id ep idx fld a esz' es' ho' (Nat.le_trans hep hl) (fun e => ?_)
   have e1 : ep = es.length := by omega
   have e2 : es.length = es'.length := by omega
   rw [ht e2]
   exact h e1
 | it id s' pos l ho ht =>
  obtain ⟨o', ho', hx⟩ := s.obj id _ ho
  cases o' with
  | iter s2 p2 => exact .it id s2 p2 l ho' (hx.trans ht)
  | _ => simp [AObj.after] at hx
 | mp id o l ho hm ht =>
  obtain ⟨o', ho', hx⟩ := s.obj id _ ho
  obtain ⟨h1, h2⟩ := AObj.after_mp hm hx
  exact .mp id o' l ho' h1 (h2.trans ht)
 | mt id mid ck seen l ho ht =>
  obtain ⟨o', ho', hx⟩ := s.obj id _ ho
  cases o' with
  | mit m2 c2 s2 => exact .mt id m2 c2 s2 l ho' (hx.2.trans ht)
  | _ => simp [AObj.after] at hx
 | slc id ep off len cap a esz es ho hep h =>
  obtain ⟨o', ho', hx⟩ := s.obj id _ ho
  cases o' with
  | iter _ _ => simp [AObj.after] at hx
  | map _ => simp [AObj.after] at hx
  | bmap _ _ _ => simp [AObj.after] at hx
  | mit _ _ _ => simp [AObj.after] at hx
  | arr esz' es' =>
   obtain ⟨rfl, hl, ht⟩ := hx
   refine .slc id ep off len cap a esz' es' ho' (Nat.le_trans hep hl) (fun e => ?_)
   have e1 : ep = es.length := by omega
   have e2 : es.length = es'.length := by omega
   rw [ht e2, ← e2]
   exact h e1
 | agg cs vs hl h ih => exact .agg cs vs hl ih
 | tuple cs vs hl h ih => exact .tuple cs vs hl ih
 | fn f cs vs hl h ih => exact .fn f cs vs hl ih
 | fnb f cs vs hl h ih => exact .fnb f cs vs hl ih
theorem Rel.plain {d : AVal} {v : Value} (h : Rel C w τ H d v) (hd : d.isCell = true) : v.oneCell' = true := by
 cases h with
 | rd h => cases h with
  | junk _ h => exact h
  | _ => rfl
 | undef v => simp [AVal.isCell] at hd
 | agg => simp [AVal.isCell] at hd
 | tuple => simp [AVal.isCell] at hd
 | _ => rfl
theorem AVal.isCell_of_isPure {d : AVal} (h : d.isPure = true) : d.isCell = true := by
 cases d <;> first | rfl | (simp [AVal.isPure] at h)
theorem Rel.pure {d : AVal} {v : Value} (h : Rel C w τ H d v) (hd : d.isPure = true) : Rd C w d v := by
 cases h with
 | rd h => exact h
 | undef v => simp [AVal.isPure] at hd
 | fn f cs vs hl h =>
  cases cs with
  | nil =>
   have : vs = #[] := Array.eq_empty_of_size_eq_zero (by simpa using hl.symm)
   subst this
   exact .fn f
  | cons c cs => simp [AVal.isPure] at hd
 | _ => simp [AVal.isPure] at hd
theorem Fr.refl (w : World) (Pr : Nat → Prop) : Fr w Pr w := ⟨rfl, rfl, rfl, Nat.le_refl _, fun _ _ => rfl, fun _ => Nat.le_refl _⟩
theorem Fr.trans {w0 w1 w2 : World} {Pr Pr' : Nat → Prop} (h : Fr w0 Pr w1) (k : Fr w1 Pr' w2) (hp : ∀ b, Pr b → Pr' b) : Fr w0 Pr w2 :=
 ⟨k.os.trans h.os, k.tape.trans h.tape, k.output.trans h.output, Nat.le_trans h.size k.size, fun b hb => (k.prot b (hp b hb)).trans (h.prot b hb), fun u => Nat.le_trans (h.drawn u) (k.drawn u)⟩
def PrCall (τ : Nat → Option Loc) (H : List AObj) (w : World) (b : Nat) : Prop := b < w.heap.size ∧ ¬ Owned τ H b
theorem St.start (h : WF C τ H w) : St w (PrCall τ H w) C τ H w := ⟨h, Fr.refl _ _, fun _ ho hp => hp.2 ho, fun _ hp => hp.1⟩
theorem St.after {w0 : World} {Pr : Nat → Prop} (h : St w0 Pr C τ H w) (k : St w (PrCall τ H w) C' τ' H' w') : St w0 Pr C' τ' H' w' := by
 have hp : ∀ b, Pr b → PrCall τ H w b := fun b hb => ⟨Nat.lt_of_lt_of_le (h.plt b hb) h.fr.size, fun ho => h.own b ho hb⟩
 exact ⟨k.wf, h.fr.trans k.fr hp, fun b ho hb => k.own b ho (hp b hb), h.plt⟩
end
def updF {α : Type} (f : Nat → α) (i : Nat) (v : α) : Nat → α := fun j => if j = i then v else f j
theorem updF_same {α : Type} (f : Nat → α) (i : Nat) (v : α) : updF f i v i = v := by simp [updF]
theorem updF_other {α : Type} (f : Nat → α) {i j : Nat} (v : α) (h : j ≠ i) : updF f i v j = f j := by simp [updF, h]
theorem cell_heap {w w' : World} {b i : Nat} (h : w'.heap[b]? = w.heap[b]?) : w'.cell? ⟨b, i, none⟩ = w.cell? ⟨b, i, none⟩ := by
 simp [World.cell?, h]
theorem heap_alloc_lt (w : World) (o : Obj) {b : Nat} (h : b < w.heap.size) : (w.alloc o).heap[b]? = w.heap[b]? := by
 simp only [World.alloc, Array.getElem?_push]; rw [if_neg (by omega)]
theorem heap_alloc_self (w : World) (o : Obj) : (w.alloc o).heap[w.heap.size]? = some o := by
 simp only [World.alloc, Array.getElem?_push, if_true]
theorem lt_of_heap {w : World} {b : Nat} {o : Obj} (h : w.heap[b]? = some o) : b < w.heap.size := by
 by_cases hb : b < w.heap.size
 ·exact hb
 ·simp [Array.getElem?_eq_none (by omega : w.heap.size ≤ b)] at h
section
variable {C : Nat → Nat} {τ : Nat → Option Loc} {H : List AObj} {w w0 : World} {Pr : Nat → Prop}
theorem WF.locLt (h : WF C τ H w) {id : Nat} {l : Loc} (hi : id < H.length) (ht : τ id = some l) : l.b < w.heap.size := by
 have ho : H[id]? = some H[id] := List.getElem?_eq_getElem hi
 have := h.objs id _ l ho ht
 cases hx : H[id] with
 | arr esz es => rw [hx] at this; obtain ⟨_, _, _, _, hh, _⟩ := this; exact lt_of_heap hh
 | iter s p => rw [hx] at this; exact lt_of_heap this
 | map kvs => rw [hx] at this; obtain ⟨_, _, _, _, hh, _⟩ := this; exact lt_of_heap hh
 | bmap kvs bs ck => rw [hx] at this; obtain ⟨_, hh, _⟩ := this; exact lt_of_heap hh
 | mit m ck seen =>
  rw [hx] at this
  cases m with
  | none => exact lt_of_heap this
  | some m => obtain ⟨_, _, _, _, _, hh⟩ := this; exact lt_of_heap hh
theorem WF.glsS {C' : Nat → Nat} {τ' : Nat → Option Loc} {H' : List AObj} {w' : World} (h : WF C τ H w) (s : Step C τ H w C' τ' H' w') (g : Nat) (cs : List AVal) (hg : Draws.gl g = some cs) : Rd C' w' (.cptr cs 0) (.pointer (some ⟨g, 0, none⟩)) := (h.gls g cs hg).mono s.le s.cell
theorem ObjAt.mono {C' : Nat → Nat} {τ' : Nat → Option Loc} {H' : List AObj} {w' : World} {l : Loc} {o : AObj} (h : ObjAt C w τ H l o)
  (s : Step C τ H w C' τ' H' w') (hh : w'.heap[l.b]? = w.heap[l.b]?) : ObjAt C' w' τ' H' l o := by
 cases o with
 | arr esz es =>
  obtain ⟨hl, cells, elem, fz, h1, h2, h3, h4⟩ := h
  refine ⟨hl, cells, elem, fz, hh.trans h1, h2, h3, fun i j e d he hd => ?_⟩
  obtain ⟨v, hv, hr⟩ := h4 i j e d he hd
  exact ⟨v, hv, hr.mono s⟩
 | iter s' p => exact Eq.trans hh h
 | map kvs =>
  obtain ⟨kvs0, es, clock, hp, h1, h2, h3, h4⟩ := h
  exact ⟨kvs0, es, clock, hp, hh.trans h1, h2, fun i e kv he hkv => ⟨(h3 i e kv he hkv).1, (h3 i e kv he hkv).2.mono s⟩, h4⟩
 | bmap kvs bs ck =>
  obtain ⟨es, h1, h2, h3, h4⟩ := h
  exact ⟨es, hh.trans h1, h2, fun i e kv he hkv => ⟨(h3 i e kv he hkv).1, (h3 i e kv he hkv).2.mono s⟩, h4⟩
 | mit m ck seen =>
  cases m with
  | none => exact Eq.trans hh h
  | some m =>
   obtain ⟨om, lm, h1, h2, h3, h4⟩ := h
   obtain ⟨o', ho', hx⟩ := s.obj m om h1
   obtain ⟨g1, g2⟩ := AObj.after_mp h2 hx
   exact ⟨o', lm, ho', g1, g2.trans h3, hh.trans h4⟩
theorem St.same {w' : World} (h : St w0 Pr C τ H w) (hh : w'.heap = w.heap) (ho : w'.os = w.os) (ht : w'.tape = w.tape) (hp : w'.output = w.output) (hd : w.drawn ≤ w'.drawn := by simp) :
  St w0 Pr C τ H w' ∧ Step C τ H w C τ H w' := by
 have s : Step C τ H w C τ H w' := ⟨fun _ => Nat.le_refl _, fun b i _ => cell_heap (by rw [hh]), fun _ o h => ⟨o, h, o.after_refl _⟩, by rw [hh]; exact Nat.le_refl _, fun _ _ => rfl⟩
 refine ⟨⟨⟨h.wf.ok, h.wf.virt, fun id o l h1 h2 => (h.wf.objs id o l h1 h2).mono s (by rw [hh]), h.wf.comm, h.wf.inj, fun b hb => by rw [hh]; exact h.wf.lt b hb, h.wf.glsS s⟩, ?_, h.own, h.plt⟩, s⟩
 exact ⟨ho.trans h.fr.os, ht.trans h.fr.tape, hp.trans h.fr.output, by rw [hh]; exact h.fr.size, fun b hb => by rw [hh]; exact h.fr.prot b hb, fun u => Nat.le_trans (h.fr.drawn u) hd⟩
theorem St.alloc_comm (h : St w0 Pr C τ H w) (o : Obj) (n : Nat) :
  St w0 Pr (updF C w.heap.size (C w.heap.size + n)) τ H (w.alloc o) ∧ Step C τ H w (updF C w.heap.size (C w.heap.size + n)) τ H (w.alloc o) := by
 have hlt : ∀ b i, i < C b → b < w.heap.size := fun b i hi => h.wf.lt b (by omega)
 have s : Step C τ H w (updF C w.heap.size (C w.heap.size + n)) τ H (w.alloc o) := by
  refine ⟨fun b => ?_, fun b i hi => cell_heap (heap_alloc_lt _ _ (hlt b i hi)), fun _ o h => ⟨o, h, o.after_refl _⟩, by simp, fun b hb => updF_other _ _ (by omega)⟩
  by_cases hb : b = w.heap.size
  ·subst hb; rw [updF_same]; omega
  ·rw [updF_other _ _ hb]; exact Nat.le_refl _
 refine ⟨⟨⟨h.wf.ok, h.wf.virt, fun id ob l h1 h2 => (h.wf.objs id ob l h1 h2).mono s (heap_alloc_lt _ _ ?_), fun id l h1 h2 => ?_, h.wf.inj, fun b hb => ?_, h.wf.glsS s⟩, ?_, h.own, h.plt⟩, s⟩
 ·exact h.wf.locLt (List.getElem?_eq_some_iff.1 h1).1 h2
 ·have hl := h.wf.locLt h1 h2
  rw [updF_other _ _ (by omega)]; exact h.wf.comm id l h1 h2
 ·simp only [World.size_alloc]
  by_cases e : b = w.heap.size
  ·omega
  ·rw [updF_other _ _ e] at hb; have := h.wf.lt b hb; omega
 ·refine ⟨h.fr.os, h.fr.tape, h.fr.output, by simp only [World.size_alloc]; have := h.fr.size; omega, fun b hb => ?_, h.fr.drawn⟩
  rw [heap_alloc_lt _ _ (Nat.lt_of_lt_of_le (h.plt b hb) h.fr.size)]; exact h.fr.prot b hb
theorem after_snoc {H : List AObj} {τ : Nat → Option Loc} {n : AObj} {t : Option Loc} (id : Nat) (o : AObj) (ho : H[id]? = some o) :
  ∃ o' : AObj, (H ++ [n])[id]? = some o' ∧ o.after o' (τ id) (updF τ H.length t id) := by
 have hi := (List.getElem?_eq_some_iff.1 ho).1
 exact ⟨o, by rw [List.getElem?_append_left hi]; exact ho, by rw [updF_other _ _ (by omega)]; exact o.after_refl _⟩
theorem St.virt (h : St w0 Pr C τ H w) (esz : Nat) :
  St w0 Pr C (updF τ H.length none) (H ++ [.arr esz []]) w ∧ Step C τ H w C (updF τ H.length none) (H ++ [.arr esz []]) w := by
 have s : Step C τ H w C (updF τ H.length none) (H ++ [.arr esz []]) w := ⟨fun _ => Nat.le_refl _, fun _ _ _ => rfl, after_snoc, Nat.le_refl _, fun _ _ => rfl⟩
 have old : ∀ id o, (H ++ [AObj.arr esz []])[id]? = some o → (H[id]? = some o ∧ id < H.length) ∨ (id = H.length ∧ o = .arr esz []) := by
  intro id o ho
  by_cases hi : id < H.length
  ·rw [List.getElem?_append_left hi] at ho; exact .inl ⟨ho, hi⟩
  ·rw [List.getElem?_append_right (by omega)] at ho
   by_cases e : id - H.length = 0
   ·rw [e] at ho; simp at ho; exact .inr ⟨by omega, ho.symm⟩
   ·obtain ⟨k, hk⟩ : ∃ k, id - H.length = k + 1 := ⟨id - H.length - 1, by omega⟩
    rw [hk] at ho; simp at ho
 have lt : ∀ id l, id < (H ++ [AObj.arr esz []]).length → updF τ H.length none id = some l → id < H.length ∧ τ id = some l := by
  intro id l h1 h2
  by_cases e : id = H.length
  ·subst e; rw [updF_same] at h2; cases h2
  ·rw [updF_other _ _ e] at h2; simp at h1; exact ⟨by omega, h2⟩
 refine ⟨⟨⟨fun id o ho => ?_, fun id o ho ht => ?_, fun id o l ho ht => ?_, fun id l h1 h2 => ?_, fun i j li lj h1 h2 h3 h4 => ?_, h.wf.lt, h.wf.glsS s⟩, h.fr, ?_, h.plt⟩, s⟩
 ·rcases old id o ho with ⟨h1, _⟩ | ⟨_, rfl⟩
  ·exact h.wf.ok id o h1
  ·intro e he; simp at he
 ·rcases old id o ho with ⟨h1, h2⟩ | ⟨_, rfl⟩
  ·rw [updF_other _ _ (by omega)] at ht; exact h.wf.virt id o h1 ht
  ·exact ⟨_, rfl⟩
 ·have := lt id l (List.getElem?_eq_some_iff.1 ho).1 ht
  rw [List.getElem?_append_left this.1] at ho
  exact (h.wf.objs id o l ho this.2).mono s rfl
 ·have := lt id l h1 h2; exact h.wf.comm id l this.1 this.2
 ·have a := lt i li h1 h3; have b := lt j lj h2 h4
  exact h.wf.inj i j li lj a.1 b.1 a.2 b.2
 ·rintro b ⟨id, l, h1, h2, h3⟩
  have := lt id l h1 h2; exact h.own b ⟨id, l, this.1, this.2, h3⟩
theorem St.alloc_obj (h : St w0 Pr C τ H w) (ob : Obj) (o : AObj) (cap : Nat) (hok : o.ok)
  (hat : ∀ (C' : Nat → Nat) (τ' : Nat → Option Loc) (H' : List AObj) (w' : World), Step C τ H w C' τ' H' w' → w'.heap[w.heap.size]? = some ob → ObjAt C' w' τ' H' ⟨w.heap.size, cap⟩ o) :
  St w0 Pr C (updF τ H.length (some ⟨w.heap.size, cap⟩)) (H ++ [o]) (w.alloc ob) ∧
   Step C τ H w C (updF τ H.length (some ⟨w.heap.size, cap⟩)) (H ++ [o]) (w.alloc ob) := by
 have hlt : ∀ b i, i < C b → b < w.heap.size := fun b i hi => h.wf.lt b (by omega)
 have s : Step C τ H w C (updF τ H.length (some ⟨w.heap.size, cap⟩)) (H ++ [o]) (w.alloc ob) :=
  ⟨fun _ => Nat.le_refl _, fun b i hi => cell_heap (heap_alloc_lt _ _ (hlt b i hi)), after_snoc, by simp, fun _ _ => rfl⟩
 have hC0 : C w.heap.size = 0 := by
  rcases Nat.eq_zero_or_pos (C w.heap.size) with h0 | h0
  ·exact h0
  ·have := h.wf.lt _ h0; omega
 have old : ∀ id x, (H ++ [o])[id]? = some x → (H[id]? = some x ∧ id < H.length) ∨ (id = H.length ∧ x = o) := by
  intro id x ho
  by_cases hi : id < H.length
  ·rw [List.getElem?_append_left hi] at ho; exact .inl ⟨ho, hi⟩
  ·rw [List.getElem?_append_right (by omega)] at ho
   by_cases e : id - H.length = 0
   ·rw [e] at ho; simp at ho; exact .inr ⟨by omega, ho.symm⟩
   ·obtain ⟨k, hk⟩ : ∃ k, id - H.length = k + 1 := ⟨id - H.length - 1, by omega⟩
    rw [hk] at ho; simp at ho
 have lt : ∀ id l, id < (H ++ [o]).length → updF τ H.length (some ⟨w.heap.size, cap⟩) id = some l → (id < H.length ∧ τ id = some l) ∨ (id = H.length ∧ l = ⟨w.heap.size, cap⟩) := by
  intro id l h1 h2
  by_cases e : id = H.length
  ·subst e; rw [updF_same] at h2; cases h2; exact .inr ⟨rfl, rfl⟩
  ·rw [updF_other _ _ e] at h2; simp at h1; exact .inl ⟨by omega, h2⟩
 refine ⟨⟨⟨fun id x ho => ?_, fun id x ho ht => ?_, fun id x l ho ht => ?_, fun id l h1 h2 => ?_, fun i j li lj h1 h2 h3 h4 h5 => ?_, fun b hb => ?_, h.wf.glsS s⟩, ?_, ?_, h.plt⟩, s⟩
 ·rcases old id x ho with ⟨h1, _⟩ | ⟨_, rfl⟩
  ·exact h.wf.ok id x h1
  ·exact hok
 ·rcases old id x ho with ⟨h1, h2⟩ | ⟨rfl, rfl⟩
  ·rw [updF_other _ _ (by omega)] at ht; exact h.wf.virt id x h1 ht
  ·rw [updF_same] at ht; cases ht
 ·rcases old id x ho with ⟨h1, h2⟩ | ⟨rfl, rfl⟩
  ·rw [updF_other _ _ (by omega)] at ht
   exact (h.wf.objs id x l h1 ht).mono s (heap_alloc_lt _ _ (h.wf.locLt h2 ht))
  ·rw [updF_same] at ht; cases ht
   exact hat _ _ _ _ s (heap_alloc_self _ _)
 ·rcases lt id l h1 h2 with ⟨a, b⟩ | ⟨rfl, rfl⟩
  ·exact h.wf.comm id l a b
  ·exact hC0
 ·rcases lt i li h1 h3 with ⟨a, b⟩ | ⟨rfl, rfl⟩ <;> rcases lt j lj h2 h4 with ⟨c, d⟩ | ⟨rfl, rfl⟩
  ·exact h.wf.inj i j li lj a c b d h5
  ·have := h.wf.locLt a b; simp at h5; omega
  ·have := h.wf.locLt c d; simp at h5; omega
  ·rfl
 ·simp only [World.size_alloc]; have := h.wf.lt b hb; omega
 ·refine ⟨h.fr.os, h.fr.tape, h.fr.output, by simp only [World.size_alloc]; have := h.fr.size; omega, fun b hb => ?_, h.fr.drawn⟩
  rw [heap_alloc_lt _ _ (Nat.lt_of_lt_of_le (h.plt b hb) h.fr.size)]; exact h.fr.prot b hb
 ·rintro b ⟨id, l, h1, h2, rfl⟩ hp
  rcases lt id l h1 h2 with ⟨a, c⟩ | ⟨rfl, rfl⟩
  ·exact h.own _ ⟨id, l, a, c, rfl⟩ hp
  ·have := h.plt _ hp; have := h.fr.size; simp at *; omega
theorem St.set_obj {w' : World} {id : Nat} {o o' : AObj} {l : Loc} (h : St w0 Pr C τ H w) (ho : H[id]? = some o) (hl : τ id = some l)
  (hoth : ∀ b, b ≠ l.b → w'.heap[b]? = w.heap[b]?) (hsz : w'.heap.size = w.heap.size) (e1 : w'.os = w.os) (e2 : w'.tape = w.tape) (e3 : w'.output = w.output) (e4 : w'.drawn = w.drawn)
  (haft : o.after o' (some l) (some l)) (hok : o'.ok)
  (hat : ∀ (C' : Nat → Nat) (τ' : Nat → Option Loc) (H' : List AObj), Step C τ H w C' τ' H' w' → ObjAt C' w' τ' H' l o') :
  St w0 Pr C τ (H.set id o') w' ∧ Step C τ H w C τ (H.set id o') w' := by
 have hi := (List.getElem?_eq_some_iff.1 ho).1
 have hC := h.wf.comm id l hi hl
 have s : Step C τ H w C τ (H.set id o') w' := by
  refine ⟨fun _ => Nat.le_refl _, fun b i hb => cell_heap (hoth b ?_), fun j x hx => ?_, by rw [hsz]; exact Nat.le_refl _, fun _ _ => rfl⟩
  ·rintro rfl; omega
  ·by_cases e : j = id
   ·subst e
    refine ⟨o', by rw [List.getElem?_set_self hi], ?_⟩
    rw [ho] at hx; cases hx; rw [hl]; exact haft
   ·exact ⟨x, by rw [List.getElem?_set_ne (Ne.symm e)]; exact hx, x.after_refl _⟩
 refine ⟨⟨⟨fun j x hx => ?_, fun j x hx ht => ?_, fun j x lj hx ht => ?_, fun j lj h1 h2 => ?_, fun i j li lj h1 h2 => ?_, fun b hb => ?_, h.wf.glsS s⟩, ?_, ?_, h.plt⟩, s⟩
 ·by_cases e : j = id
  ·subst e; rw [List.getElem?_set_self hi] at hx; cases hx; exact hok
  ·rw [List.getElem?_set_ne (Ne.symm e)] at hx; exact h.wf.ok j x hx
 ·by_cases e : j = id
  ·subst e; rw [hl] at ht; cases ht
  ·rw [List.getElem?_set_ne (Ne.symm e)] at hx; exact h.wf.virt j x hx ht
 ·by_cases e : j = id
  ·subst e; rw [List.getElem?_set_self hi] at hx; cases hx
   rw [hl] at ht; cases ht; exact hat _ _ _ s
  ·rw [List.getElem?_set_ne (Ne.symm e)] at hx
   refine (h.wf.objs j x lj hx ht).mono s (hoth _ fun eb => e ?_)
   exact h.wf.inj j id lj l (List.getElem?_eq_some_iff.1 hx).1 hi ht hl eb
 ·rw [List.length_set] at h1; exact h.wf.comm j lj h1 h2
 ·rw [List.length_set] at h1 h2; exact h.wf.inj i j li lj h1 h2
 ·rw [hsz]; exact h.wf.lt b hb
 ·refine ⟨e1.trans h.fr.os, e2.trans h.fr.tape, e3.trans h.fr.output, by rw [hsz]; exact h.fr.size, fun b hb => ?_, fun u => by rw [e4]; exact h.fr.drawn u⟩
  rw [hoth b ?_]
  ·exact h.fr.prot b hb
  ·rintro rfl; exact h.own _ ⟨id, l, hi, hl, rfl⟩ hb
 ·rintro b ⟨j, lj, h1, h2, h3⟩
  rw [List.length_set] at h1; exact h.own b ⟨j, lj, h1, h2, h3⟩
theorem St.move_obj {id : Nat} {o o' : AObj} (h : St w0 Pr C τ H w) (ho : H[id]? = some o) (ob : Obj) (cap : Nat)
  (haft : o.after o' (τ id) (some ⟨w.heap.size, cap⟩)) (hok : o'.ok)
  (hat : ∀ (C' : Nat → Nat) (τ' : Nat → Option Loc) (H' : List AObj) (w' : World), Step C τ H w C' τ' H' w' → w'.heap[w.heap.size]? = some ob → ObjAt C' w' τ' H' ⟨w.heap.size, cap⟩ o') :
  St w0 Pr C (updF τ id (some ⟨w.heap.size, cap⟩)) (H.set id o') (w.alloc ob) ∧
   Step C τ H w C (updF τ id (some ⟨w.heap.size, cap⟩)) (H.set id o') (w.alloc ob) := by
 have hi := (List.getElem?_eq_some_iff.1 ho).1
 have hlt : ∀ b i, i < C b → b < w.heap.size := fun b i hi => h.wf.lt b (by omega)
 have hC0 : C w.heap.size = 0 := by
  rcases Nat.eq_zero_or_pos (C w.heap.size) with h0 | h0
  ·exact h0
  ·have := h.wf.lt _ h0; omega
 have s : Step C τ H w C (updF τ id (some ⟨w.heap.size, cap⟩)) (H.set id o') (w.alloc ob) := by
  refine ⟨fun _ => Nat.le_refl _, fun b i hb => cell_heap (heap_alloc_lt _ _ (hlt b i hb)), fun j x hx => ?_, by simp, fun _ _ => rfl⟩
  by_cases e : j = id
  ·subst e
   refine ⟨o', by rw [List.getElem?_set_self hi], ?_⟩
   rw [ho] at hx; cases hx; rw [updF_same]; exact haft
  ·exact ⟨x, by rw [List.getElem?_set_ne (Ne.symm e)]; exact hx, by rw [updF_other _ _ e]; exact x.after_refl _⟩
 have lt : ∀ j lj, j < (H.set id o').length → updF τ id (some ⟨w.heap.size, cap⟩) j = some lj → (j ≠ id ∧ j < H.length ∧ τ j = some lj) ∨ (j = id ∧ lj = ⟨w.heap.size, cap⟩) := by
  intro j lj h1 h2
  rw [List.length_set] at h1
  by_cases e : j = id
  ·subst e; rw [updF_same] at h2; cases h2; exact .inr ⟨rfl, rfl⟩
  ·rw [updF_other _ _ e] at h2; exact .inl ⟨e, h1, h2⟩
 refine ⟨⟨⟨fun j x hx => ?_, fun j x hx ht => ?_, fun j x lj hx ht => ?_, fun j lj h1 h2 => ?_, fun i j li lj h1 h2 h3 h4 h5 => ?_, fun b hb => ?_, h.wf.glsS s⟩, ?_, ?_, h.plt⟩, s⟩
 ·by_cases e : j = id
  ·subst e; rw [List.getElem?_set_self hi] at hx; cases hx; exact hok
  ·rw [List.getElem?_set_ne (Ne.symm e)] at hx; exact h.wf.ok j x hx
 ·by_cases e : j = id
  ·subst e; rw [updF_same] at ht; cases ht
  ·rw [List.getElem?_set_ne (Ne.symm e)] at hx; rw [updF_other _ _ e] at ht; exact h.wf.virt j x hx ht
 ·by_cases e : j = id
  ·subst e; rw [List.getElem?_set_self hi] at hx; cases hx
   rw [updF_same] at ht; cases ht; exact hat _ _ _ _ s (heap_alloc_self _ _)
  ·rw [List.getElem?_set_ne (Ne.symm e)] at hx; rw [updF_other _ _ e] at ht
   exact (h.wf.objs j x lj hx ht).mono s (heap_alloc_lt _ _ (h.wf.locLt (List.getElem?_eq_some_iff.1 hx).1 ht))
 ·rcases lt j lj h1 h2 with ⟨_, a, b⟩ | ⟨rfl, rfl⟩
  ·exact h.wf.comm j lj a b
  ·exact hC0
 ·rcases lt i li h1 h3 with ⟨_, a, b⟩ | ⟨rfl, rfl⟩ <;> rcases lt j lj h2 h4 with ⟨_, c, d⟩ | ⟨rfl, rfl⟩
  ·exact h.wf.inj i j li lj a c b d h5
  ·have := h.wf.locLt a b; simp at h5; omega
  ·have := h.wf.locLt c d; simp at h5; omega
  ·rfl
 ·simp only [World.size_alloc]; have := h.wf.lt b hb; omega
 ·refine ⟨h.fr.os, h.fr.tape, h.fr.output, by simp only [World.size_alloc]; have := h.fr.size; omega, fun b hb => ?_, h.fr.drawn⟩
  rw [heap_alloc_lt _ _ (Nat.lt_of_lt_of_le (h.plt b hb) h.fr.size)]; exact h.fr.prot b hb
 ·rintro b ⟨j, lj, h1, h2, rfl⟩ hp
  rcases lt j lj h1 h2 with ⟨_, a, c⟩ | ⟨rfl, rfl⟩
  ·exact h.own _ ⟨j, lj, a, c, rfl⟩ hp
  ·have := h.plt _ hp; have := h.fr.size; simp at *; omega
end
inductive AOpd where
 | t (n : Nat)
 | c (v : AVal)
 | g (n : Nat)
 deriving Inhabited
inductive AOp where
 | move (x : AOpd)
 | pick (c a b : AOpd)
 | alloc (zero : List AVal)
 | box (x : AOpd)
 | build (zero : List AVal) (parts : List (Nat × Nat × AOpd))
 | buildSlice (sz len : Nat) (zero : List AVal) (parts : List (Nat × AOpd))
 | buildSliceO (sz len : Nat) (zero : List AVal) (parts : List (Nat × AOpd))
 | load (ag : Bool) (sz : Nat) (x : AOpd)
 | store (sz : Nat) (x v : AOpd)
 | bin (op : BinOp) (x y : AOpd)
 | eqb (neg : Bool) (x y : AOpd)
 | eqs (neg : Bool) (ks : List Nat) (x y : AOpd)
 | un (op : UnOp) (x : AOpd)
 | conv (k : IntKind) (x : AOpd)
 | convBS (x : AOpd)
 | convSB (x : AOpd)
 | mkSlice (sz bytes : Nat) (zero : List AVal) (len cap : AOpd)
 | slice (sz : Nat) (x : AOpd) (lo hi : Option AOpd)
 | sliceStr (x : AOpd) (lo hi : Option AOpd)
 | fieldAddr (off : Nat) (x : AOpd)
 | field (ag : Bool) (off sz : Nat) (x : AOpd)
 | indexAddr (sz : Nat) (x i : AOpd)
 | indexStr (x i : AOpd)
 | extract (x : AOpd) (i : Nat)
 | call (f : FuncId) (args : List AOpd)
 | callv (x : AOpd) (args : List AOpd)
 | callE (f : FuncId) (args : List AOpd)
 | callvE (x : AOpd) (args : List AOpd)
 | makeFunc (f : FuncId) (caps : List AOpd)
 | makeFuncB (f : FuncId) (caps : List AOpd)
 | len (x : AOpd)
 | lenS (x : AOpd)
 | convSS (x : AOpd)
 | append (sz bytes : Nat) (zero : List AVal) (x y : AOpd)
 | appendI (sz bytes : Nat) (zero : List AVal) (x y : AOpd)
 | mn (x y : AOpd)
 | mx (x y : AOpd)
 | range (x : AOpd)
 | next (x : AOpd)
 | nop (x : AOpd)
 | mark (x : AOpd)
 | slice00 (sz : Nat) (x : AOpd)
 | isNil (neg : Bool) (x : AOpd)
 | slice3 (sz : Nat) (x h m : AOpd)
 | arrAddr (sz n : Nat) (x i : AOpd)
 | mkMap
 | lookupM (n : Nat) (zero : AVal) (ok : Bool) (m k : AOpd)
 | mapSet (n : Nat) (m k v : AOpd)
 | mkSliceC (sz bytes : Nat) (zero : List AVal) (len cap : AOpd)
 | capS (x : AOpd)
 | lenM (x : AOpd)
 | isNilM (neg : Bool) (x : AOpd)
 | deleteM (n : Nat) (m k : AOpd)
 | rangeM (x : AOpd)
 | nextM (x : AOpd)
 | entryM (x : AOpd)
 | mapEnt (n : Nat) (zero : AVal) (m k : AOpd)
 | entryStoreM (m st v : AOpd)
 | isNilP (neg : Bool) (x : AOpd)
 | isNilF (neg : Bool) (x : AOpd)
 deriving Inhabited
structure AIns where
 dst : Option Nat
 op : AOp
 guard : Option (Option Nat × Bool) := none
inductive ACode where
 | skip
 | region (ops : List AIns)
 | draw (ops : List (AIns × List Nat))
 | seq (a b : ACode)
 | cond (c : AOpd) (a b : ACode)
 | block (id : Nat) (body : ACode)
 | loop (body : ACode)
 | exit (id : Nat)
 | ret
 | ghost
 | stuck
inductive AExit where
 | normal
 | exit (id : Nat)
 | ret
def AOp.quiet : AOp → Bool
 | .move _ | .pick _ _ _ | .build _ _ | .buildSlice _ _ _ _ | .load _ _ _ | .bin _ _ _ | .eqb _ _ _ | .eqs _ _ _ _ | .un _ _ | .conv _ _ | .convBS _ | .slice _ _ _ _ | .sliceStr _ _ _
 | .fieldAddr _ _ | .field _ _ _ _ | .indexAddr _ _ _ | .indexStr _ _ | .extract _ _ | .call _ _ | .callv _ _ | .makeFunc _ _ | .makeFuncB _ _ | .len _ | .lenS _ | .convSS _ | .mn _ _ | .mx _ _ | .nop _ | .slice00 _ _ | .slice3 _ _ _ _ | .arrAddr _ _ _ _ | .capS _ | .lenM _ | .isNilM _ _ | .isNilP _ _ | .isNilF _ _ | .lookupM _ _ _ _ _ => true
 | _ => false
def AOp.free : AOp → Bool
 | .move _ | .pick _ _ _ | .build _ _ | .buildSlice _ _ _ _ | .bin _ _ _ | .eqb _ _ _ | .eqs _ _ _ _ | .un _ _ | .conv _ _ | .sliceStr _ _ _
 | .fieldAddr _ _ | .field _ _ _ _ | .indexStr _ _ | .extract _ _ | .makeFunc _ _ | .makeFuncB _ _ | .lenS _ | .convSS _ | .mn _ _ | .mx _ _ | .nop _ | .arrAddr _ _ _ _ | .isNilM _ _ | .isNilP _ _ | .isNilF _ _ => true
 | _ => false
def AOp.effect : AOp → Bool
 | .alloc _ | .box _ | .buildSliceO _ _ _ _ | .store _ _ _ | .convSB _ | .mkSlice _ _ _ _ _ | .mkSliceC _ _ _ _ _ | .callE _ _ | .callvE _ _ | .append _ _ _ _ _ | .appendI _ _ _ _ _ | .mark _ | .mkMap | .mapSet _ _ _ _ | .deleteM _ _ _ | .mapEnt _ _ _ _ | .entryStoreM _ _ _ => true
 | _ => false
def getK (l : List AVal) (n : Nat) (k : AVal → Prop) : Prop :=
 @List.rec AVal (fun _ => Nat → (AVal → Prop) → Prop) (fun _ k => k .undef)
  (fun x _ ih n k => @Nat.rec (fun _ => Prop) (k x) (fun m _ => ih m k) n) l n k
def getT : List AVal → Nat → AVal
 | [], _ => .undef
 | x :: _, 0 => x
 | _ :: xs, n + 1 => getT xs n
theorem getK_eq : ∀ (l : List AVal) (n : Nat) (k : AVal → Prop), getK l n k = k (getT l n)
 | [], _, _ => rfl
 | _ :: _, 0, _ => rfl
 | _ :: xs, n + 1, k => getK_eq xs n k
def setT : List AVal → Nat → AVal → List AVal
 | [], _, _ => []
 | _ :: xs, 0, v => v :: xs
 | x :: xs, n + 1, v => x :: setT xs n v
def setK (l : List AVal) (n : Nat) (v : AVal) (k : List AVal → Prop) : Prop :=
 @List.rec AVal (fun _ => Nat → (List AVal → Prop) → Prop) (fun _ k => k [])
  (fun x xs ih n k => @Nat.rec (fun _ => Prop) (k (v :: xs)) (fun m _ => ih m fun xs' => k (x :: xs')) n) l n k
theorem setK_eq : ∀ (l : List AVal) (n : Nat) (v : AVal) (k : List AVal → Prop), setK l n v k = k (setT l n v)
 | [], _, _, _ => rfl
 | _ :: _, 0, _, _ => rfl
 | x :: xs, n + 1, v, k => setK_eq xs n v fun xs' => k (x :: xs')
def forceK (l : List AVal) (k : List AVal → Prop) : Prop :=
 @List.rec AVal (fun _ => (List AVal → Prop) → Prop) (fun k => k []) (fun x _ ih k => ih fun xs' => k (x :: xs')) l k
theorem forceK_eq : ∀ (l : List AVal) (k : List AVal → Prop), forceK l k = k l
 | [], _ => rfl
 | x :: xs, k => forceK_eq xs fun xs' => k (x :: xs')
def glV (n : Nat) : AVal := match Draws.gl n with
 | some cs => .cptr cs 0
 | none => .undef
def ev (ρ : List AVal) : AOpd → AVal
 | .t n => getT ρ n
 | .c v => v
 | .g n => glV n
def evK (ρ : List AVal) (o : AOpd) (k : AVal → Prop) : Prop :=
 match o with
 | .t n => getK ρ n k
 | .c v => k v
 | .g n => @Option.rec (List AVal) (fun _ => Prop) (k .undef) (fun cs => k (.cptr cs 0)) (Draws.gl n)
theorem evK_eq (ρ : List AVal) (o : AOpd) (k : AVal → Prop) : evK ρ o k = k (ev ρ o) := by
 cases o with
 | t n => exact getK_eq _ _ _
 | c v => rfl
 | g n =>
  show @Option.rec (List AVal) (fun _ => Prop) (k .undef) (fun cs => k (.cptr cs 0)) (Draws.gl n) = k (glV n)
  unfold glV
  cases Draws.gl n <;> rfl
def evsK (ρ : List AVal) (os : List AOpd) (k : List AVal → Prop) : Prop :=
 @List.rec AOpd (fun _ => (List AVal → Prop) → Prop) (fun k => k []) (fun o _ ih k => evK ρ o fun v => ih fun vs => k (v :: vs)) os k
theorem evsK_eq (ρ : List AVal) : ∀ (os : List AOpd) (k : List AVal → Prop), evsK ρ os k = k (os.map (ev ρ))
 | [], _ => rfl
 | o :: os, k => by
  have : evsK ρ (o :: os) k = evK ρ o fun v => evsK ρ os fun vs => k (v :: vs) := rfl
  rw [this, evK_eq, evsK_eq ρ os, List.map_cons]
def condA (b : Bool) (k : Bool → Prop) : Prop := @Bool.rec (fun _ => Prop) (k false) (k true) b
theorem recA {b : Bool} {p q : Prop} (ht : b = true → p) (hf : b = false → q) : @Bool.rec (fun _ => Prop) q p b := by
 cases b
 ·exact hf rfl
 ·exact ht rfl
theorem recT {b : Bool} {p q : Prop} (hb : b = true) (h : p) : @Bool.rec (fun _ => Prop) q p b := by subst hb; exact h
theorem recF {b : Bool} {p q : Prop} (hb : b = false) (h : q) : @Bool.rec (fun _ => Prop) q p b := by subst hb; exact h
theorem recO {α : Type} {o : Option α} {q : Prop} {k : α → Prop} {e : α} (ho : o = some e) (h : k e) : @Option.rec α (fun _ => Prop) q (fun e => k e) o := by subst ho; exact h
theorem recN {α : Type} {o : Option α} {q : Prop} {k : α → Prop} (ho : o = none) (h : q) : @Option.rec α (fun _ => Prop) q (fun e => k e) o := by subst ho; exact h
theorem condA_eq (b : Bool) (k : Bool → Prop) : condA b k = k b := by cases b <;> rfl
def chkA (b : Bool) (p : Prop) : Prop := @Bool.rec (fun _ => Prop) False p b
theorem chkA_iff (b : Bool) (p : Prop) : chkA b p ↔ b = true ∧ p := by cases b <;> simp [chkA]
def idxA {α : Type} (l : List α) (i : Nat) (k : α → Prop) : Prop := @Option.rec α (fun _ => Prop) False (fun e => k e) l[i]?
theorem idxA_iff {α : Type} (l : List α) (i : Nat) (k : α → Prop) : idxA l i k ↔ ∃ e, l[i]? = some e ∧ k e := by
 unfold idxA; cases l[i]? <;> simp
theorem idxA_intro {α : Type} {l : List α} {i : Nat} {k : α → Prop} {e : α} (h : l[i]? = some e) (hk : k e) : idxA l i k := (idxA_iff l i k).2 ⟨e, h, hk⟩
def toCells : AVal → Option (List AVal)
 | .agg cs => some cs
 | .undef | .tuple _ => none
 | v => some [v]
def mkVal (ag : Bool) (cs : List AVal) : AVal :=
 match ag with
 | true => .agg cs
 | false => match cs with
  | c :: _ => c
  | [] => .undef
def putCells : List AVal → Nat → List AVal → List AVal
 | l, _, [] => l
 | l, i, v :: vs => putCells (setT l i v) (i + 1) vs
def snocK (H : List AObj) (o : AObj) (n : Nat) (k : Nat → List AObj → Prop) : Prop :=
 @List.rec AObj (fun _ => Nat → (Nat → List AObj → Prop) → Prop) (fun n k => k n [o])
  (fun x _ ih n k => ih (n + 1) fun i xs' => k i (x :: xs')) H n k
theorem snocK_eq : ∀ (H : List AObj) (o : AObj) (n : Nat) (k : Nat → List AObj → Prop), snocK H o n k = k (n + H.length) (H ++ [o])
 | [], _, _, _ => rfl
 | x :: xs, o, n, k => by
  have : snocK (x :: xs) o n k = snocK xs o (n + 1) fun i xs' => k i (x :: xs') := rfl
  simp only [this, snocK_eq xs, List.length_cons, List.cons_append]
  rw [show n + 1 + xs.length = n + (xs.length + 1) from by omega]
def objK (H : List AObj) (id : Nat) (k : AObj → Prop) : Prop := idxA H id k
def setO (H : List AObj) (n : Nat) (o : AObj) (k : List AObj → Prop) : Prop :=
 @List.rec AObj (fun _ => Nat → (List AObj → Prop) → Prop) (fun _ k => k [])
  (fun x xs ih n k => @Nat.rec (fun _ => Prop) (k (o :: xs)) (fun m _ => ih m fun xs' => k (x :: xs')) n) H n k
theorem setO_eq : ∀ (H : List AObj) (n : Nat) (o : AObj) (k : List AObj → Prop), setO H n o k = k (H.set n o)
 | [], _, _, _ => rfl
 | _ :: _, 0, _, _ => rfl
 | x :: xs, n + 1, o, k => setO_eq xs n o fun xs' => k (x :: xs')
def elemA (es : List (List AVal)) (ep idx : Nat) (k : List AVal → Prop) : Prop := chkA (Nat.beq ep es.length) (idxA es idx k)
theorem elemA_iff (es : List (List AVal)) (ep idx : Nat) (k : List AVal → Prop) : elemA es ep idx k ↔ ep = es.length ∧ ∃ e, es[idx]? = some e ∧ k e := by
 simp only [elemA, chkA_iff, idxA_iff, Nat.beq_eq]
def setEs (es : List (List AVal)) (i : Nat) (e : List AVal) : List (List AVal) :=
 match es with
 | [_] => (match i with | 0 => [e] | _ => es)
 | _ => es.set i e
theorem setEs_eq (es : List (List AVal)) (i : Nat) (e : List AVal) : setEs es i e = es.set i e := by
 unfold setEs
 split
 ·cases i <;> simp
 ·rfl
def forceE (l : List (List AVal)) (k : List (List AVal) → Prop) : Prop :=
 @List.rec (List AVal) (fun _ => (List (List AVal) → Prop) → Prop) (fun k => k []) (fun x _ ih k => ih fun xs' => k (x :: xs')) l k
theorem forceE_eq : ∀ (l : List (List AVal)) (k : List (List AVal) → Prop), forceE l k = k l
 | [], _ => rfl
 | x :: xs, k => forceE_eq xs fun xs' => k (x :: xs')
def setEK (l : List (List AVal)) (n : Nat) (e : List AVal) (k : List (List AVal) → Prop) : Prop :=
 @List.rec (List AVal) (fun _ => Nat → (List (List AVal) → Prop) → Prop) (fun _ k => k [])
  (fun x xs ih n k => @Nat.rec (fun _ => Prop) (forceE xs fun xs' => k (e :: xs')) (fun m _ => ih m fun xs' => k (x :: xs')) n) l n k
theorem setEK_eq : ∀ (l : List (List AVal)) (n : Nat) (e : List AVal) (k : List (List AVal) → Prop), setEK l n e k = k (l.set n e)
 | [], _, _, _ => rfl
 | _ :: xs, 0, e, k => forceE_eq xs fun xs' => k (e :: xs')
 | x :: xs, n + 1, e, k => setEK_eq xs n e fun xs' => k (x :: xs')
def bytesOf : List (List AVal) → Option (List UInt8)
 | [] => some []
 | [.int .u8 n] :: r => (bytesOf r).map (UInt8.ofNat n.toNat :: ·)
 | _ => none
def byteCells (l : List UInt8) : List (List AVal) := l.map fun b => [.int .u8 b.toNat]
def contentK (H : List AObj) (sz : Nat) (x : AVal) (k : List (List AVal) → Prop) : Prop :=
 match x with
 | .nil => k []
 | .list _ s es => chkA (Nat.beq s sz) (k es)
 | .sl id ep off len => objK H id fun o => match o with
  | .arr s es => chkA (Nat.beq s sz) (chkA (Nat.beq ep es.length) (k ((es.drop off).take len)))
  | _ => False
 | .str s => chkA (Nat.beq 1 sz) (k (byteCells s.data.toList))
 | _ => False
def binV (op : BinOp) (x y : AVal) (k : AVal → Prop) : Prop :=
 match x, y with
 | .int kx a, .int ky b =>
  match op with
  | .shl => 0 ≤ b ∧ k (.int kx (kx.wrap (a * 2 ^ (min b.toNat kx.bits))))
  | .shr => 0 ≤ b ∧ k (.int kx (a.fdiv (2 ^ (min b.toNat kx.bits))))
  | op => chkA (decide (kx = ky)) <| match op with
   | .add => k (.int kx (kx.wrap (a + b)))
   | .sub => k (.int kx (kx.wrap (a - b)))
   | .mul => k (.int kx (kx.wrap (a * b)))
   | .quo => b ≠ 0 ∧ k (.int kx (kx.wrap (a.tdiv b)))
   | .rem => b ≠ 0 ∧ k (.int kx (a.tmod b))
   | .and => k (.int kx (kx.wrap (BitVec.ofInt kx.bits a &&& BitVec.ofInt kx.bits b).toNat))
   | .or => k (.int kx (kx.wrap (BitVec.ofInt kx.bits a ||| BitVec.ofInt kx.bits b).toNat))
   | .xor => k (.int kx (kx.wrap (BitVec.ofInt kx.bits a ^^^ BitVec.ofInt kx.bits b).toNat))
   | .andNot => k (.int kx (kx.wrap (BitVec.ofInt kx.bits a &&& ~~~ BitVec.ofInt kx.bits b).toNat))
   | .eql => k (.bool (a == b))
   | .neq => k (.bool (a != b))
   | .lss => k (.bool (decide (a < b)))
   | .leq => k (.bool (decide (a ≤ b)))
   | .gtr => k (.bool (decide (a > b)))
   | .geq => k (.bool (decide (a ≥ b)))
   | _ => False
 | .str a, .str b =>
  match op with
  | .add => a.size + b.size ≤ 2 ^ 62 ∧ k (.str (a ++ b))
  | .eql => k (.bool (a.data.toList == b.data.toList))
  | .neq => k (.bool (!(a.data.toList == b.data.toList)))
  | .lss => k (.bool (Op.bytesLess a.data.toList b.data.toList))
  | .leq => k (.bool (Op.bytesLess a.data.toList b.data.toList || a.data.toList == b.data.toList))
  | .gtr => k (.bool (!(Op.bytesLess a.data.toList b.data.toList || a.data.toList == b.data.toList)))
  | .geq => k (.bool (!(Op.bytesLess a.data.toList b.data.toList)))
  | _ => False
 | _, _ => False
def eqCell : Nat → AVal → AVal → Option Bool
 | 0, .bool a, .bool b => some (a == b)
 | 1, .int k a, .int k' b => if k = k' then some (a == b) else none
 | 2, .str a, .str b => some (a.data.toList == b.data.toList)
 | _, _, _ => none
def eqCellsM : List Nat → List AVal → List AVal → (Bool → Prop) → Prop
 | [], [], [], k => k true
 | n :: ns, x :: xs, y :: ys, k => match eqCell n x y with
  | some b => eqCellsM ns xs ys fun c => k (b && c)
  | none => False
 | _, _, _, _ => False
def eqCells (ns : List Nat) (xs ys : List AVal) (k : Bool → Prop) : Prop :=
 @List.rec Nat (fun _ => List AVal → List AVal → (Bool → Prop) → Prop)
  (fun xs ys k => match xs, ys with
   | [], [] => k true
   | _, _ => False)
  (fun n _ ih xs ys k => match xs, ys with
   | x :: xs, y :: ys => match eqCell n x y with
    | some b => ih xs ys fun c => k (b && c)
    | none => False
   | _, _ => False) ns xs ys k
theorem eqCells_eqM : ∀ (ns : List Nat) (xs ys : List AVal) (k : Bool → Prop), eqCells ns xs ys k = eqCellsM ns xs ys k
 | [], [], [], _ => rfl
 | [], [], _ :: _, _ => rfl
 | [], _ :: _, _, _ => rfl
 | _ :: _, [], _, _ => rfl
 | _ :: _, _ :: _, [], _ => rfl
 | n :: ns, x :: xs, y :: ys, k => by
  show (match eqCell n x y with
    | some b => eqCells ns xs ys fun c => k (b && c)
    | none => False) = (match eqCell n x y with
    | some b => eqCellsM ns xs ys fun c => k (b && c)
    | none => False)
  cases eqCell n x y with
  | none => rfl
  | some b => exact eqCells_eqM ns xs ys _
def optK (o : Option AVal) (p : Prop) (k : AVal → Prop) : Prop := @Option.rec AVal (fun _ => Prop) p (fun e => k e) o
def keyOk (n : Nat) (k : AVal) (kvs : List (AVal × AVal)) : Bool := (eqCell n k k).isSome && kvs.all fun kv => (eqCell n k kv.1).isSome
def mfind (n : Nat) (k : AVal) : List (AVal × AVal) → Option AVal
 | [] => none
 | kv :: r => match eqCell n k kv.1 with
  | some true => some kv.2
  | _ => mfind n k r
def mput (n : Nat) (k v : AVal) : List (AVal × AVal) → List (AVal × AVal)
 | [] => [(k, v)]
 | kv :: r => match eqCell n k kv.1 with
  | some true => (kv.1, v) :: r
  | _ => kv :: mput n k v r
def mdel (n : Nat) (k : AVal) : List (AVal × AVal) → List (AVal × AVal)
 | [] => []
 | kv :: r => match eqCell n k kv.1 with
  | some true => r
  | _ => kv :: mdel n k r
def midx (n : Nat) (k : AVal) : List (AVal × AVal) → Option Nat
 | [] => none
 | kv :: r => match eqCell n k kv.1 with
  | some true => some 0
  | _ => (midx n k r).map (· + 1)
def optNK (o : Option Nat) (p : Prop) (k : Nat → Prop) : Prop := @Option.rec Nat (fun _ => Prop) p (fun e => k e) o
def unV (op : UnOp) (x : AVal) (k : AVal → Prop) : Prop :=
 match op, x with
 | .not, .bool b => k (.bool !b)
 | .neg, .int kx n => k (.int kx (kx.wrap (0 - n)))
 | _, _ => False
def boundsK (ρ : List AVal) (lo hi : Option AOpd) (len : Nat) (k : Nat → Nat → Prop) : Prop :=
 match lo, hi with
 | none, none => k 0 len
 | some l, none => evK ρ l fun v => match v with
  | .int _ a => (0 ≤ a ∧ a ≤ len) ∧ k a.toNat len
  | _ => False
 | none, some h => evK ρ h fun v => match v with
  | .int _ b => (0 ≤ b ∧ b ≤ len) ∧ k 0 b.toNat
  | _ => False
 | some l, some h => evK ρ l fun v => evK ρ h fun u => match v, u with
  | .int _ a, .int _ b => (0 ≤ a ∧ a ≤ b ∧ b ≤ len) ∧ k a.toNat b.toNat
  | _, _ => False
def roomB : Nat := 2 ^ 40
def fillK (ρ : List AVal) (ps : List (Nat × Nat × AOpd)) (cs : List AVal) (k : List AVal → Prop) : Prop :=
 @List.rec (Nat × Nat × AOpd) (fun _ => List AVal → (List AVal → Prop) → Prop) (fun cs k => k cs)
  (fun p _ ih cs k => match p with
   | (off, sz, x) => evK ρ x fun v => match toCells v with
    | some u => chkA (decide (u.length = sz) && decide (off + sz ≤ cs.length)) (ih (putCells cs off u) k)
    | none => False) ps cs k
theorem fillK_cons (ρ : List AVal) (off sz : Nat) (x : AOpd) (r : List (Nat × Nat × AOpd)) (cs : List AVal) (k : List AVal → Prop) : fillK ρ ((off, sz, x) :: r) cs k =
  evK ρ x fun v => match toCells v with
   | some u => chkA (decide (u.length = sz) && decide (off + sz ≤ cs.length)) (fillK ρ r (putCells cs off u) k)
   | none => False := rfl
def fillSK (ρ : List AVal) (sz : Nat) (ps : List (Nat × AOpd)) (es : List (List AVal)) (k : List (List AVal) → Prop) : Prop :=
 @List.rec (Nat × AOpd) (fun _ => List (List AVal) → (List (List AVal) → Prop) → Prop) (fun es k => k es)
  (fun p _ ih es k => match p with
   | (i, x) => evK ρ x fun v => match toCells v with
    | some u => chkA (decide (u.length = sz) && decide (i < es.length)) (forceK u fun u => setEK es i u fun es' => ih es' k)
    | none => False) ps es k
theorem fillSK_cons (ρ : List AVal) (sz i : Nat) (x : AOpd) (r : List (Nat × AOpd)) (es : List (List AVal)) (k : List (List AVal) → Prop) : fillSK ρ sz ((i, x) :: r) es k =
  evK ρ x fun v => match toCells v with
   | some u => chkA (decide (u.length = sz) && decide (i < es.length)) (forceK u fun u => setEK es i u fun es' => fillSK ρ sz r es' k)
   | none => False := rfl
def CallsX (P : Program) (f : FuncId) (args : Array Value) (w : World) (R : Ending → World → Prop) : Prop :=
 match (callFunc f args).run P w with
 | .ok (.enter g asv) w' => Calls P g asv w' R
 | .ok (.value v) w' => R (.returned v) w'
 | _ => False
def ACalls (P : Program) (f : FuncId) (args : List AVal) (H : List AObj) (Q : AVal → List AObj → Prop) : Prop :=
 ∀ (C : Nat → Nat) (τ : Nat → Option Loc) (w : World) (vs : Array Value), WF C τ H w → args.length = vs.size →
  (∀ (i : Nat) (a : AVal) (v : Value), args[i]? = some a → vs[i]? = some v → Rel C w τ H a v) →
  CallsX P f vs w fun e w' => ∃ v r C' τ' H', e = .returned v ∧ Q r H' ∧ Rel C' w' τ' H' r v ∧
   St w (PrCall τ H w) C' τ' H' w' ∧ Step C τ H w C' τ' H' w'
def nilK (H : List AObj) (v : AVal) (k : Bool → Prop) : Prop :=
 match v with
 | .nil => k true
 | .list _ _ es => (es = [] → k true) ∧ k false
 | .sl id ep _ len => objK H id fun o => match o with
  | .arr _ es => chkA (Nat.beq ep es.length) ((len = 0 → k true) ∧ k false)
  | _ => False
 | _ => False
def appK (H : List AObj) (sz bytes : Nat) (zero : List AVal) (v : AVal) (new : List (List AVal)) (K : AVal → List AObj → Prop) : Prop :=
 match v with
 | .nil => (new.length * bytes ≤ roomB ∧ new.length ≤ roomB) ∧ snocK H (.arr sz new) 0 fun id H' => K (.sl id new.length 0 new.length) H'
 | .list true s es => chkA (Nat.beq s sz) (@List.rec (List AVal) (fun _ => Prop)
   (((es.length + new.length) * bytes ≤ roomB ∧ es.length + new.length ≤ roomB ∧ (new ≠ [] ∨ es = [])) ∧
    snocK H (.arr sz (es ++ new)) 0 fun id H' => K (.sl id (es ++ new).length 0 (es ++ new).length) H')
   (fun _ _ _ => @List.rec (List AVal) (fun _ => Prop) (K (.list true s es) H)
    (fun _ _ _ => (((es.length + new.length) * bytes ≤ roomB ∧ es.length + new.length ≤ roomB ∧ (new ≠ [] ∨ es = [])) ∧
     snocK H (.arr sz (es ++ new)) 0 fun id H' => K (.sl id (es ++ new).length 0 (es ++ new).length) H')) new) es)
 | .sl id ep off len => objK H id fun o => match o with
  | .arr s es => chkA (Nat.beq s sz) (chkA (Nat.beq ep es.length) (((len + new.length) * bytes ≤ roomB ∧ len + new.length ≤ roomB ∧ off = 0 ∧ len = es.length) ∧
    setO H id (.arr s (es ++ new)) fun H' => K (.sl id (es ++ new).length 0 (es ++ new).length) H'))
  | _ => False
 | .slc id ep off len cap => objK H id fun o => match o with
  | .arr s es => chkA (Nat.beq s sz) (chkA (Nat.beq ep es.length) (((off = 0 ∧ len = 0 ∧ new.length ≤ cap) ∧
    setO H id (.arr s (new ++ es.drop new.length)) fun H' => K (.slc id ep 0 new.length cap) H') ∨
    ((len = cap ∧ new ≠ [] ∧ (len + new.length) * bytes ≤ roomB ∧ len + new.length ≤ roomB) ∧
     snocK H (.arr sz ((es.drop off).take len ++ new)) 0 fun id H' => K (.sl id ((es.drop off).take len ++ new).length 0 ((es.drop off).take len ++ new).length) H')))
  | _ => False
 | _ => False
def opA (P : Program) (o : AOp) (ρ : List AVal) (H : List AObj) (K : AVal → List AObj → Prop) : Prop :=
 match o with
 | .move x => evK ρ x fun v => K v H
 | .pick c a b => evK ρ c fun v => match v with
  | .bool t => condA t fun t => match t with
   | true => evK ρ a fun u => K u H
   | false => evK ρ b fun u => K u H
  | _ => False
 | .alloc zero => chkA (zero.all AVal.isCell) (snocK H (.arr zero.length [zero]) 0 fun id H' => K (.ptr id 1 0 0) H')
 | .box x => evK ρ x fun v => match toCells v with
  | some cs => chkA (cs.all AVal.isCell) (snocK H (.arr cs.length [cs]) 0 fun id H' => K (.ptr id 1 0 0) H')
  | none => False
 | .build zero parts => fillK ρ parts zero fun cs => forceK cs fun cs => K (.agg cs) H
 | .buildSlice sz len zero parts => fillSK ρ sz parts (List.replicate len zero) fun es =>
   chkA (decide (zero.length = sz) && decide (len * sz ≤ 2 ^ 24) && es.all (fun e => e.all AVal.isPure)) (K (.list true sz es) H)
 | .buildSliceO sz len zero parts => fillSK ρ sz parts (List.replicate len zero) fun es =>
   chkA (decide (zero.length = sz) && decide (len * sz ≤ 2 ^ 24) && es.all (fun e => e.all AVal.isCell)) (snocK H (.arr sz es) 0 fun id H' => K (.sl id es.length 0 es.length) H')
 | .load ag sz x => evK ρ x fun v => match v with
  | .ptr id ep idx fld => objK H id fun o => match o with
   | .arr _ es => elemA es ep idx fun e => chkA (decide (fld + sz ≤ e.length) && (ag || decide (sz = 1))) (forceK ((e.drop fld).take sz) fun cs => K (mkVal ag cs) H)
   | _ => False
  | .cptr e fld => chkA (decide (fld + sz ≤ e.length) && (ag || decide (sz = 1))) (forceK ((e.drop fld).take sz) fun cs => K (mkVal ag cs) H)
  | _ => False
 | .store sz x y => evK ρ x fun v => evK ρ y fun u => match v with
  | .ptr id ep idx fld => match toCells u with
   | some cs => objK H id fun o => match o with
    | .arr z es => elemA es ep idx fun e => chkA (decide (cs.length = sz) && decide (fld + sz ≤ e.length) && cs.all AVal.isCell)
      (forceK (putCells e fld cs) fun e' => setO H id (.arr z (setEs es idx e')) fun H' => K (.tuple []) H')
    | _ => False
   | none => False
  | _ => False
 | .bin op x y => evK ρ x fun v => evK ρ y fun u => binV op v u fun r => K r H
 | .eqb neg x y => evK ρ x fun v => evK ρ y fun u => match v, u with
  | .bool b, .bool c => match neg with
   | true => K (.bool (!(b == c))) H
   | false => K (.bool (b == c)) H
  | _, _ => False
 | .eqs neg ks x y => evK ρ x fun v => evK ρ y fun u => match v, u with
  | .agg xs, .agg ys => eqCells ks xs ys fun b => match neg with
   | true => K (.bool (!b)) H
   | false => K (.bool b) H
  | _, _ => False
 | .un op x => evK ρ x fun v => unV op v fun r => K r H
 | .conv k x => evK ρ x fun v => match v with
  | .int _ n => K (.int k (k.wrap n)) H
  | _ => False
 | .convBS x => evK ρ x fun v => match v with
  | .nil => K (.str ⟨#[]⟩) H
  | .list _ _ _ | .sl _ _ _ _ => contentK H 1 v fun es => ∃ l, bytesOf es = some l ∧ K (.str ⟨l.toArray⟩) H
  | _ => False
 | .convSB x => evK ρ x fun v => match v with
  | .str s => s.size ≤ roomB ∧ snocK H (.arr 1 (byteCells s.data.toList)) 0 fun id H' => K (.sl id s.data.toList.length 0 s.data.toList.length) H'
  | _ => False
 | .mkSlice sz bytes zero len cap => evK ρ len fun v => evK ρ cap fun u => match v, u with
  | .int _ n, .int _ c => (0 ≤ n ∧ n ≤ c ∧ c * bytes ≤ (roomB : Int) ∧ c ≤ (roomB : Int)) ∧ chkA (decide (zero.length = sz) && zero.all AVal.isCell)
    (snocK H (.arr sz (List.replicate n.toNat zero)) 0 fun id H' => K (.sl id n.toNat 0 n.toNat) H')
  | _, _ => False
 | .mkSliceC sz bytes zero len cap => evK ρ len fun v => evK ρ cap fun u => match v, u with
  | .int _ n, .int _ c => (0 ≤ n ∧ n ≤ c ∧ c * bytes ≤ (roomB : Int) ∧ c ≤ (roomB : Int)) ∧ chkA (decide (zero.length = sz) && zero.all AVal.isCell)
    (snocK H (.arr sz (List.replicate c.toNat zero)) 0 fun id H' => K (.slc id c.toNat 0 n.toNat c.toNat) H')
  | _, _ => False
 | .slice sz x lo hi => evK ρ x fun v => match v with
  | .nil => boundsK ρ lo hi 0 fun _ _ => K .nil H
  | .list ex s es => chkA (Nat.beq s sz) (boundsK ρ lo hi es.length fun a b => K (.list (ex && hi.isNone) s ((es.take b).drop a)) H)
  | .sl id ep off len => objK H id fun o => match o with
   | .arr s es => chkA (Nat.beq s sz) (chkA (Nat.beq ep es.length) (boundsK ρ lo hi len fun a b => K (.sl id ep (off + a) (b - a)) H))
   | _ => False
  | .slc id ep off _ cap => chkA hi.isSome (objK H id fun o => match o with
   | .arr s es => chkA (Nat.beq s sz) (chkA (Nat.beq ep es.length) (boundsK ρ lo hi cap fun a b => K (.slc id ep (off + a) (b - a) (cap - a)) H))
   | _ => False)
  | _ => False
 | .sliceStr x lo hi => evK ρ x fun v => match v with
  | .str s => boundsK ρ lo hi s.size fun a b => K (.str (s.extract a b)) H
  | _ => False
 | .fieldAddr off x => evK ρ x fun v => match v with
  | .ptr id ep idx fld => K (.ptr id ep idx (fld + off)) H
  | .cptr e fld => K (.cptr e (fld + off)) H
  | _ => False
 | .field ag off sz x => evK ρ x fun v => match v with
  | .agg cs => chkA (decide (off + sz ≤ cs.length) && (ag || decide (sz = 1))) (forceK ((cs.drop off).take sz) fun cs => K (mkVal ag cs) H)
  | _ => False
 | .indexAddr sz x i => evK ρ x fun v => evK ρ i fun u => match u with
  | .int _ n => match v with
   | .list _ s es => chkA (Nat.beq s sz) (0 ≤ n ∧ idxA es n.toNat fun e => K (.cptr e 0) H)
   | .sl id ep off len => objK H id fun o => match o with
    | .arr s es => chkA (Nat.beq s sz) (chkA (Nat.beq ep es.length) ((0 ≤ n ∧ n < len) ∧ K (.ptr id ep (off + n.toNat) 0) H))
    | _ => False
   | .slc id ep off len _ => objK H id fun o => match o with
    | .arr s es => chkA (Nat.beq s sz) (chkA (Nat.beq ep es.length) ((0 ≤ n ∧ n < len) ∧ K (.ptr id ep (off + n.toNat) 0) H))
    | _ => False
   | _ => False
  | _ => False
 | .indexStr x i => evK ρ x fun v => evK ρ i fun u => match v, u with
  | .str s, .int _ n => 0 ≤ n ∧ idxA s.data.toList n.toNat fun b => K (.int .u8 b.toNat) H
  | _, _ => False
 | .extract x i => evK ρ x fun v => match v with
  | .tuple vs => idxA vs i fun u => K u H
  | _ => False
 | .call f args => evsK ρ args fun vs => ACalls P f vs H K
 | .callv x args => evK ρ x fun v => evsK ρ args fun vs => match v with
  | .fn f caps => ACalls P f (vs ++ caps) H K
  | .fnb f caps => ACalls P f (caps ++ vs) H K
  | _ => False
 | .callE f args => evsK ρ args fun vs => ACalls P f vs H K
 | .callvE x args => evK ρ x fun v => evsK ρ args fun vs => match v with
  | .fn f caps => ACalls P f (vs ++ caps) H K
  | .fnb f caps => ACalls P f (caps ++ vs) H K
  | _ => False
 | .makeFunc f caps => evsK ρ caps fun vs => K (.fn f vs) H
 | .makeFuncB f caps => evsK ρ caps fun vs => K (.fnb f vs) H
 | .len x => evK ρ x fun v => match v with
  | .nil => K (.int .i64 0) H
  | .list _ _ es => K (.int .i64 es.length) H
  | .sl id ep _ len => objK H id fun o => match o with
   | .arr _ es => chkA (Nat.beq ep es.length) (K (.int .i64 len) H)
   | _ => False
  | .slc _ _ _ len _ => K (.int .i64 len) H
  | _ => False
 | .capS x => evK ρ x fun v => match v with
  | .slc _ _ _ _ cap => K (.int .i64 cap) H
  | _ => False
 | .lenS x => evK ρ x fun v => match v with
  | .str s => K (.int .i64 s.size) H
  | _ => False
 | .convSS x => evK ρ x fun v => match v with
  | .str s => K (.str s) H
  | _ => False
 | .append sz bytes zero x y => evK ρ x fun v => evK ρ y fun u => contentK H sz u fun new => chkA (decide (zero.length = sz) && zero.all AVal.isCell) <| match v with
  | .nil => (new.length * bytes ≤ roomB ∧ new.length ≤ roomB) ∧ snocK H (.arr sz new) 0 fun id H' => K (.sl id new.length 0 new.length) H'
  | .list true s es => chkA (Nat.beq s sz) (@List.rec (List AVal) (fun _ => Prop)
    (((es.length + new.length) * bytes ≤ roomB ∧ es.length + new.length ≤ roomB ∧ (new ≠ [] ∨ es = [])) ∧
     snocK H (.arr sz (es ++ new)) 0 fun id H' => K (.sl id (es ++ new).length 0 (es ++ new).length) H')
    (fun _ _ _ => @List.rec (List AVal) (fun _ => Prop) (K (.list true s es) H)
     (fun _ _ _ => (((es.length + new.length) * bytes ≤ roomB ∧ es.length + new.length ≤ roomB ∧ (new ≠ [] ∨ es = [])) ∧
      snocK H (.arr sz (es ++ new)) 0 fun id H' => K (.sl id (es ++ new).length 0 (es ++ new).length) H')) new) es)
  | .sl id ep off len => objK H id fun o => match o with
   | .arr s es => chkA (Nat.beq s sz) (chkA (Nat.beq ep es.length) (((len + new.length) * bytes ≤ roomB ∧ len + new.length ≤ roomB ∧ off = 0 ∧ len = es.length) ∧
     setO H id (.arr s (es ++ new)) fun H' => K (.sl id (es ++ new).length 0 (es ++ new).length) H'))
   | _ => False
  | .slc id ep off len cap => objK H id fun o => match o with
   | .arr s es => chkA (Nat.beq s sz) (chkA (Nat.beq ep es.length) (((off = 0 ∧ len = 0 ∧ new.length ≤ cap) ∧
     setO H id (.arr s (new ++ es.drop new.length)) fun H' => K (.slc id ep 0 new.length cap) H') ∨
     ((len = cap ∧ new ≠ [] ∧ (len + new.length) * bytes ≤ roomB ∧ len + new.length ≤ roomB) ∧
      snocK H (.arr sz ((es.drop off).take len ++ new)) 0 fun id H' => K (.sl id ((es.drop off).take len ++ new).length 0 ((es.drop off).take len ++ new).length) H')))
   | _ => False
  | _ => False
 | .appendI sz bytes zero x y => evK ρ x fun v => evK ρ y fun u => contentK H sz u fun new => chkA (decide (zero.length = sz) && zero.all AVal.isCell) <| match v with
  | .sl id ep off len => objK H id fun o => match o with
   | .arr s es => chkA (Nat.beq s sz) (chkA (Nat.beq ep es.length) (condA (Nat.ble (off + len + new.length) es.length && Nat.blt 0 new.length) fun t => match t with
    | true => setO H id (.arr s (es.take (off + len) ++ new ++ es.drop (off + len + new.length))) fun H' => K (.sl id ep off (len + new.length)) H'
    | false => appK H sz bytes zero (.sl id ep off len) new K))
   | _ => False
  | v => appK H sz bytes zero v new K
 | .mn x y => evK ρ x fun v => evK ρ y fun u => match v, u with
  | .int k a, .int _ b => K (.int k (if b < a then b else a)) H
  | _, _ => False
 | .mx x y => evK ρ x fun v => evK ρ y fun u => match v, u with
  | .int k a, .int _ b => K (.int k (if b > a then b else a)) H
  | _, _ => False
 | .range x => evK ρ x fun v => match v with
  | .str s => snocK H (.iter s 0) 0 fun id H' => K (.it id) H'
  | _ => False
 | .next x => evK ρ x fun v => match v with
  | .it id => objK H id fun o => match o with
   | .iter s pos => condA (decide (pos < s.size)) fun t => match t with
    | true => setO H id (.iter s (pos + (Utf8.decode s pos).2)) fun H' => K (.tuple [.bool true, .int .i64 pos, .int .i32 (Utf8.decode s pos).1]) H'
    | false => K (.tuple [.bool false]) H
   | _ => False
  | _ => False
 | .nop x => evK ρ x fun v => match v with
  | .ptr _ _ _ _ | .cptr _ _ | .fn _ _ => K v H
  | _ => False
 | .slice00 sz x => evK ρ x fun v => match v with
  | .nil => K .nil H
  | .list _ s _ => chkA (Nat.beq s sz) (K (.list true s []) H)
  | .sl _ _ _ _ => K (.list true sz []) H
  | _ => False
 | .slice3 sz x h m => evK ρ x fun v => evK ρ h fun a => evK ρ m fun b => match a, b with
  | .int _ i, .int _ j => match v with
   | .nil => (i = 0 ∧ j = 0) ∧ K .nil H
   | .list _ s es => chkA (Nat.beq s sz) ((i = j ∧ 0 ≤ i ∧ i ≤ es.length) ∧ K (.list true s (es.take i.toNat)) H)
   | .sl id ep off len => objK H id fun o => match o with
    | .arr s es => chkA (Nat.beq s sz) (chkA (Nat.beq ep es.length) ((i = j ∧ 0 ≤ i ∧ i ≤ len) ∧ condA (decide (0 < i)) fun t => match t with
     | true => K (.slc id ep off i.toNat i.toNat) H
     | false => K (.list true sz []) H))
    | _ => False
   | _ => False
  | _, _ => False
 | .arrAddr sz n x i => evK ρ x fun v => evK ρ i fun u => match u with
  | .int _ m => match v with
   | .ptr id ep idx fld => (0 ≤ m ∧ m < n) ∧ K (.ptr id ep idx (fld + m.toNat * sz)) H
   | .cptr e fld => (0 ≤ m ∧ m < n) ∧ K (.cptr e (fld + m.toNat * sz)) H
   | _ => False
  | _ => False
 | .isNil neg x => evK ρ x fun v => nilK H v fun b => match neg with
  | true => K (.bool (!b)) H
  | false => K (.bool b) H
 | .mark x => evK ρ x fun v => match v with
  | .sl id ep off len => objK H id fun o => match o with
   | .arr _ es => chkA (Nat.beq ep es.length && decide (0 < len)) (K (.sl id ep off len) H)
   | _ => False
  | _ => False
 | .mkMap => snocK H (.map []) 0 fun id H' => K (.mp id) H'
 | .lookupM n zero ok m k => evK ρ m fun v => evK ρ k fun u => match v with
  | .nilm => chkA (keyOk n u []) (match ok with
    | true => K (.tuple [zero, .bool false]) H
    | false => K zero H)
  | .mp id => objK H id fun o => match o with
   | .map kvs => chkA (keyOk n u kvs) (match ok with
    | true => optK (mfind n u kvs) (K (.tuple [zero, .bool false]) H) fun e => K (.tuple [e, .bool true]) H
    | false => optK (mfind n u kvs) (K zero H) fun e => K e H)
   | .bmap kvs _ _ => chkA (keyOk n u kvs) (match ok with
    | true => optK (mfind n u kvs) (K (.tuple [zero, .bool false]) H) fun e => K (.tuple [e, .bool true]) H
    | false => optK (mfind n u kvs) (K zero H) fun e => K e H)
   | _ => False
  | _ => False
 | .lenM x => evK ρ x fun v => match v with
  | .nilm => K (.int .i64 0) H
  | .mp id => objK H id fun o => match o with
   | .map kvs => K (.int .i64 kvs.length) H
   | .bmap kvs _ _ => K (.int .i64 kvs.length) H
   | _ => False
  | _ => False
 | .isNilF neg x => evK ρ x fun v => match v with
  | .fn _ _ => K (.bool neg) H
  | .fnb _ _ => K (.bool neg) H
  | _ => False
 | .isNilP neg x => evK ρ x fun v => match v with
  | .nilp => K (.bool (!neg)) H
  | .ptr _ _ _ _ | .cptr _ _ => K (.bool neg) H
  | _ => False
 | .isNilM neg x => evK ρ x fun v => match v with
  | .nilm => K (.bool (!neg)) H
  | .mp _ => K (.bool neg) H
  | _ => False
 | .deleteM n m k => evK ρ m fun v => evK ρ k fun u => match v with
  | .nilm => chkA (keyOk n u []) (K (.tuple []) H)
  | .mp id => objK H id fun o => match o with
   | .map kvs => chkA (keyOk n u kvs) (setO H id (.map (mdel n u kvs)) fun H' => K (.tuple []) H')
   | _ => False
  | _ => False
 | .rangeM x => evK ρ x fun v => match v with
  | .nilm => snocK H (.mit none 0 []) 0 fun id H' => K (.it id) H'
  | .mp m => objK H m fun o => match o with
   | .map kvs => ∀ (kvs0 : List (AVal × AVal)) (bs : List Nat) (ck : Nat), kvs0.Perm kvs → bs.length = kvs0.length → bs.Nodup → (∀ b ∈ bs, b < ck) →
     setO H m (.bmap kvs0 bs ck) fun H1 => snocK H1 (.mit (some m) ck []) 0 fun id H' => K (.it id) H'
   | .bmap _ _ ck => snocK H (.mit (some m) ck []) 0 fun id H' => K (.it id) H'
   | _ => False
  | _ => False
 | .nextM x => evK ρ x fun v => match v with
  | .it id => objK H id fun o => match o with
   | .mit none _ _ => K (.tuple [.bool false]) H
   | .mit (some m) ck seen => objK H m fun o => match o with
    | .bmap kvs bs c2 => chkA (Nat.beq c2 ck) ((∀ (i : Nat) (kv : AVal × AVal) (b : Nat), kvs[i]? = some kv → bs[i]? = some b → b ∉ seen →
      chkA kv.1.isLit (setO H id (.mit (some m) ck (seen ++ [b])) fun H' => K (.tuple [.bool true, kv.1, kv.2]) H')) ∧ ((∀ b ∈ bs, b ∈ seen) → K (.tuple [.bool false]) H))
    | _ => False
   | _ => False
  | _ => False
 | .entryM x => evK ρ x fun v => match v with
  | .it id => objK H id fun o => match o with
   | .mit (some m) ck seen => objK H m fun o => match o with
    | .bmap kvs bs c2 => chkA (Nat.beq c2 ck) (∃ (i : Nat) (kv : AVal × AVal) (b : Nat), seen.getLast? = some b ∧ bs[i]? = some b ∧ kvs[i]? = some kv ∧ chkA kv.1.isLit (K (.tuple [kv.1, kv.2]) H))
    | _ => False
   | _ => False
  | _ => False
 | .mapEnt n zero m k => evK ρ m fun v => evK ρ k fun u => match v with
  | .mp id => objK H id fun o => match o with
   | .bmap kvs bs ck => chkA (keyOk n u kvs) (optNK (midx n u kvs)
     (setO H id (.bmap (kvs ++ [(u, zero)]) (bs ++ [ck]) (ck + 1)) fun H' => K (.tuple [zero, .int .i64 ck]) H')
     fun i => idxA kvs i fun kv => idxA bs i fun b => K (.tuple [kv.2, .int .i64 b]) H)
   | _ => False
  | _ => False
 | .entryStoreM m st x => evK ρ m fun v => evK ρ st fun u => evK ρ x fun y => match v, u with
  | .mp id, .int .i64 s => objK H id fun o => match o with
   | .bmap kvs bs ck => ∃ (i : Nat) (kv : AVal × AVal) (b : Nat), bs[i]? = some b ∧ (b : Int) = s ∧ kvs[i]? = some kv ∧ setO H id (.bmap (kvs.set i (kv.1, y)) bs ck) fun H' => K (.tuple []) H'
   | _ => False
  | _, _ => False
 | .mapSet n m k x => evK ρ m fun v => evK ρ k fun u => evK ρ x fun y => match v with
  | .mp id => objK H id fun o => match o with
   | .map kvs => chkA (keyOk n u kvs) (setO H id (.map (mput n u y kvs)) fun H' => K (.tuple []) H')
   | _ => False
  | _ => False
def putK (ρ : List AVal) (dst : Option Nat) (v : AVal) (k : List AVal → Prop) : Prop :=
 match dst with
 | some d => setK ρ d v k
 | none => k ρ
def guardK (ρ : List AVal) (g : Option (Option Nat × Bool)) (k : List AVal → Bool → Prop) : Prop :=
 match g with
 | none => k ρ true
 | some (some d, want) => getK ρ d fun v => match v with
  | .bool b => condA b fun b => setK ρ d (.bool b) fun ρ' => k ρ' (b == want)
  | .tuple [] => k ρ false
  | _ => False
 | some (none, _) => False
def runA (P : Program) (is : List AIns) : List AVal → List AObj → (List AVal → List AObj → Prop) → Prop :=
 @List.rec AIns (fun _ => List AVal → List AObj → (List AVal → List AObj → Prop) → Prop) (fun ρ H K => K ρ H)
  (fun i _ ih ρ H K => guardK ρ i.guard fun ρ t => match t with
   | true => opA P i.op ρ H fun v H' => putK ρ i.dst v fun ρ' => ih ρ' H' K
   | false => putK ρ i.dst (.tuple []) fun ρ' => ih ρ' H K) is
theorem runA_cons (P : Program) (i : AIns) (is : List AIns) (ρ : List AVal) (H : List AObj) (K : List AVal → List AObj → Prop) : runA P (i :: is) ρ H K = guardK ρ i.guard fun ρ t => match t with
  | true => opA P i.op ρ H fun v H' => putK ρ i.dst v fun ρ' => runA P is ρ' H' K
  | false => putK ρ i.dst (.tuple []) fun ρ' => runA P is ρ' H K := rfl
def opQ (P : Program) (o : AOp) (ρ : List AVal) (H : List AObj) (k : AVal → Prop) : Prop :=
 match o with
 | .call f args => evsK ρ args fun vs => ∃ r, ACalls P f vs H (fun r' H' => r' = r ∧ H' = H) ∧ k r
 | .callv x args => evK ρ x fun v => evsK ρ args fun vs => match v with
  | .fn f caps => ∃ r, ACalls P f (vs ++ caps) H (fun r' H' => r' = r ∧ H' = H) ∧ k r
  | .fnb f caps => ∃ r, ACalls P f (caps ++ vs) H (fun r' H' => r' = r ∧ H' = H) ∧ k r
  | _ => False
 | o => opA P o ρ H fun v _ => k v
def opE (P : Program) (o : AOp) (ρ : List AVal) (H : List AObj) (k : AVal → List AObj → Prop) : Prop :=
 match o with
 | .callE f args => evsK ρ args fun vs => ∃ r H1, ACalls P f vs H (fun r' H' => r' = r ∧ H' = H1) ∧ k r H1
 | .callvE x args => evK ρ x fun v => evsK ρ args fun vs => match v with
  | .fn f caps => ∃ r H1, ACalls P f (vs ++ caps) H (fun r' H' => r' = r ∧ H' = H1) ∧ k r H1
  | .fnb f caps => ∃ r H1, ACalls P f (caps ++ vs) H (fun r' H' => r' = r ∧ H' = H1) ∧ k r H1
  | _ => False
 | o => opA P o ρ H k
def checkOne (ps : List Nat) (f : List AObj → Prop) (Hs : List (List AObj)) (k : Prop) : Prop :=
 @List.rec Nat (fun _ => Prop) k (fun p _ ih => idxA Hs p fun H' => f H' ∧ ih) ps
def checkK (cs : List (List Nat × (List AObj → Prop))) (Hs : List (List AObj)) (k : Prop) : Prop :=
 @List.rec (List Nat × (List AObj → Prop)) (fun _ => Prop) k (fun c _ ih => match c with | (ps, f) => checkOne ps f Hs ih) cs
def addC (ps : List Nat) (f : List AObj → Prop) (cs : List (List Nat × (List AObj → Prop))) : List (List Nat × (List AObj → Prop)) :=
 match ps with
 | [] => cs
 | p :: ps => (p :: ps, f) :: cs
def runG (P : Program) (is : List (AIns × List Nat)) : List (List Nat × (List AObj → Prop)) → List (List AObj) → List AVal → List AObj → (List AVal → List AObj → Prop) → Prop :=
 @List.rec (AIns × List Nat) (fun _ => List (List Nat × (List AObj → Prop)) → List (List AObj) → List AVal → List AObj → (List AVal → List AObj → Prop) → Prop)
  (fun cs Hs ρ H K => checkK cs (H :: Hs) (K ρ H))
  (fun p _ ih cs Hs ρ H K => match p with
   | (i, ps) => guardK ρ i.guard fun ρ t => match t with
    | true => match i.op.quiet with
     | true => opQ P i.op ρ H fun v => putK ρ i.dst v fun ρ' => ih (addC ps (fun H' => opQ P i.op ρ H' fun v' => v' = v) cs) (H :: Hs) ρ' H K
     | false => opE P i.op ρ H fun v H' => putK ρ i.dst v fun ρ' => ih cs (H :: Hs) ρ' H' K
    | false => putK ρ i.dst (.tuple []) fun ρ' => ih cs (H :: Hs) ρ' H K) is
theorem runG_cons (P : Program) (i : AIns) (ps : List Nat) (is : List (AIns × List Nat)) (cs : List (List Nat × (List AObj → Prop))) (Hs : List (List AObj)) (ρ : List AVal) (H : List AObj) (K : List AVal → List AObj → Prop) :
  runG P ((i, ps) :: is) cs Hs ρ H K = guardK ρ i.guard fun ρ t => match t with
    | true => match i.op.quiet with
     | true => opQ P i.op ρ H fun v => putK ρ i.dst v fun ρ' => runG P is (addC ps (fun H' => opQ P i.op ρ H' fun v' => v' = v) cs) (H :: Hs) ρ' H K
     | false => opE P i.op ρ H fun v H' => putK ρ i.dst v fun ρ' => runG P is cs (H :: Hs) ρ' H' K
    | false => putK ρ i.dst (.tuple []) fun ρ' => runG P is cs (H :: Hs) ρ' H K := rfl
def AVal.closed : AVal → Bool
 | .agg cs => cs.all AVal.isPure
 | .undef | .tuple _ => false
 | v => v.isPure
def AObj.olen : AObj → Nat
 | .arr _ es => es.length
 | .iter _ _ => 0
 | .map _ => 0
 | .bmap _ _ _ => 0
 | .mit _ _ _ => 0
def pureEs (es : List (List AVal)) : Bool := es.all fun e => e.all AVal.isPure
inductive Pub (H1 : List AObj) (n : Nat) (ids : List Nat) : AVal → AVal → Prop where
 | closed (v : AVal) (h : v.closed = true) : Pub H1 n ids v v
 | frz (id ep off len esz : Nat) (es : List (List AVal)) (ho : H1[id]? = some (.arr esz es)) (hep : ep = es.length) (hp : pureEs es = true) (hid : id ∉ ids) :
   Pub H1 n ids (.sl id ep off len) (.list false esz ((es.drop off).take len))
 | keep (id ep off len k : Nat) (hk : ids[k]? = some id) : Pub H1 n ids (.sl id ep off len) (.sl (n + k) ep off len)
 | tuple (vs rs : List AVal) (hl : vs.length = rs.length) (h : ∀ (i : Nat) (v r : AVal), vs[i]? = some v → rs[i]? = some r → Pub H1 n ids v r) : Pub H1 n ids (.tuple vs) (.tuple rs)
 | dead (v : AVal) : Pub H1 n ids v .undef
 | keepP (id ep idx fld k : Nat) (hk : ids[k]? = some id) : Pub H1 n ids (.ptr id ep idx fld) (.ptr (n + k) ep idx fld)
 | agg (vs rs : List AVal) (hl : vs.length = rs.length) (h : ∀ (i : Nat) (v r : AVal), vs[i]? = some v → rs[i]? = some r → Pub H1 n ids v r) : Pub H1 n ids (.agg vs) (.agg rs)
 | frzP (id ep idx fld esz : Nat) (es : List (List AVal)) (e : List AVal) (ho : H1[id]? = some (.arr esz es)) (hep : ep = es.length) (he : es[idx]? = some e) (hp : pureEs es = true) (hid : id ∉ ids) :
   Pub H1 n ids (.ptr id ep idx fld) (.cptr e fld)
 | frzN (id ep off len esz : Nat) (es es1 : List (List AVal)) (ho : H1[id]? = some (.arr esz es)) (hep : ep = es.length) (hid : id ∉ ids) (hl : es1.length = es.length)
   (hl2 : ∀ (i : Nat) (e e1 : List AVal), es[i]? = some e → es1[i]? = some e1 → e1.length = e.length)
   (hp : ∀ (i j : Nat) (e1 : List AVal) (d1 : AVal), es1[i]? = some e1 → e1[j]? = some d1 → d1.isPure = true)
   (h : ∀ (i j : Nat) (e e1 : List AVal) (d d1 : AVal), es[i]? = some e → es1[i]? = some e1 → e[j]? = some d → e1[j]? = some d1 → Pub H1 n ids d d1) :
   Pub H1 n ids (.sl id ep off len) (.list false esz ((es1.drop off).take len))
 | fnc (f : FuncId) (vs rs : List AVal) (hl : vs.length = rs.length) (h : ∀ (i : Nat) (v r : AVal), vs[i]? = some v → rs[i]? = some r → Pub H1 n ids v r) : Pub H1 n ids (.fn f vs) (.fn f rs)
 | keepC (id ep off len cap k : Nat) (hk : ids[k]? = some id) : Pub H1 n ids (.slc id ep off len cap) (.slc (n + k) ep off len cap)
 | keepM (id k : Nat) (hk : ids[k]? = some id) : Pub H1 n ids (.mp id) (.mp (n + k))
inductive ObP (H : List AObj) (ids : List Nat) : AObj → AObj → Prop where
 | same (esz : Nat) (es : List (List AVal)) (h : pureEs es = true) : ObP H ids (.arr esz es) (.arr esz es)
 | map (esz : Nat) (es es1 : List (List AVal)) (hl : es1.length = es.length) (hl2 : ∀ (i : Nat) (e e1 : List AVal), es[i]? = some e → es1[i]? = some e1 → e1.length = e.length)
   (h : ∀ (i j : Nat) (e e1 : List AVal) (d d1 : AVal), es[i]? = some e → es1[i]? = some e1 → e[j]? = some d → e1[j]? = some d1 → Pub H 0 ids d d1 ∧ d1.isCell = true) :
   ObP H ids (.arr esz es) (.arr esz es1)
 | iter (s : ByteArray) (p : Nat) : ObP H ids (.iter s p) (.iter s p)
 | mp (kvs : List (AVal × AVal)) (h : kvs.all (fun kv => kv.2.isPure) = true) : ObP H ids (.map kvs) (.map kvs)
 | mpc (kvs : List (AVal × AVal)) (h : kvs.all (fun kv => kv.2.closed) = true) : ObP H ids (.map kvs) (.map kvs)
def gpS (H : List AObj) (ids : List Nat) : List AVal → List AVal → Prop
 | [], [] => True
 | v :: vs, r :: rs => Pub H 0 ids v r ∧ gpS H ids vs rs
 | _, _ => False
def gpO (H : List AObj) (ids : List Nat) : List Nat → List AObj → Prop
 | [], [] => True
 | id :: is, o1 :: r => (∃ o, H[id]? = some o ∧ ObP H ids o o1) ∧ gpO H ids is r
 | _, _ => False
def keepB (n0 ids : List Nat) (H : List AObj) : Prop := ∀ (k n : Nat), n0[k]? = some n → ids[k]? = some k ∧ ∃ o, H[k]? = some o ∧ o.olen = n
def Gp (n0 : List Nat) (ρ : List AVal) (H : List AObj) (I : List AVal → List AObj → Prop) : Prop :=
 I ρ H ∨ ∃ ids ρ1 H1, ids.Nodup ∧ keepB n0 ids H ∧ gpO H ids ids H1 ∧ gpS H ids ρ ρ1 ∧ I ρ1 H1
inductive Ghost (n0 : List Nat) (ρ : List AVal) (H : List AObj) (I : List AVal → List AObj → Prop) : Prop where
 | mk (h : Gp n0 ρ H I)
 | rev (id : Nat) (kvs : List (AVal × AVal)) (ho : H[id]? = some (.map kvs)) (h : ∀ (kvs0 : List (AVal × AVal)) (bs : List Nat) (ck : Nat), kvs0.Perm kvs → bs.length = kvs0.length → bs.Nodup → (∀ b ∈ bs, b < ck) → I ρ (H.set id (.bmap kvs0 bs ck)))
def nvK (vs : List (Nat × Nat)) (ρ : List AVal) (H : List AObj) (k : List AVal → List AObj → Prop) : Prop :=
 @List.rec (Nat × Nat) (fun _ => List AVal → List AObj → Prop) (fun ρ H => k ρ H)
  (fun p _ ih ρ H => match p with
   | (s, sz) => getK ρ s fun v => match v with
    | .nil => snocK H (.arr sz []) 0 fun id H' => setK ρ s (.sl id 0 0 0) fun ρ' => ih ρ' H'
    | _ => False) vs ρ H
theorem nvK_cons (s sz : Nat) (vs : List (Nat × Nat)) (ρ : List AVal) (H : List AObj) (k : List AVal → List AObj → Prop) : nvK ((s, sz) :: vs) ρ H k =
  getK ρ s fun v => match v with
   | .nil => snocK H (.arr sz []) 0 fun id H' => setK ρ s (.sl id 0 0 0) fun ρ' => nvK vs ρ' H' k
   | _ => False := rfl
def awp (P : Program) (n0 : List Nat) (c : ACode) : (AExit → List AVal → List AObj → Prop) → List AVal → List AObj → Prop :=
 @ACode.rec (fun _ => (AExit → List AVal → List AObj → Prop) → List AVal → List AObj → Prop)
  (fun Q ρ H => Q .normal ρ H)
  (fun ops Q ρ H => runA P ops ρ H (Q .normal))
  (fun ops Q ρ H => runG P ops [] [] ρ H (Q .normal))
  (fun _ _ iha ihb Q ρ H => iha (fun e ρ' H' => match e with
   | .normal => ihb Q ρ' H'
   | .exit id => Q (.exit id) ρ' H'
   | .ret => Q .ret ρ' H') ρ H)
  (fun c _ _ iha ihb Q ρ H => evK ρ c fun v => match v with
   | .bool t => condA t fun t => match t with
    | true => iha Q ρ H
    | false => ihb Q ρ H
   | _ => False)
  (fun id _ ih Q ρ H => ih (fun e ρ' H' => match e with
   | .normal => Q .normal ρ' H'
   | .exit id' => if id' = id then Q .normal ρ' H' else Q (.exit id') ρ' H'
   | .ret => Q .ret ρ' H') ρ H)
  (fun _ ih Q ρ H => ∃ (I : Nat → List AVal → List AObj → Prop) (n : Nat) (vs : List (Nat × Nat)), nvK vs ρ H (I n) ∧ ∀ n1 ρ1 H1, I n1 ρ1 H1 →
   forceK ρ1 fun ρ1 => ih (fun e ρ' H' => match e with
    | .normal => ∃ m, m < n1 ∧ Gp n0 ρ' H' (I m)
    | .exit id => Q (.exit id) ρ' H'
    | .ret => Q .ret ρ' H') ρ1 H1)
  (fun id Q ρ H => Q (.exit id) ρ H)
  (fun Q ρ H => Q .ret ρ H)
  (fun Q ρ H => Ghost n0 ρ H fun ρ1 H1 => forceK ρ1 fun ρ1 => Q .normal ρ1 H1)
  (fun _ _ _ => False) c
section
variable (P : Program) (n0 : List Nat) (Q : AExit → List AVal → List AObj → Prop) (ρ : List AVal) (H : List AObj)
theorem awp_seq (a b : ACode) : awp P n0 (.seq a b) Q ρ H = awp P n0 a (fun e ρ' H' => match e with
  | .normal => awp P n0 b Q ρ' H'
  | .exit id => Q (.exit id) ρ' H'
  | .ret => Q .ret ρ' H') ρ H := rfl
theorem awp_cond (c : AOpd) (a b : ACode) : awp P n0 (.cond c a b) Q ρ H = evK ρ c fun v => match v with
  | .bool t => condA t fun t => match t with
   | true => awp P n0 a Q ρ H
   | false => awp P n0 b Q ρ H
  | _ => False := rfl
end
def AOpd.slots : AOpd → List Nat
 | .t n => [n]
 | .c _ => []
 | .g _ => []
def optSlots : Option AOpd → List Nat
 | some x => x.slots
 | none => []
def AOp.slots : AOp → List Nat
 | .move x | .un _ x | .conv _ x | .convBS x | .fieldAddr _ x | .field _ _ _ x | .extract x _ | .len x | .capS x | .lenS x | .convSS x | .nop x | .slice00 _ x | .load _ _ x => x.slots
 | .pick c a b => c.slots ++ a.slots ++ b.slots
 | .build _ ps => ps.flatMap fun p => p.2.2.slots
 | .buildSlice _ _ _ ps => ps.flatMap fun p => p.2.slots
 | .bin _ x y | .eqb _ x y | .eqs _ _ x y | .indexAddr _ x y | .indexStr x y | .mn x y | .mx x y | .arrAddr _ _ x y => x.slots ++ y.slots
 | .slice _ x lo hi | .sliceStr x lo hi => x.slots ++ optSlots lo ++ optSlots hi
 | .call _ xs | .makeFunc _ xs | .makeFuncB _ xs => xs.flatMap AOpd.slots
 | .callv x xs | .callvE x xs => x.slots ++ xs.flatMap AOpd.slots
 | .alloc _ | .mkMap => []
 | .lenM x | .isNilM _ x | .isNilP _ x | .isNilF _ x | .rangeM x | .nextM x | .entryM x => x.slots
 | .deleteM _ x y | .mapEnt _ _ x y => x.slots ++ y.slots
 | .entryStoreM x y z => x.slots ++ y.slots ++ z.slots
 | .lookupM _ _ _ x y => x.slots ++ y.slots
 | .mapSet _ x y z | .slice3 _ x y z => x.slots ++ y.slots ++ z.slots
 | .box x | .convSB x | .range x | .next x | .mark x | .isNil _ x => x.slots
 | .buildSliceO _ _ _ ps => ps.flatMap fun p => p.2.slots
 | .store _ x y | .mkSlice _ _ _ x y | .mkSliceC _ _ _ x y | .append _ _ _ x y | .appendI _ _ _ x y => x.slots ++ y.slots
 | .callE _ xs => xs.flatMap AOpd.slots
def AIns.slots (i : AIns) : List Nat :=
 i.op.slots ++ match i.guard with
  | some (some d, _) => [d]
  | _ => []
def ofCell : Value → AVal
 | .bool b => .bool b
 | .int k n => .int k n
 | .string s => .str s
 | .slice none 0 0 => .nil
 | .map none => .nilm
 | .pointer none => .nilp
 | .agg _ | .tuple _ => .undef
 | _ => .junk
def ofConst : Value → AVal
 | .agg cs => .agg (cs.toList.map ofCell)
 | v => ofCell v
def compOpd : Operand → Option AOpd
 | .tmp t => some (.t t)
 | .const v => some (.c (ofConst v))
 | .func f => some (.c (.fn f []))
 | .global g => some (.g g)
def tagOf (P : Program) (t : TypeId) : Option Bool :=
 match P.underlying t with
 | some (.struct _) | some (.array _ _) => some true
 | some _ => some false
 | none => none
def sizeA (P : Program) (t : TypeId) : Option Nat := (P.info? t).map (·.size)
def bytesA (P : Program) (t : TypeId) : Option Nat := (P.info? t).map (·.bytes)
def zeroA (P : Program) (t : TypeId) : Option (List AVal) :=
 match P.info? t with
 | some i => match i.zero with
  | some z => if z.cells.size = i.size then some (z.cells.toList.map ofCell) else none
  | none => none
 | none => none
def elemA? (P : Program) (t : TypeId) : Option TypeId :=
 match P.underlying t with
 | some (.slice e) => some e
 | _ => none
def isByteA (P : Program) (t : TypeId) : Bool :=
 match P.underlying t with
 | some (.int .u8) => true
 | _ => false
def fieldKinds (P : Program) : List Field → Nat → Option (List Nat)
 | [], _ => some []
 | f :: r, i => if f.offset = i ∧ f.name ≠ "_" then
   match P.underlying f.type, fieldKinds P r (i + 1) with
   | some .bool, some l => some (0 :: l)
   | some (.int _), some l => some (1 :: l)
   | some .string, some l => some (2 :: l)
   | _, _ => none
  else none
def places (P : Program) (fs : List Field) : Option (List (Nat × Nat)) :=
 match fs with
 | [] => some []
 | f :: r => match sizeA P f.type, places P r with
  | some n, some l => some ((f.offset, n) :: l)
  | _, _ => none
def optOpd : Option Operand → Option (Option AOpd)
 | none => some none
 | some o => (compOpd o).map some
def compParts (P : Program) (fs : Array Field) : List (Nat × Operand) → Option (List (Nat × Nat × AOpd))
 | [] => some []
 | (i, x) :: r => do
  let f ← fs[i]?
  let s ← sizeA P f.type
  let x ← compOpd x
  let r ← compParts P fs r
  pure ((f.offset, s, x) :: r)
def compRow : List (Nat × Operand) → Option (List (Nat × AOpd))
 | [] => some []
 | (i, x) :: r => do
  let x ← compOpd x
  let r ← compRow r
  pure ((i, x) :: r)
def compOpds : List Operand → Option (List AOpd)
 | [] => some []
 | x :: r => do
  let x ← compOpd x
  let r ← compOpds r
  pure (x :: r)
def compArr (n : Nat) : List (Nat × Operand) → Option (List (Nat × Nat × AOpd))
 | [] => some []
 | (i, x) :: r => do
  let x ← compOpd x
  let r ← compArr n r
  pure ((i * n, n, x) :: r)
def isZeroA (o : Operand) : Bool :=
 match o with
 | .const (.int .i64 0) => true
 | _ => false
def compSlice (P : Program) (t : TypeId) (x : Operand) (lo hi mx : Option Operand) : Option AOp :=
 match mx with
 | none => match P.underlying t with
  | some .string => do pure (.sliceStr (← compOpd x) (← optOpd lo) (← optOpd hi))
  | some (.slice e) => do pure (.slice (← sizeA P e) (← compOpd x) (← optOpd lo) (← optOpd hi))
  | _ => none
 | some m => match lo, hi, P.underlying t with
  | none, some h, some (.slice e) => if isZeroA h && isZeroA m then do pure (.slice00 (← sizeA P e) (← compOpd x)) else do pure (.slice3 (← sizeA P e) (← compOpd x) (← compOpd h) (← compOpd m))
  | _, _, _ => none
def compLen (P : Program) (args : List Operand) (tys : List TypeId) : Option AOp :=
 match args, tys with
 | [x], [t] => match P.underlying t with
  | some .string => do pure (.lenS (← compOpd x))
  | some (.slice _) => do pure (.len (← compOpd x))
  | some (.map _ _) => do pure (.lenM (← compOpd x))
  | _ => none
 | _, _ => none
def keyA (P : Program) (k : TypeId) : Option Nat :=
 match P.underlying k with
 | some .bool => some 0
 | some (.int _) => some 1
 | some .string => some 2
 | _ => none
def compDel (P : Program) (args : List Operand) (tys : List TypeId) : Option AOp :=
 match args, tys with
 | [x, y], t :: _ => match P.underlying t with
  | some (.map k _) => do pure (.deleteM (← keyA P k) (← compOpd x) (← compOpd y))
  | _ => none
 | _, _ => none
def compCap (P : Program) (args : List Operand) (tys : List TypeId) : Option AOp :=
 match args, tys with
 | [x], [t] => match P.underlying t with
  | some (.slice _) => do pure (.capS (← compOpd x))
  | _ => none
 | _, _ => none
def srcType (P : Program) (u : TypeId) : Bool :=
 match P.underlying u with
 | some (.slice _) | some .string => true
 | _ => false
def compAppend (P : Program) (oj : Bool) (args : List Operand) (tys : List TypeId) : Option AOp :=
 match args, tys with
 | [x, y], [t, u] => if srcType P u then do
   let e ← elemA? P t
   let n ← sizeA P e
   let b ← bytesA P e
   let z ← zeroA P e
   let x' ← compOpd x
   let y' ← compOpd y
   if oj then pure (.appendI n b z x' y') else pure (.append n b z x' y')
  else none
 | _, _ => none
def compMn (args : List Operand) (tys : List TypeId) : Option AOp :=
 match args, tys with
 | [x, y], [_, _] => do pure (.mn (← compOpd x) (← compOpd y))
 | _, _ => none
def compMx (args : List Operand) (tys : List TypeId) : Option AOp :=
 match args, tys with
 | [x, y], [_, _] => do pure (.mx (← compOpd x) (← compOpd y))
 | _, _ => none
def compCall (P : Program) (oj : Bool) (c : Call) : Option AOp :=
 match c.callee with
 | .value (.func f) => do
  let l ← compOpds c.args.toList
  if oj then pure (.callE f l) else pure (.call f l)
 | .value (.tmp t) => do
  let l ← compOpds c.args.toList
  if oj then pure (.callvE (.t t) l) else pure (.callv (.t t) l)
 | .builtin .len => compLen P c.args.toList c.argTypes.toList
 | .builtin .append => compAppend P oj c.args.toList c.argTypes.toList
 | .builtin .min => compMn c.args.toList c.argTypes.toList
 | .builtin .max => compMx c.args.toList c.argTypes.toList
 | .builtin .cap => compCap P c.args.toList c.argTypes.toList
 | .builtin .delete => compDel P c.args.toList c.argTypes.toList
 | _ => none
def isNilA (o : Operand) : Bool :=
 match o with
 | .const (.slice none 0 0) => true
 | _ => false
def isNilMA (o : Operand) : Bool :=
 match o with
 | .const (.map none) => true
 | _ => false
def isNilPA (o : Operand) : Bool :=
 match o with
 | .const (.pointer none) => true
 | _ => false
def isNilFA (o : Operand) : Bool :=
 match o with
 | .const .nilFunc => true
 | _ => false
def zeroV (P : Program) (e : TypeId) : Option AVal :=
 match P.info? e with
 | some i => i.zero.map ofConst
 | none => none
def compOp (P : Program) (oj : Bool) (o : Op) : Option AOp :=
 match o with
 | .move x | .assign x => do pure (.move (← compOpd x))
 | .pick c a b => do pure (.pick (← compOpd c) (← compOpd a) (← compOpd b))
 | .alloc e => do pure (.alloc (← zeroA P e))
 | .box _ x => do pure (.box (← compOpd x))
 | .build t parts => match P.underlying t with
  | some (.struct fs) => if (places P fs.toList).isSome then do pure (.build (← zeroA P t) (← compParts P fs parts.toList)) else none
  | some (.array _ e) => do pure (.build (← zeroA P t) (← compArr (← sizeA P e) parts.toList))
  | _ => none
 | .buildSlice t len parts => do
  let e ← elemA? P t
  if oj then pure (.buildSliceO (← sizeA P e) len (← zeroA P e) (← compRow parts.toList)) else pure (.buildSlice (← sizeA P e) len (← zeroA P e) (← compRow parts.toList))
 | .load t a => do pure (.load (← tagOf P t) (← sizeA P t) (← compOpd a))
 | .store t a x => do pure (.store (← sizeA P t) (← compOpd a) (← compOpd x))
 | .nilCheck x => do pure (.nop (← compOpd x))
 | .binOp op t x y _ => do
  let x' ← compOpd x
  let y' ← compOpd y
  match op with
  | .eql | .neq => match P.underlying t with
   | some (.slice _) => if isNilA y then pure (.isNil (decide (op = .neq)) x') else none
   | some (.map _ _) => if isNilMA y then pure (.isNilM (decide (op = .neq)) x') else none
   | some (.pointer _) => if isNilPA y then pure (.isNilP (decide (op = .neq)) x') else none
   | some (.func _ _ _) => if isNilFA y then pure (.isNilF (decide (op = .neq)) x') else none
   | some .bool => pure (.eqb (decide (op = .neq)) x' y')
   | some (.int _) | some .string => pure (.bin op x' y')
   | some (.struct fs) => if P.stoodInHeld t || P.eqGuardType P.depth t then none else do pure (.eqs (decide (op = .neq)) (← fieldKinds P fs.toList 0) x' y')
   | _ => none
  | _ => pure (.bin op x' y')
 | .unOp op _ x => do pure (.un op (← compOpd x))
 | .convert s d x => do
  let x ← compOpd x
  match P.underlying s, P.underlying d with
  | some (.int _), some (.int k) => pure (.conv k x)
  | some .string, some .string => pure (.convSS x)
  | some (.slice e), some .string => if isByteA P e then pure (.convBS x) else none
  | some .string, some (.slice e) => if isByteA P e then pure (.convSB x) else none
  | some (.slice _), some (.slice e) => if s = d && isByteA P e then pure (.mark x) else none
  | _, _ => none
 | .makeFunc (.func f) first caps => if first.isEmpty then do pure (.makeFunc f (← compOpds caps.toList)) else if caps.isEmpty then do pure (.makeFuncB f (← compOpds first.toList)) else none
 | .makeSlice t l c => do
  let e ← elemA? P t
  if oj then pure (.mkSliceC (← sizeA P e) (← bytesA P e) (← zeroA P e) (← compOpd l) (← compOpd c)) else pure (.mkSlice (← sizeA P e) (← bytesA P e) (← zeroA P e) (← compOpd l) (← compOpd c))
 | .slice t x lo hi mx => compSlice P t x lo hi mx
 | .fieldAddr s x f => match P.underlying s with
  | some (.struct fs) => do
   let f ← fs[f]?
   if (← sizeA P f.type) = 0 then none else pure (.fieldAddr f.offset (← compOpd x))
  | _ => none
 | .field s x f => match P.underlying s with
  | some (.struct fs) => do
   let f ← fs[f]?
   pure (.field (← tagOf P f.type) f.offset (← sizeA P f.type) (← compOpd x))
  | _ => none
 | .indexAddr t x i => match P.underlying t with
  | some (.array n e) => do pure (.arrAddr (← sizeA P e) n (← compOpd x) (← compOpd i))
  | _ => do
   let e ← elemA? P t
   pure (.indexAddr (← sizeA P e) (← compOpd x) (← compOpd i))
 | .index t x i => match P.underlying t with
  | some .string => do pure (.indexStr (← compOpd x) (← compOpd i))
  | _ => none
 | .extract x i => do pure (.extract (← compOpd x) i)
 | .range t x => match P.underlying t with
  | some .string => do pure (.range (← compOpd x))
  | some (.map _ _) => do pure (.rangeM (← compOpd x))
  | _ => none
 | .next x true => do pure (.next (← compOpd x))
 | .next x false => do pure (.nextM (← compOpd x))
 | .entry x => do pure (.entryM (← compOpd x))
 | .mapEntry t x i => match P.underlying t with
  | some (.map k e) => do pure (.mapEnt (← keyA P k) (← zeroV P e) (← compOpd x) (← compOpd i))
  | _ => none
 | .entryStore _ x s v => do pure (.entryStoreM (← compOpd x) (← compOpd s) (← compOpd v))
 | .call c => compCall P oj c
 | .makeMap _ none => some .mkMap
 | .lookup t x i ok => match P.underlying t with
  | some (.map k e) => do pure (.lookupM (← keyA P k) (← zeroV P e) ok (← compOpd x) (← compOpd i))
  | _ => none
 | .mapUpdate t x i v | .insert t x i v => match P.underlying t with
  | some (.map k _) => do pure (.mapSet (← keyA P k) (← compOpd x) (← compOpd i) (← compOpd v))
  | _ => none
 | _ => none
def inSlots (ob : List Nat) (d : Option Nat) : Bool :=
 match d with
 | some n => ob.elem n
 | none => false
def compIns (P : Program) (ob : List Nat) (all : Array Oper) (o : Oper) : Option AIns := do
 pure { dst := o.dst, op := (← compOp P (inSlots ob o.dst) o.op), guard := o.guard.map fun (j, want) => ((all[j]?).bind (·.dst), want) }
def compList (P : Program) (ob : List Nat) (all : Array Oper) : List Oper → Option (List AIns)
 | [] => some []
 | o :: r => do
  let i ← compIns P ob all o
  let r ← compList P ob all r
  pure (i :: r)
def predsL (ops : Array Oper) : List (List Nat) := ops.toList.map fun o => (o.after.toList.filter fun e => Region.binds .any e).map (·.on)
def ancAux : List (List Nat) → List Nat → List Nat
 | [], acc => acc
 | ps :: r, acc => ancAux r (acc ++ [ps.foldl (fun m p => m ||| (2 ^ p ||| acc.getD p 0)) 0])
def maskS (l : List Nat) : Nat := l.foldl (fun m s => m ||| 2 ^ s) 0
structure DInfo where
 r : Nat
 w : Nat
 e : Bool
def dinfo (i : AIns) : DInfo := ⟨maskS i.slots, maskS i.dst.toList, !i.op.quiet⟩
def pairOk (a b : DInfo) (anc i : Nat) : Bool := (Nat.beq ((a.w &&& (b.r ||| b.w)) ||| (a.r &&& b.w)) 0 && !(a.e && b.e)) || Nat.testBit anc i
def softE (q k : Nat) (b : DInfo) : DInfo := match Nat.beq k q with
 | true => ⟨b.r, b.w, false⟩
 | false => b
def drawGo (q : Nat) : List DInfo → List Nat → Nat → List (Nat × DInfo) → Bool
 | b :: bs, a :: asv, k, prev => prev.all (fun p => pairOk p.2 (softE q k b) a p.1) && drawGo q bs asv (k + 1) ((k, b) :: prev)
 | [], [], _, _ => true
 | _, _, _, _ => false
def predsOk : List (List Nat) → Nat → Bool
 | [], _ => true
 | ps :: r, k => ps.all (fun p => decide (p < k)) && predsOk r (k + 1)
def effsOf : List AIns → Nat → List Nat
 | [], _ => []
 | i :: is, k => match i.op.quiet with
  | true => effsOf is (k + 1)
  | false => k :: effsOf is (k + 1)
def ownOf (effs : List Nat) (q : Nat) : Nat := (effs.filter fun e => decide (e < q)).foldl (fun m e => max m (e + 1)) 0
def allowedAt (effs anc : List Nat) (q p : Nat) : Bool := effs.all fun e => if e < p then !Nat.testBit (anc.getD e 0) q else !Nat.testBit (anc.getD q 0) e
def notesOf (effs anc : List Nat) (n q : Nat) : List Nat :=
 ((0 :: effs.map (· + 1)).filter fun p => allowedAt effs anc q p && !Nat.beq p (ownOf effs q)).map (n - ·)
def annot (effs anc : List Nat) (n : Nat) : List AIns → Nat → List (AIns × List Nat)
 | [], _ => []
 | i :: is, k => (i, match i.op.quiet && !i.op.free with | true => notesOf effs anc n k | false => []) :: annot effs anc n is (k + 1)
def lateB (ops : Array Oper) (preds : List (List Nat)) (anc effs : List Nat) (is : List AIns) (q : Nat) : Bool :=
 (match is[q]? with
  | some ⟨some _, .alloc _, none⟩ => true
  | _ => false) &&
 (match ops[q]? with
  | some o => match o.op with
   | .alloc _ => true
   | _ => false
  | none => false) &&
 (List.range is.length).all fun k => (!((preds.getD k []).elem q || Nat.testBit (anc.getD k 0) q)) || effs.all fun e => !Nat.blt e q || Nat.testBit (anc.getD k 0) e
def drawB (P : Program) (ops : Array Oper) (is : List AIns) : Bool :=
 P.follows .mixedOrders && is.all (fun i => i.op.quiet || i.op.effect) && predsOk (predsL ops) 0 &&
  (drawGo is.length (is.map dinfo) (ancAux (predsL ops) []) 0 [] || (List.range is.length).any fun q => lateB ops (predsL ops) (ancAux (predsL ops) []) (effsOf is 0) is q && drawGo q (is.map dinfo) (ancAux (predsL ops) []) 0 [])
def drawL (ops : Array Oper) (is : List AIns) : List (AIns × List Nat) := annot (effsOf is 0) (ancAux (predsL ops) []) is.length is 0
def ghostB (ob : List Nat) (l : List AIns) : Bool := l.any fun i => match i.dst with
 | some d => ob.elem (d + 100000)
 | none => false
def region0 (P : Program) (ops : Array Oper) (draw : Bool) (l : List AIns) : Option ACode :=
 if draw then (if drawB P ops l then some (.draw (drawL ops l)) else none) else some (.region l)
def aheadB (ob : List Nat) (l : List AIns) : Bool := l.any fun i => match i.dst with
 | some d => ob.elem (d + 300000)
 | none => false
def regionA (P : Program) (ob : List Nat) (ops : Array Oper) (draw : Bool) (l : List AIns) : Option ACode :=
 match region0 P ops draw l with
 | some c => if ghostB ob l then some (.seq c .ghost) else if aheadB ob l then some (.seq .ghost c) else some c
 | none => none
def regionS (P : Program) (ob : List Nat) (ops : Array Oper) (draw : Bool) : Option ACode :=
 match compList P ob ops ops.toList with
 | some l => match regionA P ob ops draw l with
  | some c => some c
  | none => some .stuck
 | none => some .stuck
def blockG (ob : List Nat) (id : Nat) (c : ACode) : ACode := if ob.elem (id + 200000) then .seq (.block id c) .ghost else .block id c
def comp (P : Program) (ob : List Nat) : Code → Option ACode
 | .skip => some .skip
 | .region _ ops draw => regionS P ob ops draw
 | .seq a b => do pure (.seq (← comp P ob a) (← comp P ob b))
 | .cond c a b => do pure (.cond (← compOpd c) (← comp P ob a) (← comp P ob b))
 | .block id b => do pure (blockG ob id (← comp P ob b))
 | .loop b => do pure (.loop (← comp P ob b))
 | .exit id => some (.exit id)
 | .ret => some .ret
 | .scope b => comp P ob b
 | .label _ => some .skip
 | _ => some .stuck
structure Env where
 w0 : World
 Pr : Nat → Prop
 C0 : Nat → Nat
 τ0 : Nat → Option Loc
 H0 : List AObj
 hpr : ∀ b, b < w0.heap.size → ¬ Pr b → Owned τ0 H0 b
structure SA (E : Env) (C : Nat → Nat) (τ : Nat → Option Loc) (ρ : List AVal) (H : List AObj) (a : Act) (w : World) : Prop where
 st : St E.w0 E.Pr C τ H w
 step : Step E.C0 E.τ0 E.H0 E.w0 C τ H w
 tmps : ∀ t, Rel C w τ H (getT ρ t) (a.tmps.getD t undef)
 size : ρ.length = a.tmps.size
 defers : a.defers = []
def OpRes (P : Program) (r : Result Next) (S : Value → World → Prop) : Prop :=
 match r with
 | .ok (.value u) w' => S u w'
 | .ok .skip w' => S undef w'
 | .ok (.enter f args) w' => Calls P f args w' fun e w'' => ∃ v, e = .returned v ∧ S v w''
 | _ => False
def Out (E : Env) (ρ : List AVal) (a : Act) (K : AVal → List AObj → Prop) (u : Value) (w' : World) : Prop :=
 ∃ v C' τ' H', K v H' ∧ Rel C' w' τ' H' v u ∧ SA E C' τ' ρ H' a w'
section
variable {E : Env} {P : Program} {C C' : Nat → Nat} {τ τ' : Nat → Option Loc} {ρ : List AVal} {H H' : List AObj} {a : Act} {w w' : World} {K : AVal → List AObj → Prop}
theorem SA.go (h : SA E C τ ρ H a w) (st : St E.w0 E.Pr C' τ' H' w') (s : Step C τ H w C' τ' H' w') : SA E C' τ' ρ H' a w' :=
 ⟨st, h.step.trans s, fun t => (h.tmps t).mono s, h.size, h.defers⟩
theorem getT_setT : ∀ (l : List AVal) (n : Nat) (v : AVal) (t : Nat), getT (setT l n v) t = if t = n ∧ n < l.length then v else getT l t
 | [], n, v, t => by simp [setT, getT]
 | x :: xs, 0, v, t => by cases t <;> simp [setT, getT]
 | x :: xs, n + 1, v, t => by
  cases t with
  | zero => simp [setT, getT]
  | succ t => simp [setT, getT, getT_setT xs n v t]
theorem length_setT : ∀ (l : List AVal) (n : Nat) (v : AVal), (setT l n v).length = l.length
 | [], _, _ => rfl
 | _ :: _, 0, _ => rfl
 | x :: xs, n + 1, v => by simp [setT, length_setT xs n v]
theorem SA.put (h : SA E C τ ρ H a w) {v : AVal} {u : Value} (hr : Rel C w τ H v u) (d : Nat) : SA E C τ (setT ρ d v) H (a.put (some d) u) w := by
 refine ⟨h.st, h.step, fun t => ?_, by rw [length_setT, h.size]; simp [Act.put], h.defers⟩
 rw [getT_setT, h.size]
 simp only [Act.put, Array.getD_eq_getD_getElem?, Array.getElem?_setIfInBounds]
 by_cases e : t = d
 ·subst e
  by_cases e2 : t < a.tmps.size
  ·simp [e2, hr]
  ·have := h.tmps t
   simp only [Array.getD_eq_getD_getElem?] at this
   simp [e2] at this ⊢
   exact this
 ·have := h.tmps t
  simp only [Array.getD_eq_getD_getElem?] at this
  simp [e, Ne.symm e]
  exact this
theorem rd_ofCell (v : Value) : Rel C w τ H (ofCell v) v := by
 unfold ofCell
 split <;> first
  | exact .rd (.bool _) | exact .rd (.int _ _) | exact .rd (.str _) | exact .rd .nil | exact .rd .nilm | exact .rd .nilp | exact .undef _ | skip
 rename_i h1 h2 h3 h4 h7 h8 h5 h6
 refine .rd (.junk _ ?_)
 cases v <;> first | rfl | (exact absurd rfl (h5 _)) | (exact absurd rfl (h6 _))
theorem rel_agg_ofCell (cs : Array Value) : Rel C w τ H (.agg (cs.toList.map ofCell)) (.agg cs) := by
 refine .agg _ _ (by simp) fun i c v hc hv => ?_
 rw [List.getElem?_map, Array.getElem?_toList, hv] at hc
 cases hc
 exact rd_ofCell v
theorem rel_ofConst (v : Value) : Rel C w τ H (ofConst v) v := by
 unfold ofConst
 split
 ·exact rel_agg_ofCell _
 ·exact rd_ofCell v
theorem SA.ev (h : SA E C τ ρ H a w) {x : Operand} {y : AOpd} (hc : compOpd x = some y) : Rel C w τ H (ev ρ y) (a.eval x) := by
 cases x <;> simp only [compOpd, Option.some.injEq] at hc <;> try (cases hc)
 ·exact h.tmps _
 ·exact rel_ofConst _
 ·rename_i g
  show Rel C w τ H (glV g) _
  unfold glV
  split
  ·rename_i cs hg
   exact .rd (h.st.wf.gls g cs hg)
  ·exact .undef _
 ·exact .rd (.fn _)
theorem Rel.int_inv {k : IntKind} {n : Int} {u : Value} (h : Rel C w τ H (.int k n) u) : u = .int k n := by
 cases h with | rd h => cases h; rfl
theorem Rel.bool_inv {b : Bool} {u : Value} (h : Rel C w τ H (.bool b) u) : u = .bool b := by
 cases h with | rd h => cases h; rfl
theorem Rel.str_inv {s : ByteArray} {u : Value} (h : Rel C w τ H (.str s) u) : u = .string s := by
 cases h with | rd h => cases h; rfl
theorem Rel.nil_inv {u : Value} (h : Rel C w τ H .nil u) : u = .slice none 0 0 := by
 cases h with | rd h => cases h; rfl
theorem Rel.agg_inv {cs : List AVal} {u : Value} (h : Rel C w τ H (.agg cs) u) : ∃ vs, u = .agg vs ∧ cs.length = vs.size ∧ ∀ (i : Nat) (c : AVal) (v : Value), cs[i]? = some c → vs[i]? = some v → Rel C w τ H c v := by
 cases h with
 | rd h => cases h
 | agg _ vs hl h => exact ⟨vs, rfl, hl, h⟩
theorem Rel.tuple_inv {cs : List AVal} {u : Value} (h : Rel C w τ H (.tuple cs) u) : ∃ vs, u = .tuple vs ∧ cs.length = vs.size ∧ ∀ (i : Nat) (c : AVal) (v : Value), cs[i]? = some c → vs[i]? = some v → Rel C w τ H c v := by
 cases h with
 | rd h => cases h
 | tuple _ vs hl h => exact ⟨vs, rfl, hl, h⟩
theorem Rel.cells {x : AVal} {u : Value} {cs : List AVal} (h : Rel C w τ H x u) (hc : toCells x = some cs) :
  cs.length = u.cells.size ∧ ∀ (i : Nat) (c : AVal) (v : Value), cs[i]? = some c → u.cells[i]? = some v → Rel C w τ H c v := by
 have one : ∀ (y : AVal), y.isCell = true → y = x → u.cells = #[u] ∧ [y].length = u.cells.size ∧ ∀ (i : Nat) (c : AVal) (v : Value), [y][i]? = some c → u.cells[i]? = some v → Rel C w τ H c v := by
  rintro y hy rfl
  have hu : u.cells = #[u] := by
   have := h.plain hy
   cases u <;> first | rfl | (simp [Value.oneCell'] at this)
  refine ⟨hu, by rw [hu]; rfl, fun i c v h1 h2 => ?_⟩
  rw [hu] at h2
  cases i with
  | zero => simp at h1 h2; subst h1 h2; exact h
  | succ i => simp at h1
 cases x <;> simp only [toCells, Option.some.injEq] at hc <;> try (cases hc)
 case agg.refl =>
  obtain ⟨vs, rfl, hl, hr⟩ := h.agg_inv
  exact ⟨hl, hr⟩
 all_goals exact (one _ rfl rfl).2
theorem rel_cellsPlain {cs : List AVal} {vs : Array Value} (hl : cs.length = vs.size) (hr : ∀ (i : Nat) (c : AVal) (v : Value), cs[i]? = some c → vs[i]? = some v → Rel C w τ H c v)
  (hp : cs.all AVal.isCell = true) : ∀ v ∈ vs.toList, v.oneCell' = true := by
 intro v hv
 obtain ⟨i, hi, rfl⟩ := List.getElem_of_mem hv
 simp at hi
 have hc : cs[i]? = some cs[i] := List.getElem?_eq_getElem (by omega)
 have := hr i _ _ hc (by rw [Array.getElem?_eq_getElem hi])
 refine this.plain ?_
 exact List.all_eq_true.1 hp _ (List.getElem_mem _)
theorem run_info {t : TypeId} {i : TypeInfo} (h : P.info? t = some i) : (typeInfo t).run P w = .ok i w := by simp [typeInfo, h]
theorem run_size {t : TypeId} {n : Nat} (h : sizeA P t = some n) : (sizeOf t).run P w = .ok n w := by
 unfold sizeA at h
 cases hi : P.info? t with
 | none => rw [hi] at h; cases h
 | some i => rw [hi] at h; simp at h; simp [sizeOf, run_info hi, h]
theorem run_und {t : TypeId} {d : TypeDesc} (h : P.underlying t = some d) : (underlying t).run P w = .ok d w := run_underlying h w
theorem run_isAgg {t : TypeId} {b : Bool} (h : tagOf P t = some b) : (isAgg t).run P w = .ok b w := by
 unfold tagOf at h
 cases hu : P.underlying t with
 | none => rw [hu] at h; cases h
 | some d =>
  rw [hu] at h
  cases d <;> simp at h <;> subst h <;> simp [isAgg, run_und hu]
theorem zero_parts {t : TypeId} {cs : List AVal} (h : zeroA P t = some cs) : ∃ i z, P.info? t = some i ∧ i.zero = some z ∧ z.cells.size = i.size ∧ cs = z.cells.toList.map ofCell := by
 unfold zeroA at h
 cases hi : P.info? t with
 | none => rw [hi] at h; cases h
 | some i =>
  rw [hi] at h
  simp only [] at h
  cases hz : i.zero with
  | none => rw [hz] at h; cases h
  | some z =>
   rw [hz] at h
   simp only [] at h
   split at h
   ·rename_i hs; cases h; exact ⟨i, z, rfl, hz, hs, rfl⟩
   ·cases h
theorem addr_add (b o n : Nat) : (⟨b, o, none⟩ : Addr).add n = ⟨b, o + n, none⟩ := by
 unfold Addr.add; split <;> simp_all
theorem run_storeCells_blk (b o : Nat) (t : TypeId) (fz : Nat × Nat) : ∀ (vs : List Value) (i : Nat) (cur : Array Value) (w : World), w.heap[b]? = some (.cells cur t fz) → o + i + vs.length ≤ cur.size →
  (fz.1 = fz.2 ∨ cur.size ≤ fz.1) → (∀ v ∈ vs, v.oneCell' = true) →
  ∃ w' cur', (storeCells ⟨b, o, none⟩ vs i).run P w = .ok () w' ∧ w'.os = w.os ∧ w'.tape = w.tape ∧ w'.output = w.output ∧ w'.drawn = w.drawn ∧ w'.heap.size = w.heap.size ∧
   (∀ b', b' ≠ b → w'.heap[b']? = w.heap[b']?) ∧ w'.heap[b]? = some (.cells cur' t fz) ∧ cur'.size = cur.size ∧
   (∀ k, cur'[k]? = if o + i ≤ k ∧ k < o + i + vs.length then vs[k - (o + i)]? else cur[k]?)
 | [], i, cur, w, hg, _, _, _ => ⟨w, cur, rfl, rfl, rfl, rfl, rfl, rfl, fun _ _ => rfl, hg, rfl, fun k => by
   rw [if_neg (by simp only [List.length_nil]; omega)]⟩
 | v :: rest, i, cur, w, hg, hl, hf, h1 => by
  simp only [List.length_cons] at hl
  have hi : o + i < cur.size := by omega
  have hcell : w.cell? ⟨b, o + i, none⟩ = some cur[o + i] := by simp [World.cell?, hg, hi]
  have hfro : w.frozen? ⟨b, o + i, none⟩ = false := by
   simp only [World.frozen?, hg]
   simp only [Bool.and_eq_false_iff, decide_eq_false_iff_not]
   omega
  have hb : b < w.heap.size := lt_of_heap hg
  have hheap : (w.setCell ⟨b, o + i, none⟩ v).heap[b]? = some (.cells (cur.setIfInBounds (o + i) v) t fz) := by
   simp only [World.setCell, Array.getElem?_modify, if_true, hg]
   simp
  have hst : (store ((⟨b, o, none⟩ : Addr).add i) v).run P w = .ok () (w.setCell ⟨b, o + i, none⟩ v) := by
   rw [addr_add, run_store P w _ v _ (h1 v (by simp)), hcell]
   simp [hfro]
  obtain ⟨w', cur', e1, e2, e3, e4, ed, e5, e6, e7, e8, e9⟩ := run_storeCells_blk b o t fz rest (i + 1) (cur.setIfInBounds (o + i) v) (w.setCell ⟨b, o + i, none⟩ v) hheap (by simp; omega) (by simpa using hf) (fun x hx => h1 x (by simp [hx]))
  refine ⟨w', cur', ?_, e2, e3, e4, ed, by rw [e5]; simp [World.setCell], fun b' hb' => ?_, e7, by rw [e8]; simp, fun k => ?_⟩
  ·simp only [storeCells, Sem.run_bind, hst, Result.andThen_ok, e1]
  ·rw [e6 b' hb']
   simp only [World.setCell, Array.getElem?_modify]
   rw [if_neg (fun e => hb' e.symm)]
  ·rw [e9 k]
   by_cases hk : k = o + i
   ·subst hk
    have a1 : ¬ (o + (i + 1) ≤ o + i ∧ o + i < o + (i + 1) + rest.length) := by omega
    have a2 : o + i ≤ o + i ∧ o + i < o + i + (v :: rest).length := by simp
    rw [if_neg a1, if_pos a2]
    simp [hi]
   ·by_cases hk2 : o + i ≤ k ∧ k < o + i + (v :: rest).length
    ·have a1 : o + (i + 1) ≤ k ∧ k < o + (i + 1) + rest.length := by simp at hk2; omega
     rw [if_pos a1, if_pos hk2]
     obtain ⟨m, hm⟩ : ∃ m, k - (o + i) = m + 1 := ⟨k - (o + i) - 1, by omega⟩
     rw [hm, show k - (o + (i + 1)) = m from by omega]
     simp
    ·have a1 : ¬ (o + (i + 1) ≤ k ∧ k < o + (i + 1) + rest.length) := by simp at hk2; omega
     rw [if_neg a1, if_neg hk2, Array.getElem?_setIfInBounds_ne (fun e => hk e.symm)]
end
section
variable {E : Env} {P : Program} {C : Nat → Nat} {τ : Nat → Option Loc} {ρ : List AVal} {H : List AObj} {a : Act} {w : World} {K : AVal → List AObj → Prop}
theorem out_same (hs : SA E C τ ρ H a w) {v : AVal} {u : Value} (hk : K v H) (hr : Rel C w τ H v u) : Out E ρ a K u w := ⟨v, C, τ, H, hk, hr, hs⟩
theorem out_step {C' : Nat → Nat} {τ' : Nat → Option Loc} {H' : List AObj} {w' : World} (hs : SA E C τ ρ H a w) {v : AVal} {u : Value} (hk : K v H') (hr : Rel C' w' τ' H' v u)
  (st : St E.w0 E.Pr C' τ' H' w') (s : Step C τ H w C' τ' H' w') : Out E ρ a K u w' := ⟨v, C', τ', H', hk, hr, hs.go st s⟩
theorem snd_move {o : Oper} {x : Operand} {x' : AOpd} (ho : o.op = .move x ∨ o.op = .assign x) (hx : compOpd x = some x') (hs : SA E C τ ρ H a w)
  (h : opA P (.move x') ρ H K) : OpRes P ((execOp a.eval o).run P w) (Out E ρ a K) := by
 simp only [opA, evK_eq] at h
 have hr := hs.ev hx
 rcases ho with ho | ho <;> simp only [execOp, ho, Sem.run_pure, OpRes] <;> exact out_same hs h hr
theorem snd_pick {o : Oper} {c x y : Operand} {c' x' y' : AOpd} (ho : o.op = .pick c x y) (hc : compOpd c = some c') (hx : compOpd x = some x') (hy : compOpd y = some y') (hs : SA E C τ ρ H a w)
  (h : opA P (.pick c' x' y') ρ H K) : OpRes P ((execOp a.eval o).run P w) (Out E ρ a K) := by
 simp only [opA, evK_eq] at h
 have hrc := hs.ev hc
 have hrx := hs.ev hx
 have hry := hs.ev hy
 cases hv : ev ρ c' <;> rw [hv] at h hrc <;> simp only [] at h
 rename_i b
 have e := hrc.bool_inv
 rw [condA_eq] at h
 simp only [execOp, ho, e, asBool]
 cases b <;> simp only [] at h
 ·exact out_same hs h hry
 ·exact out_same hs h hrx
theorem run_eqGuard {op : BinOp} {t : TypeId} {x y : Operand} {v u : Value} (h1 : v.oneCell' = true) (h2 : v ≠ .nilIface) : (eqGuard op t x y v u).run P w = .ok () w := by
 cases op <;> cases v <;> first | (exact absurd rfl h2) | (simp [Value.oneCell'] at h1; done) | (simp [eqGuard]; done) | (cases u <;> simp [eqGuard])
theorem run_binBool {op : BinOp} {t : TypeId} {b c : Bool} (hd : P.underlying t = some .bool) (hop : op = .eql ∨ op = .neq) :
  (binOp op t (.bool b) (.bool c)).run P w = .ok (.bool (if decide (op = .neq) then !(b == c) else b == c)) w := by
 have : (Op.equal t (.bool b) (.bool c)).run P w = .ok (b == c) w := by
  show (Op.equalIn (9999 + 1) t (.bool b) (.bool c)).run P w = _
  rw [Op.equalIn]
  simp only [Sem.run_bind, run_und hd, Result.andThen_ok, Sem.run_pure]
 rcases hop with rfl | rfl <;> simp [binOp, this]
theorem snd_eqb {o : Oper} {op : BinOp} {t u : TypeId} {x y : Operand} {x' y' : AOpd} (ho : o.op = .binOp op t x y u) (hx : compOpd x = some x') (hy : compOpd y = some y')
  (hd : P.underlying t = some .bool) (hop : op = .eql ∨ op = .neq) (hs : SA E C τ ρ H a w)
  (h : opA P (.eqb (decide (op = .neq)) x' y') ρ H K) : OpRes P ((execOp a.eval o).run P w) (Out E ρ a K) := by
 simp only [opA, evK_eq] at h
 have hrx := hs.ev hx
 have hry := hs.ev hy
 split at h
 case h_2 => exact h.elim
 rename_i b c e1 e2
 rw [e1] at hrx
 rw [e2] at hry
 simp only [execOp, ho, hrx.bool_inv, hry.bool_inv, Sem.run_bind, run_eqGuard (v := .bool _) rfl (by simp), Result.andThen_ok, run_binBool hd hop, Sem.run_pure, OpRes]
 rcases hop with rfl | rfl <;> exact out_same hs h (.rd (.bool _))
theorem snd_bin {o : Oper} {op : BinOp} {t u : TypeId} {x y : Operand} {x' y' : AOpd} (ho : o.op = .binOp op t x y u) (hx : compOpd x = some x') (hy : compOpd y = some y')
  (hs : SA E C τ ρ H a w) (h : opA P (.bin op x' y') ρ H K) : OpRes P ((execOp a.eval o).run P w) (Out E ρ a K) := by
 simp only [opA, evK_eq] at h
 have hrx := hs.ev hx
 have hry := hs.ev hy
 unfold binV at h
 split at h
 case h_3 => exact h.elim
 case h_1 ka na kb nb hv hu =>
  rw [hv] at hrx
  rw [hu] at hry
  have fin : ∀ r : AVal, ∀ v : Value, K r H → Rel C w τ H r v → (binOp op t (.int ka na) (.int kb nb)).run P w = .ok v w →
    OpRes P ((execOp a.eval o).run P w) (Out E ρ a K) := by
   intro r v hk hr he
   simp only [execOp, ho, hrx.int_inv, hry.int_inv, Sem.run_bind, run_eqGuard (v := .int _ _) rfl (by simp), Result.andThen_ok, he, Sem.run_pure, OpRes]
   exact out_same hs hk hr
  cases op <;> simp only [chkA_iff, decide_eq_true_eq] at h <;> first
   | exact h.elim
   | exact h.2.elim
   | skip
  case shl => exact fin _ _ h.2 (.rd (.int _ _)) (by simp [binOp, Op.shift, Int.not_lt.2 h.1])
  case shr => exact fin _ _ h.2 (.rd (.int _ _)) (by simp [binOp, Op.shift, Int.not_lt.2 h.1])
  case quo => obtain ⟨rfl, h1, h2⟩ := h; exact fin _ _ h2 (.rd (.int _ _)) (by simp [binOp, Op.intDiv, h1])
  case rem => obtain ⟨rfl, h1, h2⟩ := h; exact fin _ _ h2 (.rd (.int _ _)) (by simp [binOp, Op.intDiv, h1])
  all_goals
   obtain ⟨rfl, h2⟩ := h
   first
    | exact fin _ _ h2 (.rd (.int _ _)) (by simp only [binOp, ne_eq, not_true_eq_false, if_false]; rfl)
    | exact fin _ _ h2 (.rd (.bool _)) (by simp [binOp, Op.intCmp])
 case h_2 sa sb hv hu =>
  rw [hv] at hrx
  rw [hu] at hry
  have fin : ∀ r : AVal, ∀ v : Value, K r H → Rel C w τ H r v → (binOp op t (.string sa) (.string sb)).run P w = .ok v w →
    OpRes P ((execOp a.eval o).run P w) (Out E ρ a K) := by
   intro r v hk hr he
   simp only [execOp, ho, hrx.str_inv, hry.str_inv, Sem.run_bind, run_eqGuard (v := .string _) rfl (by simp), Result.andThen_ok, he, Sem.run_pure, OpRes]
   exact out_same hs hk hr
  cases op <;> simp only [] at h
  case add =>
   refine fin _ _ h.2 (.rd (.str _)) ?_
   have hm : ¬ (((sa.size + sb.size : Nat) : Int) > IntKind.i64.max) := by
    have := h.1
    have e : IntKind.i64.max = 9223372036854775807 := by decide
    rw [e]; omega
   simp only [binOp, Op.stringOp, if_neg hm, Sem.run_pure]
  all_goals exact fin _ _ h (.rd (.bool _)) (by simp [binOp, Op.stringOp, Lib.toList_data])
theorem snd_un {o : Oper} {op : UnOp} {t : TypeId} {x : Operand} {x' : AOpd} (ho : o.op = .unOp op t x) (hx : compOpd x = some x') (hs : SA E C τ ρ H a w)
  (h : opA P (.un op x') ρ H K) : OpRes P ((execOp a.eval o).run P w) (Out E ρ a K) := by
 simp only [opA, evK_eq] at h
 have hr := hs.ev hx
 cases op <;> cases hv : ev ρ x' <;> rw [hv] at h hr <;> simp only [unV] at h
 ·have e := hr.int_inv
  simp only [execOp, ho, e, Op.unary, Op.intArith]
  exact out_same hs h (.rd (.int _ _))
 ·have e := hr.bool_inv
  simp only [execOp, ho, e, Op.unary]
  exact out_same hs h (.rd (.bool _))
theorem snd_conv {o : Oper} {s d : TypeId} {x : Operand} {x' : AOpd} {k j : IntKind} (ho : o.op = .convert s d x) (hx : compOpd x = some x') (h1 : P.underlying s = some (.int j)) (h2 : P.underlying d = some (.int k))
  (hs : SA E C τ ρ H a w) (h : opA P (.conv k x') ρ H K) : OpRes P ((execOp a.eval o).run P w) (Out E ρ a K) := by
 simp only [opA, evK_eq] at h
 have hr := hs.ev hx
 cases hv : ev ρ x' <;> rw [hv] at h hr <;> simp only [] at h
 have e := hr.int_inv
 simp only [execOp, ho, e, convert, Sem.run_bind, run_und h1, run_und h2, Result.andThen_ok, Conv.intToInt, Sem.run_pure, OpRes]
 exact out_same hs h (.rd (.int _ _))
theorem snd_convSS {o : Oper} {s d : TypeId} {x : Operand} {x' : AOpd} (ho : o.op = .convert s d x) (hx : compOpd x = some x') (h1 : P.underlying s = some .string) (h2 : P.underlying d = some .string)
  (hs : SA E C τ ρ H a w) (h : opA P (.convSS x') ρ H K) : OpRes P ((execOp a.eval o).run P w) (Out E ρ a K) := by
 simp only [opA, evK_eq] at h
 have hr := hs.ev hx
 split at h
 case h_2 => exact h.elim
 rename_i b hb
 rw [hb] at hr
 have e := hr.str_inv
 simp only [execOp, ho, e, convert, Sem.run_bind, run_und h1, run_und h2, Result.andThen_ok, Sem.run_pure, OpRes]
 exact out_same hs h (.rd (.str _))
theorem snd_extract {o : Oper} {x : Operand} {x' : AOpd} {i : Nat} (ho : o.op = .extract x i) (hx : compOpd x = some x') (hs : SA E C τ ρ H a w)
  (h : opA P (.extract x' i) ρ H K) : OpRes P ((execOp a.eval o).run P w) (Out E ρ a K) := by
 simp only [opA, evK_eq] at h
 have hr := hs.ev hx
 cases hv : ev ρ x' <;> rw [hv] at h hr <;> simp only [] at h
 rename_i vs
 obtain ⟨us, e, hl, hrel⟩ := hr.tuple_inv
 rw [idxA_iff] at h
 obtain ⟨v, hv1, hk⟩ := h
 have hi := (List.getElem?_eq_some_iff.1 hv1).1
 have hu : us[i]? = some us[i] := Array.getElem?_eq_getElem (by omega)
 simp only [execOp, ho, e, Instr.extract, hu]
 exact out_same hs hk (hrel i v _ hv1 hu)
theorem snd_nop {o : Oper} {x : Operand} {x' : AOpd} (ho : o.op = .nilCheck x) (hx : compOpd x = some x') (hs : SA E C τ ρ H a w)
  (h : opA P (.nop x') ρ H K) : OpRes P ((execOp a.eval o).run P w) (Out E ρ a K) := by
 simp only [opA, evK_eq] at h
 have hr := hs.ev hx
 cases hv : ev ρ x' <;> rw [hv] at h hr <;> simp only [] at h
 case ptr =>
  obtain ⟨ad, e⟩ : ∃ ad, a.eval x = .pointer (some ad) := by
   generalize a.eval x = z at hr
   cases hr with
   | rd hr => cases hr
   | ptr _ _ _ _ ad esz es h1 h2 h3 => exact ⟨ad, rfl⟩
  simp only [execOp, ho, e, Sem.run_pure, OpRes]
  rw [e] at hr
  exact out_same hs h hr
 case cptr =>
  obtain ⟨ad, e⟩ : ∃ ad, a.eval x = .pointer (some ad) := by
   generalize a.eval x = z at hr
   cases hr with
   | rd hr => cases hr; exact ⟨_, rfl⟩
  simp only [execOp, ho, e, Sem.run_pure, OpRes]
  rw [e] at hr
  exact out_same hs h hr
 case fn =>
  obtain ⟨f, vs, e⟩ : ∃ f vs, a.eval x = .func (.func f) #[] vs := by
   generalize a.eval x = z at hr
   cases hr with
   | rd hr => cases hr; exact ⟨_, _, rfl⟩
   | fn f cs vs h1 h2 => exact ⟨_, _, rfl⟩
  simp only [execOp, ho, e, Sem.run_pure, OpRes]
  rw [e] at hr
  exact out_same hs h hr
end
section
variable {E : Env} {P : Program} {C : Nat → Nat} {τ : Nat → Option Loc} {ρ : List AVal} {H : List AObj} {a : Act} {w : World} {K : AVal → List AObj → Prop}
def ReadsAt (C : Nat → Nat) (w : World) (τ : Nat → Option Loc) (H : List AObj) (b base : Nat) (cs : List AVal) : Prop :=
 ∀ (j : Nat) (d : AVal), cs[j]? = some d → d.isCell = true ∧ ∃ v, w.cell? ⟨b, base + j, none⟩ = some v ∧ Rel C w τ H d v
theorem forceK_mono {l : List AVal} {k : List AVal → Prop} (h : forceK l k) : k l := by rwa [forceK_eq] at h
theorem ReadsAt.values {b base : Nat} {cs : List AVal} (h : ReadsAt C w τ H b base cs) (fld sz : Nat) (hl : fld + sz ≤ cs.length) :
  ∃ vs : List Value, vs.length = sz ∧ (∀ j v, vs[j]? = some v → w.cell? ((⟨b, base + fld, none⟩ : Addr).add j) = some v) ∧
   (∀ (j : Nat) (c : AVal) (v : Value), ((cs.drop fld).take sz)[j]? = some c → vs[j]? = some v → Rel C w τ H c v ∧ c.isCell = true) := by
 refine ⟨(List.range sz).map fun j => (w.cell? ⟨b, base + (fld + j), none⟩).getD undef, by simp, fun j v hv => ?_, fun j c v hc hv => ?_⟩
 ·rw [List.getElem?_map] at hv
  by_cases hj : j < sz
  ·rw [List.getElem?_range hj] at hv
   simp only [Option.map_some, Option.some.injEq] at hv
   have hc : cs[fld + j]? = some cs[fld + j] := List.getElem?_eq_getElem (by omega)
   obtain ⟨_, u, hu, _⟩ := h _ _ hc
   rw [hu] at hv
   simp at hv
   rw [addr_add, show base + fld + j = base + (fld + j) from by omega, hu, hv]
  ·rw [List.getElem?_eq_none (by simp; omega)] at hv; cases hv
 ·rw [List.getElem?_map] at hv
  by_cases hj : j < sz
  ·rw [List.getElem?_range hj] at hv
   simp only [Option.map_some, Option.some.injEq] at hv
   rw [List.getElem?_take_of_lt hj, List.getElem?_drop] at hc
   obtain ⟨h1, u, hu, h2⟩ := h _ _ hc
   rw [hu] at hv
   simp at hv
   subst hv
   exact ⟨h2, h1⟩
  ·rw [List.getElem?_eq_none (by simp; omega)] at hv; cases hv
theorem ReadsAt.load {b base : Nat} {cs : List AVal} (h : ReadsAt C w τ H b base cs) {t : TypeId} {ag : Bool} {sz fld : Nat} (ht : tagOf P t = some ag) (hsz : sizeA P t = some sz)
  (hl : fld + sz ≤ cs.length) (hag : ag = true ∨ sz = 1) :
  ∃ u, (loadVar t ⟨b, base + fld, none⟩).run P w = .ok u w ∧ Rel C w τ H (mkVal ag ((cs.drop fld).take sz)) u := by
 obtain ⟨vs, hv1, hv2, hv3⟩ := h.values fld sz hl
 cases ag with
 | true =>
  refine ⟨.agg vs.toArray, ?_, ?_⟩
  ·have := run_loadCells_list (P := P) w ⟨b, base + fld, none⟩ vs hv2
   rw [hv1] at this
   simp only [loadVar, Sem.run_bind, run_isAgg ht, Result.andThen_ok, if_true, run_size hsz, this, Sem.run_pure]
  ·refine .agg _ _ (by simp [hv1]; omega) fun j c v hc hv => ?_
   exact (hv3 j c v hc (by simpa using hv)).1
 | false =>
  have hs1 : sz = 1 := by simpa using hag
  subst hs1
  have hc : cs[fld]? = some cs[fld] := List.getElem?_eq_getElem (by omega)
  obtain ⟨_, u, hu, hr⟩ := h _ _ hc
  refine ⟨u, ?_, ?_⟩
  ·simp only [loadVar, Sem.run_bind, run_isAgg ht, Result.andThen_ok, Bool.false_eq_true, if_false, run_load, hu]
  ·have : (cs.drop fld).take 1 = [cs[fld]] := by
    rw [List.drop_eq_getElem_cons (by omega)]; rfl
   rw [this]
   exact hr
theorem WF.reads (h : WF C τ H w) {id idx : Nat} {esz : Nat} {es : List (List AVal)} {e : List AVal} {l : Loc} (ho : H[id]? = some (.arr esz es)) (hl : τ id = some l) (he : es[idx]? = some e) :
  ReadsAt C w τ H l.b (idx * esz) e := by
 intro j d hd
 obtain ⟨_, cells, elem, fz, h1, h2, h3, h4⟩ := h.objs id _ l ho hl
 obtain ⟨v, hv, hr⟩ := h4 idx j e d he hd
 have hok := (h.ok id _ ho e (List.mem_of_getElem? he)).2 d (List.mem_of_getElem? hd)
 exact ⟨hok, v, by simp [World.cell?, h1, hv], hr⟩
theorem Rel.cptr_inv {cs : List AVal} {fld : Nat} {u : Value} (h : Rel C w τ H (.cptr cs fld) u) :
  ∃ b off, u = .pointer (some ⟨b, off + fld, none⟩) ∧ ReadsAt C w τ H b off cs := by
 cases h with
 | rd h =>
  cases h with
  | cptr _ _ b off vs hC hcell hp hrd =>
   refine ⟨b, off, rfl, fun j d hd => ⟨hp j d hd, vs j, hcell j (List.getElem?_eq_some_iff.1 hd).1, .rd (hrd j d hd)⟩⟩
theorem Rel.ptr_inv {id ep idx fld : Nat} {esz : Nat} {es : List (List AVal)} {u : Value} (h : Rel C w τ H (.ptr id ep idx fld) u) (ho : H[id]? = some (.arr esz es)) (hep : ep = es.length) :
  ∃ l, τ id = some l ∧ u = .pointer (some ⟨l.b, idx * esz + fld, none⟩) := by
 cases h with
 | rd h => cases h
 | ptr _ _ _ _ ad esz' es' ho' hep' h =>
  rw [ho] at ho'; cases ho'
  obtain ⟨l, h1, h2⟩ := h hep
  exact ⟨l, h1, by rw [h2]⟩
theorem Rel.sl_inv {id ep off len : Nat} {esz : Nat} {es : List (List AVal)} {u : Value} (h : Rel C w τ H (.sl id ep off len) u) (ho : H[id]? = some (.arr esz es)) (hep : ep = es.length) :
  ∃ ad cap, u = .slice ad len cap ∧ off + len ≤ es.length ∧ len ≤ cap ∧
   ((τ id = none ∧ cap = 0) ∨ ∃ l, τ id = some l ∧ off + cap = l.cap ∧ (cap = 0 ∨ ad = some ⟨l.b, off * esz, none⟩)) := by
 cases h with
 | rd h => cases h
 | sl _ _ _ _ ad cap esz' es' ho' hep' h =>
  rw [ho] at ho'; cases ho'
  obtain ⟨h1, h2, h3⟩ := h hep
  exact ⟨ad, cap, rfl, h1, h2, h3⟩
theorem Rel.sl_slice {id ep off len : Nat} {u : Value} (h : Rel C w τ H (.sl id ep off len) u) : ∃ ad cap, u = .slice ad len cap := by
 cases h with
 | rd h => cases h
 | sl _ _ _ _ ad cap esz' es' ho' hep' h => exact ⟨ad, cap, rfl⟩
theorem Rel.list_inv {x : Bool} {sz : Nat} {es : List (List AVal)} {u : Value} (h : Rel C w τ H (.list x sz es) u) :
  ∃ ad cap, u = .slice ad es.length cap ∧ es.length ≤ cap ∧ (x = true → cap = es.length) ∧ (es = [] ∨ ∃ b off, ad = some ⟨b, off, none⟩ ∧
   off + es.length * sz ≤ C b ∧ (∀ e ∈ es, e.length = sz) ∧ ∃ vs : Nat → Nat → Value,
    (∀ i j, i < es.length → j < sz → w.cell? ⟨b, off + i * sz + j, none⟩ = some (vs i j)) ∧
    (∀ (i j : Nat) (e : List AVal) (d : AVal), es[i]? = some e → e[j]? = some d → d.isCell = true) ∧
    (∀ (i j : Nat) (e : List AVal) (d : AVal), es[i]? = some e → e[j]? = some d → Rd C w d (vs i j))) := by
 cases h with
 | rd h =>
  cases h with
  | list0 _ _ ad cap hx => exact ⟨ad, cap, rfl, Nat.zero_le _, hx, .inl rfl⟩
  | list _ _ _ b off cap vs hx hcap hsz hC hcell hp hrd =>
   exact ⟨_, _, rfl, hcap, hx, .inr ⟨b, off, rfl, hC, hsz, vs, hcell, hp, hrd⟩⟩
theorem Rel.slc_inv {id ep off len cap : Nat} {esz : Nat} {es : List (List AVal)} {u : Value} (h : Rel C w τ H (.slc id ep off len cap) u) (ho : H[id]? = some (.arr esz es)) (hep : ep = es.length) :
  ∃ ad, u = .slice ad len cap ∧ off + cap ≤ es.length ∧ len ≤ cap ∧ ∃ l, τ id = some l ∧ (cap = 0 ∨ ad = some ⟨l.b, off * esz, none⟩) := by
 cases h with
 | rd h => cases h
 | slc _ _ _ _ _ ad esz' es' ho' hep' h =>
  rw [ho] at ho'; cases ho'
  obtain ⟨h1, h2, h3⟩ := h hep
  exact ⟨ad, rfl, h1, h2, h3⟩
theorem Rel.slc_slice {id ep off len cap : Nat} {u : Value} (h : Rel C w τ H (.slc id ep off len cap) u) : ∃ ad, u = .slice ad len cap := by
 cases h with
 | rd h => cases h
 | slc _ _ _ _ _ ad esz' es' ho' hep' h => exact ⟨ad, rfl⟩
theorem Rel.list_elem {x : Bool} {sz : Nat} {es : List (List AVal)} {ad : Option Addr} {n cap : Nat} (h : Rel C w τ H (.list x sz es) (.slice ad n cap)) {i : Nat} {e : List AVal} (he : es[i]? = some e) :
  ∃ b off, ad = some ⟨b, off, none⟩ ∧ Rd C w (.cptr e 0) (.pointer (some ⟨b, off + i * sz, none⟩)) := by
 have hi := (List.getElem?_eq_some_iff.1 he).1
 obtain ⟨ad', cap', e1, hcap, hx, hr⟩ := h.list_inv
 cases e1
 rcases hr with rfl | ⟨b, off, rfl, hC, hsz, vs, hcell, hp, hrd⟩
 ·simp at hi
 ·refine ⟨b, off, rfl, ?_⟩
  have hel := hsz e (List.mem_of_getElem? he)
  have := Rd.cptr (C := C) (w := w) e 0 b (off + i * sz) (vs i) ?_ (fun j hj => ?_) (fun j d hd => hp i j e d he hd) (fun j d hd => hrd i j e d he hd)
  ·exact this
  ·have h1 : (i + 1) * sz ≤ es.length * sz := Nat.mul_le_mul_right _ hi
   rw [Nat.add_mul] at h1
   omega
  ·exact hcell i j hi (by omega)
theorem snd_load {o : Oper} {t : TypeId} {x : Operand} {x' : AOpd} {ag : Bool} {sz : Nat} (ho : o.op = .load t x) (hx : compOpd x = some x') (ht : tagOf P t = some ag) (hsz : sizeA P t = some sz)
  (hs : SA E C τ ρ H a w) (h : opA P (.load ag sz x') ρ H K) : OpRes P ((execOp a.eval o).run P w) (Out E ρ a K) := by
 simp only [opA, evK_eq] at h
 have hr := hs.ev hx
 split at h
 case h_3 => exact h.elim
 case h_1 id ep idx fld hv =>
  rw [hv] at hr
  simp only [objK, idxA_iff] at h
  obtain ⟨ob, hob, h⟩ := h
  split at h
  case h_2 => exact h.elim
  rename_i esz es
  simp only [elemA_iff, chkA_iff, Bool.and_eq_true, Bool.or_eq_true, decide_eq_true_eq] at h
  obtain ⟨hep, e, he, ⟨hl, hag⟩, hk⟩ := h
  have hk := forceK_mono hk
  obtain ⟨l, hl1, hu⟩ := hr.ptr_inv hob hep
  obtain ⟨u, h1, h2⟩ := (hs.st.wf.reads hob hl1 he).load ht hsz hl hag
  simp only [execOp, ho, hu, Instr.loadAt, Instr.sureAddr, Sem.run_bind, Sem.run_pure, Result.andThen_ok, h1, OpRes]
  exact out_same hs hk h2
 case h_2 e fld hv =>
  rw [hv] at hr
  simp only [chkA_iff, Bool.and_eq_true, Bool.or_eq_true, decide_eq_true_eq] at h
  obtain ⟨⟨hl, hag⟩, hk⟩ := h
  have hk := forceK_mono hk
  obtain ⟨b, off, hu, hrd⟩ := hr.cptr_inv
  obtain ⟨u, h1, h2⟩ := hrd.load ht hsz hl hag
  simp only [execOp, ho, hu, Instr.loadAt, Instr.sureAddr, Sem.run_bind, Sem.run_pure, Result.andThen_ok, h1, OpRes]
  exact out_same hs hk h2
theorem snd_fieldAddr {o : Oper} {s : TypeId} {x : Operand} {x' : AOpd} {f : Nat} {fs : Array Field} {fd : Field} {n : Nat} (ho : o.op = .fieldAddr s x f) (hx : compOpd x = some x') (hu : P.underlying s = some (.struct fs))
  (hf : fs[f]? = some fd) (hsz : sizeA P fd.type = some n) (hn : n ≠ 0) (hs : SA E C τ ρ H a w) (h : opA P (.fieldAddr fd.offset x') ρ H K) : OpRes P ((execOp a.eval o).run P w) (Out E ρ a K) := by
 simp only [opA, evK_eq] at h
 have hr := hs.ev hx
 have run : ∀ b off, a.eval x = .pointer (some ⟨b, off, none⟩) → (execOp a.eval o).run P w = .ok (.value (.pointer (some ⟨b, off + fd.offset, none⟩))) w := by
  intro b off e
  simp only [execOp, ho, e, Instr.fieldAt, Instr.sureAddr, Sem.run_bind, run_und hu, Result.andThen_ok, hf, fieldPlace, run_size hsz, if_neg hn, Sem.run_ite, Sem.run_pure, addr_add]
 split at h
 case h_3 => exact h.elim
 case h_1 id ep idx fld hv =>
  rw [hv] at hr
  generalize hz : a.eval x = z at hr
  cases hr with
  | rd hr => cases hr
  | ptr _ _ _ _ ad esz es h1 h2 h3 =>
   obtain ⟨b, off, spot⟩ := ad
   by_cases hep : ep = es.length
   ·obtain ⟨l, h4, h5⟩ := h3 hep
    cases h5
    rw [run _ _ hz]
    refine out_same hs h (.ptr _ _ _ _ _ _ _ h1 h2 fun _ => ⟨l, h4, ?_⟩)
    rw [Nat.add_assoc]
   ·have : ∃ ad', (execOp a.eval o).run P w = .ok (.value (.pointer (some ad'))) w := by
     refine ⟨(⟨b, off, spot⟩ : Addr).add fd.offset, ?_⟩
     simp only [execOp, ho, hz, Instr.fieldAt, Instr.sureAddr, Sem.run_bind, run_und hu, Result.andThen_ok, hf, fieldPlace, run_size hsz, if_neg hn, Sem.run_ite, Sem.run_pure]
    obtain ⟨ad', e⟩ := this
    rw [e]
    exact out_same hs h (.ptr _ _ _ _ _ _ _ h1 h2 fun e => absurd e hep)
 case h_2 e fld hv =>
  rw [hv] at hr
  generalize hz : a.eval x = z at hr
  cases hr with
  | rd hr =>
   cases hr with
   | cptr _ _ b off vs hC hcell hp hrd =>
    rw [run _ _ hz]
    refine out_same hs h (.rd ?_)
    rw [Nat.add_assoc]
    exact .cptr _ _ b off vs hC hcell hp hrd
theorem snd_field {o : Oper} {s : TypeId} {x : Operand} {x' : AOpd} {f : Nat} {fs : Array Field} {fd : Field} {ag : Bool} {n : Nat} (ho : o.op = .field s x f) (hx : compOpd x = some x') (hu : P.underlying s = some (.struct fs))
  (hf : fs[f]? = some fd) (hsz : sizeA P fd.type = some n) (ht : tagOf P fd.type = some ag) (hs : SA E C τ ρ H a w) (h : opA P (.field ag fd.offset n x') ρ H K) : OpRes P ((execOp a.eval o).run P w) (Out E ρ a K) := by
 simp only [opA, evK_eq] at h
 have hr := hs.ev hx
 split at h
 case h_2 => exact h.elim
 rename_i cs hv
 rw [hv] at hr
 obtain ⟨vs, e, hl, hrel⟩ := hr.agg_inv
 simp only [chkA_iff, Bool.and_eq_true, Bool.or_eq_true, decide_eq_true_eq] at h
 obtain ⟨⟨h1, h2⟩, hk⟩ := h
 have hk := forceK_mono hk
 cases ag with
 | true =>
  simp only [execOp, ho, e, Instr.field, Sem.run_bind, run_und hu, Result.andThen_ok, hf, asAgg, part, Sem.run_pure, run_isAgg ht, if_true, run_size hsz, OpRes]
  refine out_same hs hk (.agg _ _ (by simp; omega) fun i c v hc hv => ?_)
  by_cases hi : i < n
  ·rw [List.getElem?_take_of_lt hi, List.getElem?_drop] at hc
   rw [Array.getElem?_extract] at hv
   have : fd.offset + i < vs.size := by omega
   rw [if_pos (by omega)] at hv
   exact hrel _ _ _ hc hv
  ·rw [List.getElem?_eq_none (by simp; omega)] at hc; cases hc
 | false =>
  have hn : n = 1 := by simpa using h2
  subst hn
  have hc : cs[fd.offset]? = some cs[fd.offset] := List.getElem?_eq_getElem (by omega)
  have hv' : vs[fd.offset]? = some vs[fd.offset] := Array.getElem?_eq_getElem (by omega)
  simp only [execOp, ho, e, Instr.field, Sem.run_bind, run_und hu, Result.andThen_ok, hf, asAgg, part, Sem.run_pure, run_isAgg ht, Bool.false_eq_true, if_false, hv', OpRes]
  have : (cs.drop fd.offset).take 1 = [cs[fd.offset]] := by
   rw [List.drop_eq_getElem_cons (by omega)]; rfl
  rw [this] at hk
  exact out_same hs hk (hrel _ _ _ hc hv')
theorem elem_und {t e : TypeId} (h : elemA? P t = some e) : P.underlying t = some (.slice e) := by
 unfold elemA? at h
 split at h
 ·cases h; assumption
 ·cases h
theorem snd_indexAddr {o : Oper} {t e : TypeId} {x i : Operand} {x' i' : AOpd} {n : Nat} (ho : o.op = .indexAddr t x i) (hx : compOpd x = some x') (hi : compOpd i = some i') (he : elemA? P t = some e)
  (hsz : sizeA P e = some n) (hs : SA E C τ ρ H a w) (h : opA P (.indexAddr n x' i') ρ H K) : OpRes P ((execOp a.eval o).run P w) (Out E ρ a K) := by
 simp only [opA, evK_eq] at h
 have hrx := hs.ev hx
 have hri := hs.ev hi
 have hu := elem_und he
 split at h
 case h_2 => exact h.elim
 rename_i k m hm
 rw [hm] at hri
 have em := hri.int_inv
 have run : ∀ b off len cap, a.eval x = .slice (some ⟨b, off, none⟩) len cap → 0 ≤ m → m < len → (execOp a.eval o).run P w = .ok (.value (.pointer (some ⟨b, off + m.toNat * n, none⟩))) w := by
  intro b off len cap e1 h0 h1
  simp only [execOp, ho, e1, em, Instr.indexAt, asIntOf, Sem.run_bind, run_und hu, Result.andThen_ok, Sem.run_pure, Bool.and_false, if_pos (And.intro h0 h1), run_size hsz, addr_add]
 split at h
 case h_4 => exact h.elim
 case h_3 id ep off len cap hv =>
  rw [hv] at hrx
  simp only [objK, idxA_iff] at h
  obtain ⟨ob, hob, h⟩ := h
  split at h
  case h_2 => exact h.elim
  rename_i s es
  simp only [chkA_iff, Nat.beq_eq] at h
  obtain ⟨rfl, hep, ⟨h0, h1⟩, hk⟩ := h
  obtain ⟨ad, e1, h2, h3, l, hl, hl3⟩ := hrx.slc_inv hob hep
  rcases hl3 with hc | rfl
  ·omega
  ·rw [run _ _ _ _ e1 h0 h1]
   refine out_same hs hk (.ptr _ _ _ _ _ _ _ hob (by omega) fun _ => ⟨l, hl, ?_⟩)
   rw [Nat.add_mul]; rfl
 case h_1 ex s es hv =>
  rw [hv] at hrx
  simp only [chkA_iff, Nat.beq_eq, idxA_iff] at h
  obtain ⟨rfl, h0, el, hel, hk⟩ := h
  obtain ⟨ad, cap, e1, _⟩ := hrx.list_inv
  rw [e1] at hrx
  obtain ⟨b, off, rfl, hrd⟩ := hrx.list_elem hel
  have hlt := (List.getElem?_eq_some_iff.1 hel).1
  rw [run _ _ _ _ e1 h0 (by omega)]
  exact out_same hs hk (.rd hrd)
 case h_2 id ep off len hv =>
  rw [hv] at hrx
  simp only [objK, idxA_iff] at h
  obtain ⟨ob, hob, h⟩ := h
  split at h
  case h_2 => exact h.elim
  rename_i s es
  simp only [chkA_iff, Nat.beq_eq] at h
  obtain ⟨rfl, hep, ⟨h0, h1⟩, hk⟩ := h
  obtain ⟨ad, cap, e1, h2, h3, h4⟩ := hrx.sl_inv hob hep
  rcases h4 with ⟨_, hc⟩ | ⟨l, hl, hl2, hl3⟩
  ·omega
  ·rcases hl3 with hc | rfl
   ·omega
   ·rw [run _ _ _ _ e1 h0 h1]
    refine out_same hs hk (.ptr _ _ _ _ _ _ _ hob (by omega) fun _ => ⟨l, hl, ?_⟩)
    rw [Nat.add_mul]; rfl
theorem snd_indexStr {o : Oper} {t : TypeId} {x i : Operand} {x' i' : AOpd} (ho : o.op = .index t x i) (hx : compOpd x = some x') (hi : compOpd i = some i') (hu : P.underlying t = some .string)
  (hs : SA E C τ ρ H a w) (h : opA P (.indexStr x' i') ρ H K) : OpRes P ((execOp a.eval o).run P w) (Out E ρ a K) := by
 simp only [opA, evK_eq] at h
 have hrx := hs.ev hx
 have hri := hs.ev hi
 split at h
 case h_2 => exact h.elim
 rename_i s k m e1 e2
 rw [e1] at hrx
 rw [e2] at hri
 simp only [idxA_iff] at h
 obtain ⟨h0, b, hb, hk⟩ := h
 have hb' : s[m.toNat]? = some b := by
  have hlt := (List.getElem?_eq_some_iff.1 hb).1
  have hsz : m.toNat < s.size := by simpa using hlt
  rw [getElem?_pos s m.toNat hsz]
  rw [List.getElem?_eq_getElem hlt] at hb
  simp only [Array.getElem_toList, Option.some.injEq] at hb
  exact congrArg some hb
 simp only [execOp, ho, hrx.str_inv, hri.int_inv, Instr.index, asIntOf, Sem.run_bind, run_und hu, Result.andThen_ok, Sem.run_pure, if_pos h0, hb', OpRes]
 exact out_same hs hk (.rd (.int _ _))
theorem snd_lenS {o : Oper} {t : TypeId} {x : Operand} {x' : AOpd} (hop : o.op = .call { callee := .builtin .len, args := #[x], argTypes := #[t] }) (hx : compOpd x = some x')
  (hu : P.underlying t = some .string) (hs : SA E C τ ρ H a w) (h : opA P (.lenS x') ρ H K) : OpRes P ((execOp a.eval o).run P w) (Out E ρ a K) := by
 simp only [opA, evK_eq] at h
 have hr := hs.ev hx
 split at h
 case h_2 => exact h.elim
 rename_i s hv
 rw [hv] at hr
 have : (execOp a.eval o).run P w = .ok (.value (.int .i64 s.size)) w := by
  simp [execOp, hop, resolve, invoke, builtin, Builtin.len_, hr.str_inv, run_und hu, goInt]
 rw [this]
 exact out_same hs h (.rd (.int _ _))
theorem snd_len {o : Oper} {t el : TypeId} {x : Operand} {x' : AOpd} (hop : o.op = .call { callee := .builtin .len, args := #[x], argTypes := #[t] }) (hx : compOpd x = some x')
  (hu : P.underlying t = some (.slice el)) (hs : SA E C τ ρ H a w) (h : opA P (.len x') ρ H K) : OpRes P ((execOp a.eval o).run P w) (Out E ρ a K) := by
 simp only [opA, evK_eq] at h
 have hr := hs.ev hx
 have run2 : ∀ ad n cap, a.eval x = .slice ad n cap → (execOp a.eval o).run P w = .ok (.value (.int .i64 n)) w := by
  intro ad n cap e
  simp [execOp, hop, resolve, invoke, builtin, Builtin.len_, e, run_und hu, goInt]
 split at h
 case h_1 hv =>
  rw [hv] at hr
  rw [run2 _ _ _ hr.nil_inv]
  exact out_same hs h (.rd (.int _ _))
 case h_2 hv =>
  rw [hv] at hr
  obtain ⟨ad, cap, e, _⟩ := hr.list_inv
  rw [run2 _ _ _ e]
  exact out_same hs h (.rd (.int _ _))
 case h_3 hv =>
  rw [hv] at hr
  simp only [objK, idxA_iff] at h
  obtain ⟨ob, hob, h⟩ := h
  split at h
  case h_2 => exact h.elim
  simp only [chkA_iff] at h
  obtain ⟨ad, cap, e⟩ := hr.sl_slice
  rw [run2 _ _ _ e]
  exact out_same hs h.2 (.rd (.int _ _))
 case h_4 hv =>
  rw [hv] at hr
  obtain ⟨ad, e⟩ := hr.slc_slice
  rw [run2 _ _ _ e]
  exact out_same hs h (.rd (.int _ _))
 case h_5 => exact h.elim
theorem snd_cap {o : Oper} {t el : TypeId} {x : Operand} {x' : AOpd} (hop : o.op = .call { callee := .builtin .cap, args := #[x], argTypes := #[t] }) (hx : compOpd x = some x')
  (hu : P.underlying t = some (.slice el)) (hs : SA E C τ ρ H a w) (h : opA P (.capS x') ρ H K) : OpRes P ((execOp a.eval o).run P w) (Out E ρ a K) := by
 simp only [opA, evK_eq] at h
 have hr := hs.ev hx
 split at h
 case h_1 id ep off len cap hv =>
  rw [hv] at hr
  obtain ⟨ad, e⟩ := hr.slc_slice
  have : (execOp a.eval o).run P w = .ok (.value (.int .i64 cap)) w := by
   simp [execOp, hop, resolve, invoke, builtin, Builtin.cap_, e, run_und hu, goInt]
  rw [this]
  exact out_same hs h (.rd (.int _ _))
 case h_2 => exact h.elim
end
section
variable {E : Env} {P : Program} {C : Nat → Nat} {τ : Nat → Option Loc} {ρ : List AVal} {H : List AObj} {a : Act} {w : World} {K : AVal → List AObj → Prop}
theorem evsK_rel (hs : SA E C τ ρ H a w) : ∀ (xs : List Operand) (ys : List AOpd), compOpds xs = some ys → (ys.map (ev ρ)).length = (xs.map a.eval).length ∧
  ∀ (i : Nat) (c : AVal) (v : Value), (ys.map (ev ρ))[i]? = some c → (xs.map a.eval)[i]? = some v → Rel C w τ H c v
 | [], ys, h => by
  simp only [compOpds, Option.some.injEq] at h; subst h
  exact ⟨rfl, fun i c v h => by simp at h⟩
 | x :: xs, ys, h => by
  simp only [compOpds, Option.bind_eq_bind, Option.bind_eq_some_iff, Option.pure_def, Option.some.injEq] at h
  obtain ⟨y, hy, zs, hz, rfl⟩ := h
  obtain ⟨h1, h2⟩ := evsK_rel hs xs zs hz
  refine ⟨by simpa using h1, fun i c v hc hv => ?_⟩
  cases i with
  | zero => simp at hc hv; subst hc hv; exact hs.ev hy
  | succ i => simp at hc hv; exact h2 i c v (by simpa using hc) (by simpa using hv)
theorem snd_makeFunc {o : Oper} {f : FuncId} {first caps : Array Operand} {ys : List AOpd} (ho : o.op = .makeFunc (.func f) first caps) (hf : first.isEmpty = true) (hc : compOpds caps.toList = some ys)
  (hs : SA E C τ ρ H a w) (h : opA P (.makeFunc f ys) ρ H K) : OpRes P ((execOp a.eval o).run P w) (Out E ρ a K) := by
 simp only [opA, evsK_eq] at h
 have hr := evsK_rel hs _ _ hc
 have hf0 : first = #[] := by simpa using hf
 simp only [execOp, ho, Instr.makeFunc, Sem.run_bind, Sem.run_pure, Result.andThen_ok, OpRes, hf0]
 rw [Array.map_empty]
 refine out_same hs h (.fn _ _ (caps.map a.eval) (by simpa using hr.1) fun i c v h1 h2 => hr.2 i c v h1 ?_)
 rw [← h2]; simp
theorem snd_makeFuncB {o : Oper} {f : FuncId} {first caps : Array Operand} {ys : List AOpd} (ho : o.op = .makeFunc (.func f) first caps) (hf : caps.isEmpty = true) (hc : compOpds first.toList = some ys)
  (hs : SA E C τ ρ H a w) (h : opA P (.makeFuncB f ys) ρ H K) : OpRes P ((execOp a.eval o).run P w) (Out E ρ a K) := by
 simp only [opA, evsK_eq] at h
 have hr := evsK_rel hs _ _ hc
 have hf0 : caps = #[] := by simpa using hf
 simp only [execOp, ho, Instr.makeFunc, Sem.run_bind, Sem.run_pure, Result.andThen_ok, OpRes, hf0]
 rw [Array.map_empty]
 refine out_same hs h (.fnb _ _ (first.map a.eval) (by simpa using hr.1) fun i c v h1 h2 => hr.2 i c v h1 ?_)
 rw [← h2]; simp
theorem snd_mn {o : Oper} {t u : TypeId} {x y : Operand} {x' y' : AOpd} (hop : o.op = .call { callee := .builtin .min, args := #[x, y], argTypes := #[t, u] }) (hx : compOpd x = some x') (hy : compOpd y = some y')
  (hs : SA E C τ ρ H a w) (h : opA P (.mn x' y') ρ H K) : OpRes P ((execOp a.eval o).run P w) (Out E ρ a K) := by
 simp only [opA, evK_eq] at h
 have hrx := hs.ev hx
 have hry := hs.ev hy
 split at h
 case h_2 => exact h.elim
 rename_i k m j n e1 e2
 rw [e1] at hrx
 rw [e2] at hry
 have : (execOp a.eval o).run P w = .ok (.value (.int k (if n < m then n else m))) w := by
  simp [execOp, hop, resolve, invoke, builtin, Builtin.min_, Builtin.min2, hrx.int_inv, hry.int_inv]
 rw [this]
 exact out_same hs h (.rd (.int _ _))
theorem snd_mx {o : Oper} {t u : TypeId} {x y : Operand} {x' y' : AOpd} (hop : o.op = .call { callee := .builtin .max, args := #[x, y], argTypes := #[t, u] }) (hx : compOpd x = some x') (hy : compOpd y = some y')
  (hs : SA E C τ ρ H a w) (h : opA P (.mx x' y') ρ H K) : OpRes P ((execOp a.eval o).run P w) (Out E ρ a K) := by
 simp only [opA, evK_eq] at h
 have hrx := hs.ev hx
 have hry := hs.ev hy
 split at h
 case h_2 => exact h.elim
 rename_i k m j n e1 e2
 rw [e1] at hrx
 rw [e2] at hry
 have : (execOp a.eval o).run P w = .ok (.value (.int k (if n > m then n else m))) w := by
  simp [execOp, hop, resolve, invoke, builtin, Builtin.max_, Builtin.max2, hrx.int_inv, hry.int_inv]
 rw [this]
 exact out_same hs h (.rd (.int _ _))
theorem optOpd_some {x : Operand} {y : Option AOpd} (h : optOpd (some x) = some y) : ∃ z, y = some z ∧ compOpd x = some z := by
 simp only [optOpd, Option.map_eq_some_iff] at h
 obtain ⟨z, h1, h2⟩ := h
 exact ⟨z, h2.symm, h1⟩
theorem run_bounds (hs : SA E C τ ρ H a w) {lo hi : Option Operand} {lo' hi' : Option AOpd} (h1 : optOpd lo = some lo') (h2 : optOpd hi = some hi') {len cap : Nat} (hlc : len ≤ cap) {Kb : Nat → Nat → Prop} (isSlice : Bool)
  (h : boundsK ρ lo' hi' len Kb) : ∃ l r, (Instr.sliceBounds isSlice len cap (lo.map a.eval) (hi.map a.eval) none).run P w = .ok (l, r, cap) w ∧ l ≤ r ∧ r ≤ len ∧ (hi'.isNone = true → r = len) ∧ Kb l r := by
 have bnd : ∀ (k : IntKind) (n : Int) (m : Nat) (code : BoundsCode), 0 ≤ n → n ≤ m → (Instr.sliceBound (.int k n) m code).run P w = .ok n.toNat w := by
  intro k n m code h0 h1
  simp [Instr.sliceBound, asIntOf, h0, h1]
 cases lo with
 | none =>
  simp only [optOpd, Option.some.injEq] at h1; subst h1
  cases hi with
  | none =>
   simp only [optOpd, Option.some.injEq] at h2; subst h2
   simp only [boundsK] at h
   exact ⟨0, len, by simp [Instr.sliceBounds], Nat.zero_le _, Nat.le_refl _, fun _ => rfl, h⟩
  | some y =>
   obtain ⟨y', rfl, hy⟩ := optOpd_some h2
   have hr := hs.ev hy
   simp only [boundsK, evK_eq] at h
   split at h
   case h_2 => exact h.elim
   rename_i k n e
   rw [e] at hr
   obtain ⟨⟨h0, hn⟩, hk⟩ := h
   refine ⟨0, n.toNat, ?_, Nat.zero_le _, by omega, (fun e => by cases e), hk⟩
   simp only [Instr.sliceBounds, Option.map_none, Option.map_some, hr.int_inv, Sem.run_bind, Sem.run_pure, Result.andThen_ok, bnd k n cap _ h0 (by omega)]
 | some x =>
  obtain ⟨x', rfl, hx⟩ := optOpd_some h1
  have hr := hs.ev hx
  cases hi with
  | none =>
   simp only [optOpd, Option.some.injEq] at h2; subst h2
   simp only [boundsK, evK_eq] at h
   split at h
   case h_2 => exact h.elim
   rename_i k n e
   rw [e] at hr
   obtain ⟨⟨h0, hn⟩, hk⟩ := h
   refine ⟨n.toNat, len, ?_, by omega, Nat.le_refl _, fun _ => rfl, hk⟩
   simp only [Instr.sliceBounds, Option.map_none, Option.map_some, hr.int_inv, Sem.run_bind, Sem.run_pure, Result.andThen_ok, bnd k n len _ h0 (by omega)]
  | some y =>
   obtain ⟨y', rfl, hy⟩ := optOpd_some h2
   have hr2 := hs.ev hy
   simp only [boundsK, evK_eq] at h
   split at h
   case h_2 => exact h.elim
   rename_i k n k2 n2 e e2
   rw [e] at hr
   rw [e2] at hr2
   obtain ⟨⟨h0, hn, hn2⟩, hk⟩ := h
   refine ⟨n.toNat, n2.toNat, ?_, by omega, by omega, (fun e => by cases e), hk⟩
   simp only [Instr.sliceBounds, Option.map_some, hr.int_inv, hr2.int_inv, Sem.run_bind, Sem.run_pure, Result.andThen_ok, bnd k2 n2 cap _ (by omega) (by omega), bnd k n n2.toNat _ h0 (by omega)]
theorem snd_sliceStr {o : Oper} {t : TypeId} {x : Operand} {x' : AOpd} {lo hi : Option Operand} {lo' hi' : Option AOpd} (ho : o.op = .slice t x lo hi none) (hx : compOpd x = some x') (h1 : optOpd lo = some lo') (h2 : optOpd hi = some hi')
  (hu : P.underlying t = some .string) (hs : SA E C τ ρ H a w) (h : opA P (.sliceStr x' lo' hi') ρ H K) : OpRes P ((execOp a.eval o).run P w) (Out E ρ a K) := by
 simp only [opA, evK_eq] at h
 have hr := hs.ev hx
 split at h
 case h_2 => exact h.elim
 rename_i s e
 rw [e] at hr
 obtain ⟨l, r, hb, _, _, _, hk⟩ := run_bounds (P := P) hs h1 h2 (Nat.le_refl s.size) false h
 have : (execOp a.eval o).run P w = .ok (.value (.string (s.extract l r))) w := by
  simp [execOp, ho, hr.str_inv, Instr.sliceAt, Instr.slice, run_und hu, hb]
 rw [this]
 exact out_same hs hk (.rd (.str _))
theorem Rd.subslice {x : Bool} {sz : Nat} {es : List (List AVal)} {ad : Option Addr} {cap l r : Nat} (h : Rel C w τ H (.list x sz es) (.slice ad es.length cap)) (hlr : l ≤ r) (hr : r ≤ es.length) (y : Bool) (hy : y = true → x = true ∧ r = es.length) :
  Rel C w τ H (.list y sz ((es.take r).drop l)) (.slice (if cap = l then ad else ad.map (·.add (l * sz))) (r - l) (cap - l)) := by
 obtain ⟨ad', cap', e, hcap, hx, hd⟩ := h.list_inv
 cases e
 have hlen : ((es.take r).drop l).length = r - l := by simp; omega
 by_cases hz : r - l = 0
 ·have : (es.take r).drop l = [] := List.eq_nil_of_length_eq_zero (by omega)
  rw [this, hz]
  refine .rd (.list0 _ _ _ _ fun e => ?_)
  obtain ⟨e1, e2⟩ := hy e
  have := hx e1
  omega
 ·rcases hd with rfl | ⟨b, off, rfl, hC, hsz, vs, hcell, hp, hrd⟩
  ·simp at hr; omega
  ·have hne : ¬ cap = l := by omega
   rw [if_neg hne, ← hlen]
   simp only [Option.map_some, addr_add]
   have get : ∀ i, ((es.take r).drop l)[i]? = if i < r - l then es[l + i]? else none := by
    intro i
    rw [List.getElem?_drop]
    by_cases hi : i < r - l
    ·rw [if_pos hi, List.getElem?_take_of_lt (by omega)]
    ·rw [if_neg hi, List.getElem?_eq_none (by simp; omega)]
   have mul : l * sz + (r - l) * sz ≤ es.length * sz := by rw [← Nat.add_mul]; exact Nat.mul_le_mul_right _ (by omega)
   refine .rd (.list _ _ _ b (off + l * sz) _ (fun i j => vs (l + i) j) (fun e => ?_) (by omega) (fun e he => ?_) (by rw [hlen]; omega) (fun i j hi hj => ?_) (fun i j e d he hd => ?_) (fun i j e d he hd => ?_))
   ·obtain ⟨e1, e2⟩ := hy e
    have := hx e1
    omega
   ·exact hsz e (List.mem_of_mem_take (List.mem_of_mem_drop he))
   ·rw [hlen] at hi
    have := hcell (l + i) j (by omega) hj
    rw [Nat.add_mul] at this
    rw [show off + l * sz + i * sz + j = off + (l * sz + i * sz) + j from by omega]
    exact this
   ·rw [get] at he
    split at he
    ·exact hp _ _ _ _ he hd
    ·cases he
   ·rw [get] at he
    split at he
    ·exact hrd _ _ _ _ he hd
    ·cases he
theorem snd_slice {o : Oper} {t el : TypeId} {x : Operand} {x' : AOpd} {n : Nat} {lo hi : Option Operand} {lo' hi' : Option AOpd} (ho : o.op = .slice t x lo hi none) (hx : compOpd x = some x') (h1 : optOpd lo = some lo') (h2 : optOpd hi = some hi')
  (hu : P.underlying t = some (.slice el)) (hsz : sizeA P el = some n) (hs : SA E C τ ρ H a w) (h : opA P (.slice n x' lo' hi') ρ H K) : OpRes P ((execOp a.eval o).run P w) (Out E ρ a K) := by
 simp only [opA, evK_eq] at h
 have hr := hs.ev hx
 have run : ∀ ad len cap l r, a.eval x = .slice ad len cap → (Instr.sliceBounds true len cap (lo.map a.eval) (hi.map a.eval) none).run P w = .ok (l, r, cap) w →
   (execOp a.eval o).run P w = .ok (.value (.slice (if cap = l then ad else ad.map (·.add (l * n))) (r - l) (cap - l))) w := by
  intro ad len cap l r e hb
  simp only [execOp, ho, e, Instr.sliceAt, Instr.slice, Option.map_none, Sem.run_bind, run_und hu, Result.andThen_ok, hb, run_size hsz, Sem.run_pure]
 split at h
 case h_5 => exact h.elim
 case h_4 id ep off len cap hv =>
  rw [hv] at hr
  simp only [chkA_iff, objK, idxA_iff] at h
  obtain ⟨hsome, ob, hob, h⟩ := h
  split at h
  case h_2 => exact h.elim
  rename_i s es
  simp only [chkA_iff, Nat.beq_eq] at h
  obtain ⟨rfl, hep, h⟩ := h
  obtain ⟨ad, hz, g1, hlc, lc, g2, g3⟩ := hr.slc_inv hob hep
  obtain ⟨l, r, hb0, hlr, hrl, hn, hk⟩ := run_bounds (P := P) hs h1 h2 (Nat.le_refl cap) true h
  have hb : (Instr.sliceBounds true len cap (lo.map a.eval) (hi.map a.eval) none).run P w = .ok (l, r, cap) w := by
   rw [← hb0]
   cases hi with
   | none => simp only [optOpd, Option.some.injEq] at h2; subst h2; cases hsome
   | some y => cases lo <;> rfl
  rw [run _ _ _ l r hz hb]
  refine out_same hs hk (.slc _ _ _ _ _ _ _ _ hob (by omega) fun _ => ?_)
  refine ⟨by omega, by omega, lc, g2, ?_⟩
  by_cases hcl : cap = l
  ·exact .inl (by omega)
  ·rcases g3 with g3 | rfl
   ·omega
   ·refine .inr ?_
    rw [if_neg hcl]
    simp only [Option.map_some, addr_add]
    rw [Nat.add_mul]
 case h_1 hv =>
  rw [hv] at hr
  obtain ⟨l, r, hb, hlr, hrl, _, hk⟩ := run_bounds (P := P) hs h1 h2 (Nat.le_refl 0) true h
  rw [run none 0 0 l r hr.nil_inv hb]
  have : l = 0 := by omega
  have : r = 0 := by omega
  subst l r
  exact out_same hs hk (.rd .nil)
 case h_2 ex s es hv =>
  rw [hv] at hr
  simp only [chkA_iff, Nat.beq_eq] at h
  obtain ⟨rfl, h⟩ := h
  obtain ⟨ad, cap, e, hcap, _⟩ := hr.list_inv
  rw [e] at hr
  obtain ⟨l, r, hb, hlr, hrl, hn, hk⟩ := run_bounds (P := P) hs h1 h2 hcap true h
  rw [run _ _ _ l r e hb]
  refine out_same hs hk (Rd.subslice hr hlr hrl _ fun e => ?_)
  simp at e
  exact ⟨e.1, hn (by simp [e.2])⟩
 case h_3 id ep off len hv =>
  rw [hv] at hr
  simp only [objK, idxA_iff] at h
  obtain ⟨ob, hob, h⟩ := h
  split at h
  case h_2 => exact h.elim
  rename_i s es
  simp only [chkA_iff, Nat.beq_eq] at h
  obtain ⟨rfl, hep, h⟩ := h
  obtain ⟨ad, cap, hz, g1, hlc, g3⟩ := hr.sl_inv hob hep
  obtain ⟨l, r, hb, hlr, hrl, hn, hk⟩ := run_bounds (P := P) hs h1 h2 hlc true h
  rw [run _ _ _ l r hz hb]
  refine out_same hs hk (.sl _ _ _ _ _ _ _ _ hob (by omega) fun _ => ?_)
  refine ⟨by omega, by omega, ?_⟩
  rcases g3 with ⟨g, rfl⟩ | ⟨lc, g3, g4, g5⟩
  ·exact .inl ⟨g, by omega⟩
  ·refine .inr ⟨lc, g3, by omega, ?_⟩
   by_cases hcl : cap = l
   ·exact .inl (by omega)
   ·rcases g5 with g5 | rfl
    ·omega
    ·refine .inr ?_
     rw [if_neg hcl]
     simp only [Option.map_some, addr_add]
     rw [Nat.add_mul]
theorem snd_slice00 {o : Oper} {t el : TypeId} {x : Operand} {x' : AOpd} {n : Nat} (ho : o.op = .slice t x none (some (.const (.int .i64 0))) (some (.const (.int .i64 0)))) (hx : compOpd x = some x')
  (hu : P.underlying t = some (.slice el)) (hsz : sizeA P el = some n) (hs : SA E C τ ρ H a w) (h : opA P (.slice00 n x') ρ H K) : OpRes P ((execOp a.eval o).run P w) (Out E ρ a K) := by
 simp only [opA, evK_eq] at h
 have hr := hs.ev hx
 have run : ∀ ad len cap, a.eval x = .slice ad len cap → (execOp a.eval o).run P w = .ok (.value (.slice ad 0 0)) w := by
  intro ad len cap e
  have hb : (Instr.sliceBounds true len cap none (some (.int .i64 0)) (some (.int .i64 0))).run P w = .ok (0, 0, 0) w := by
   simp [Instr.sliceBounds, Instr.sliceBound, asIntOf]
  have h0 : ((none : Option Operand).map a.eval) = none := rfl
  have h1 : ((some (Operand.const (.int .i64 0))).map a.eval) = some (.int .i64 0) := rfl
  simp only [execOp, ho, e, h0, h1, Instr.sliceAt, Instr.slice, Sem.run_bind, run_und hu, Result.andThen_ok, hb, run_size hsz, Sem.run_pure, if_true, Nat.sub_self]
 split at h
 case h_4 => exact h.elim
 case h_1 hv =>
  rw [hv] at hr
  rw [run _ _ _ hr.nil_inv]
  exact out_same hs h (.rd .nil)
 case h_2 hv =>
  rw [hv] at hr
  simp only [chkA_iff, Nat.beq_eq] at h
  obtain ⟨rfl, h⟩ := h
  obtain ⟨ad, cap, e, _⟩ := hr.list_inv
  rw [run _ _ _ e]
  exact out_same hs h (.rd (.list0 _ _ _ _ fun _ => rfl))
 case h_3 hv =>
  rw [hv] at hr
  obtain ⟨ad, cap, e⟩ := hr.sl_slice
  rw [run _ _ _ e]
  exact out_same hs h (.rd (.list0 _ _ _ _ fun _ => rfl))
end
section
variable {E : Env} {P : Program} {C : Nat → Nat} {τ : Nat → Option Loc} {ρ : List AVal} {H : List AObj} {a : Act} {w : World} {K : AVal → List AObj → Prop}
structure SrcA (P : Program) (C : Nat → Nat) (w : World) (τ : Nat → Option Loc) (H : List AObj) (sz : Nat) (x : Value) (es : List (List AVal)) (news : Array Value) : Prop where
 len : ∀ w' : World, (Builtin.lenOf x).run P w' = .ok es.length w'
 size : news.size = es.length * sz
 cells : ∀ w' : World, w'.heap = w.heap → (Builtin.firstCells sz es.length x).run P w' = .ok news w'
 rel : ∀ (i j : Nat) (e : List AVal) (d : AVal), es[i]? = some e → e[j]? = some d → ∃ v, news[i * sz + j]? = some v ∧ Rel C w τ H d v
 one : ∀ v ∈ news.toList, v.oneCell' = true
 esz : ∀ e ∈ es, e.length = sz ∧ ∀ d ∈ e, d.isCell = true
theorem cell_of_heap' {w w' : World} (h : w'.heap = w.heap) (b i : Nat) : w'.cell? ⟨b, i, none⟩ = w.cell? ⟨b, i, none⟩ := cell_heap (by rw [h])
theorem src_of_rows {b base n cap sz : Nat} {es : List (List AVal)} (hn : n = es.length) (hsz : ∀ e ∈ es, e.length = sz)
  (h : ∀ (i j : Nat) (e : List AVal) (d : AVal), es[i]? = some e → e[j]? = some d → d.isCell = true ∧ ∃ v, w.cell? ⟨b, base + (i * sz + j), none⟩ = some v ∧ Rel C w τ H d v) :
  ∃ news, SrcA P C w τ H sz (.slice (some ⟨b, base, none⟩) n cap) es news := by
 subst hn
 have row : ∀ m, m < es.length * sz → ∃ (i j : Nat) (e : List AVal) (d : AVal), m = i * sz + j ∧ j < sz ∧ es[i]? = some e ∧ e[j]? = some d := by
  intro m hm
  have hz : 0 < sz := by
   rcases Nat.eq_zero_or_pos sz with h0 | h0
   ·subst h0; omega
   ·exact h0
  have h1 : m / sz < es.length := Nat.div_lt_of_lt_mul (by rw [Nat.mul_comm]; exact hm)
  have h2 : m % sz < sz := Nat.mod_lt _ hz
  have he : es[m / sz]? = some es[m / sz] := List.getElem?_eq_getElem h1
  have hl := hsz _ (List.mem_of_getElem? he)
  exact ⟨m / sz, m % sz, _, _, by rw [Nat.mul_comm]; exact (Nat.div_add_mod m sz).symm, h2, he, List.getElem?_eq_getElem (by omega)⟩
 let f : Nat → Value := fun m => (w.cell? ⟨b, base + m, none⟩).getD undef
 have hf : ∀ m, m < es.length * sz → w.cell? ⟨b, base + m, none⟩ = some (f m) := by
  intro m hm
  obtain ⟨i, j, e, d, rfl, _, he, hd⟩ := row m hm
  obtain ⟨_, v, hv, _⟩ := h i j e d he hd
  simp only [f, hv, Option.getD_some]
 refine ⟨((List.range (es.length * sz)).map f).toArray, fun w' => rfl, by simp, fun w' hw' => ?_, fun i j e d he hd => ?_, fun v hv => ?_, fun e he => ⟨hsz e he, fun d hd => ?_⟩⟩
 ·have := run_loadCells (P := P) w' ⟨b, base, none⟩ (es.length * sz) f (fun j hj => by rw [addr_add, cell_of_heap' hw']; exact hf j hj)
  simpa [Builtin.firstCells] using this
 ·have hi := (List.getElem?_eq_some_iff.1 he).1
  have hj := (List.getElem?_eq_some_iff.1 hd).1
  have hl := hsz _ (List.mem_of_getElem? he)
  have hm : i * sz + j < es.length * sz := by
   have h1 : (i + 1) * sz ≤ es.length * sz := Nat.mul_le_mul_right _ hi
   rw [Nat.add_mul] at h1; omega
  obtain ⟨_, v, hv, hr⟩ := h i j e d he hd
  refine ⟨v, ?_, hr⟩
  simp only [List.getElem?_toArray, List.getElem?_map, List.getElem?_range hm, Option.map_some, f, hv, Option.getD_some]
 ·simp only [List.mem_map, List.mem_range] at hv
  obtain ⟨m, hm, rfl⟩ := hv
  obtain ⟨i, j, e, d, rfl, _, he, hd⟩ := row m hm
  obtain ⟨hc, v, hv, hr⟩ := h i j e d he hd
  simp only [f, hv, Option.getD_some]
  exact hr.plain hc
 ·obtain ⟨i, hi, rfl⟩ := List.getElem_of_mem he
  obtain ⟨j, hj, rfl⟩ := List.getElem_of_mem hd
  exact (h i j _ _ (List.getElem?_eq_getElem hi) (List.getElem?_eq_getElem hj)).1
theorem src_empty {ad : Option Addr} {cap sz : Nat} : SrcA P C w τ H sz (.slice ad 0 cap) [] #[] :=
 ⟨fun _ => rfl, by simp, fun w' _ => by
  cases ad with
  | none => simp [Builtin.firstCells]
  | some ad => simp [Builtin.firstCells, loadCells, loadCellsFrom], fun i j e d he => by simp at he, fun v hv => by simp at hv, fun e he => by simp at he⟩
theorem src_list {x : Bool} {sz : Nat} {es : List (List AVal)} {u : Value} (h : Rel C w τ H (.list x sz es) u) : ∃ news, SrcA P C w τ H sz u es news := by
 obtain ⟨ad, cap, rfl, hcap, hx, hd⟩ := h.list_inv
 rcases hd with rfl | ⟨b, off, rfl, hC, hsz, vs, hcell, hp, hrd⟩
 ·exact ⟨_, src_empty⟩
 ·refine src_of_rows rfl hsz fun i j e d he hd => ⟨hp i j e d he hd, vs i j, ?_, .rd (hrd i j e d he hd)⟩
  have hl := hsz _ (List.mem_of_getElem? he)
  rw [← hcell i j (List.getElem?_eq_some_iff.1 he).1 (by have := (List.getElem?_eq_some_iff.1 hd).1; omega), Nat.add_assoc]
theorem src_sl (hw : WF C τ H w) {id ep off len esz : Nat} {es : List (List AVal)} {u : Value} (h : Rel C w τ H (.sl id ep off len) u) (ho : H[id]? = some (.arr esz es)) (hep : ep = es.length) :
  ∃ news, SrcA P C w τ H esz u ((es.drop off).take len) news := by
 obtain ⟨ad, cap, rfl, h1, h2, h3⟩ := h.sl_inv ho hep
 have hlen : ((es.drop off).take len).length = len := by simp; omega
 by_cases hz : len = 0
 ·subst hz
  simp only [List.take_zero]
  exact ⟨_, src_empty⟩
 ·rcases h3 with ⟨_, hc⟩ | ⟨l, hl, hl2, hl3⟩
  ·omega
  ·rcases hl3 with hc | rfl
   ·omega
   ·have get : ∀ i, ((es.drop off).take len)[i]? = if i < len then es[off + i]? else none := by
     intro i
     by_cases hi : i < len
     ·rw [if_pos hi, List.getElem?_take_of_lt hi, List.getElem?_drop]
     ·rw [if_neg hi, List.getElem?_eq_none (by simp; omega)]
    have hok := hw.ok id _ ho
    refine src_of_rows hlen.symm (fun e he => (hok e (List.mem_of_mem_drop (List.mem_of_mem_take he))).1) fun i j e d he hd => ?_
    rw [get] at he
    split at he
    ·have := hw.reads ho hl he j d hd
     obtain ⟨h5, v, h6, h7⟩ := this
     refine ⟨h5, v, ?_, h7⟩
     rw [← h6, Nat.add_mul, Nat.add_assoc]
    ·cases he
theorem src_str {s : ByteArray} : SrcA P C w τ H 1 (.string s) (byteCells s.data.toList) (s.data.map fun b => .int .u8 b.toNat) := by
 have hl : (byteCells s.data.toList).length = s.size := by simp [byteCells]
 refine ⟨fun w' => by rw [hl]; rfl, by rw [hl]; simp, fun w' _ => ?_, fun i j e d he hd => ?_, fun v hv => ?_, fun e he => ?_⟩
 ·rw [hl]
  have : (s.extract 0 s.size) = s := by
   apply ByteArray.ext
   apply Array.ext'
   rw [Lib.extract_data]
   simp only [List.drop_zero]
   exact List.take_of_length_le (Nat.le_of_eq (Array.length_toList.trans rfl))
  simp [Builtin.firstCells, this]
 ·simp only [byteCells, List.getElem?_map, Option.map_eq_some_iff] at he
  obtain ⟨b, hb, rfl⟩ := he
  cases j with
  | zero =>
   simp at hd; subst hd
   have hb' : s.data[i]? = some b := by rw [← Array.getElem?_toList]; exact hb
   exact ⟨.int .u8 b.toNat, by simp [hb'], .rd (.int _ _)⟩
  | succ j => simp at hd
 ·simp only [Array.toList_map, List.mem_map] at hv
  obtain ⟨b, _, rfl⟩ := hv
  rfl
 ·simp only [byteCells, List.mem_map] at he
  obtain ⟨b, _, rfl⟩ := he
  exact ⟨rfl, fun d hd => by simp at hd; subst hd; rfl⟩
theorem content_src (hw : WF C τ H w) {sz : Nat} {x : AVal} {u : Value} {k : List (List AVal) → Prop} (hr : Rel C w τ H x u) (h : contentK H sz x k) :
  ∃ es news, k es ∧ SrcA P C w τ H sz u es news := by
 unfold contentK at h
 split at h
 case h_1 => cases hr.nil_inv; exact ⟨[], _, h, src_empty⟩
 case h_2 =>
  simp only [chkA_iff, Nat.beq_eq] at h
  obtain ⟨rfl, h⟩ := h
  obtain ⟨news, hn⟩ := src_list (P := P) hr
  exact ⟨_, news, h, hn⟩
 case h_3 =>
  simp only [objK, idxA_iff] at h
  obtain ⟨ob, hob, h⟩ := h
  split at h
  case h_2 => exact h.elim
  simp only [chkA_iff, Nat.beq_eq] at h
  obtain ⟨rfl, hep, h⟩ := h
  obtain ⟨news, hn⟩ := src_sl (P := P) hw hr hob hep
  exact ⟨_, news, h, hn⟩
 case h_4 =>
  simp only [chkA_iff, Nat.beq_eq] at h
  obtain ⟨rfl, h⟩ := h
  cases hr.str_inv
  exact ⟨_, _, h, src_str⟩
 case h_5 => exact h.elim
theorem bytesOf_cells : ∀ (es : List (List AVal)) (l : List UInt8), bytesOf es = some l → es.length = l.length ∧ ∃ ns : List Int, ns.map (fun n => UInt8.ofNat n.toNat) = l ∧ es = ns.map fun n => [.int .u8 n]
 | [], l, h => by simp only [bytesOf, Option.some.injEq] at h; subst h; exact ⟨rfl, [], rfl, rfl⟩
 | e :: r, l, h => by
  unfold bytesOf at h
  split at h
  ·rename_i heq; cases heq
  ·rename_i n r' heq
   cases heq
   simp only [Option.map_eq_some_iff] at h
   obtain ⟨l', h', rfl⟩ := h
   obtain ⟨h1, ns, h2, h3⟩ := bytesOf_cells r l' h'
   exact ⟨by simp [h1], n :: ns, by simp [h2], by simp [h3]⟩
  ·cases h
theorem foldl_push (ns : List Int) : ∀ (s : ByteArray), (ns.foldl (fun r n => r.push (UInt8.ofNat n.toNat)) s).data.toList = s.data.toList ++ ns.map (fun n => UInt8.ofNat n.toNat) := by
 induction ns with
 | nil => intro s; simp
 | cons n ns ih =>
  intro s
  rw [List.foldl_cons, ih]
  simp [ByteArray.push]
theorem snd_convBS {o : Oper} {s d el : TypeId} {x : Operand} {x' : AOpd} (ho : o.op = .convert s d x) (hx : compOpd x = some x') (h1 : P.underlying s = some (.slice el)) (h2 : P.underlying d = some .string)
  (hb : P.underlying el = some (.int .u8)) (hs : SA E C τ ρ H a w) (h : opA P (.convBS x') ρ H K) : OpRes P ((execOp a.eval o).run P w) (Out E ρ a K) := by
 simp only [opA, evK_eq] at h
 have hr := hs.ev hx
 have run : ∀ ad n cap, a.eval x = .slice ad n cap → (execOp a.eval o).run P w = ((Conv.bytesToString (.slice ad n cap)).run P w).andThen fun v w' => .ok (.value v) w' := by
  intro ad n cap e
  simp only [execOp, ho, e, convert, Sem.run_bind, run_und h1, run_und h2, Result.andThen_ok]
  cases ad <;> simp [run_und hb]
 have main : ∀ v : AVal, Rel C w τ H v (a.eval x) → (∃ ad n cap, a.eval x = .slice ad n cap) → contentK H 1 v (fun es => ∃ l, bytesOf es = some l ∧ K (.str ⟨l.toArray⟩) H) → OpRes P ((execOp a.eval o).run P w) (Out E ρ a K) := by
  rintro v hr ⟨ad, n, cap, e⟩ h
  rw [e] at hr
  obtain ⟨es, news, ⟨l, hl, hk⟩, src⟩ := content_src (P := P) hs.st.wf hr h
  obtain ⟨hlen, ns, hns, hes⟩ := bytesOf_cells es l hl
  rw [run _ _ _ e]
  have hn : n = es.length := by
   have := src.len w
   simp [Builtin.lenOf] at this
   exact this
  have hnews : news = (ns.map (Value.int .u8)).toArray := by
   apply Array.ext'
   apply List.ext_getElem?
   intro i
   have hsz := src.size
   simp only [Nat.mul_one] at hsz
   by_cases hi : i < ns.length
   ·have he : es[i]? = some [.int .u8 ns[i]] := by rw [hes, List.getElem?_map, List.getElem?_eq_getElem hi]; rfl
    obtain ⟨u, hu, hru⟩ := src.rel i 0 _ _ he rfl
    simp only [Nat.mul_one, Nat.add_zero] at hu
    cases hru.int_inv
    rw [Array.getElem?_toList, hu]
    simp [hi]
   ·have : es.length = ns.length := by rw [hes]; simp
    rw [List.getElem?_eq_none (by simp; omega), List.getElem?_eq_none (by simp; omega)]
  have hfin : Rel C w τ H (.str ⟨l.toArray⟩) (.string (ns.foldl (fun r n => r.push (UInt8.ofNat n.toNat)) ByteArray.empty)) := by
   have : ns.foldl (fun r n => r.push (UInt8.ofNat n.toNat)) ByteArray.empty = ⟨l.toArray⟩ := by
    apply ByteArray.ext
    apply Array.ext'
    rw [foldl_push]
    rw [hns]; rfl
   rw [this]
   exact .rd (.str _)
  cases ad with
  | none =>
   have h0 := src.cells w rfl
   simp [Builtin.firstCells] at h0
   have : ns = [] := by
    rw [hnews] at h0
    simpa using h0
   subst this
   simp only [Conv.bytesToString, Sem.run_pure, Result.andThen_ok, OpRes]
   exact out_same hs hk hfin
  | some ad =>
   have hc := src.cells w rfl
   simp only [Builtin.firstCells, Nat.mul_one] at hc
   rw [hnews, ← hn] at hc
   rw [run_bytesToString w ad n cap ns hc]
   exact out_same hs hk hfin
 split at h
 case h_1 hv =>
  rw [hv] at hr
  rw [run _ _ _ hr.nil_inv]
  simp only [Conv.bytesToString, Sem.run_pure, Result.andThen_ok, OpRes]
  exact out_same hs h (.rd (.str _))
 case h_2 hv =>
  rw [hv] at hr
  obtain ⟨ad, cap, e, _⟩ := hr.list_inv
  exact main _ hr ⟨_, _, _, e⟩ (by rw [hv] at h; exact h)
 case h_3 hv =>
  rw [hv] at hr
  obtain ⟨ad, cap, e⟩ := hr.sl_slice
  exact main _ hr ⟨_, _, _, e⟩ (by rw [hv] at h; exact h)
 case h_4 => exact h.elim
theorem run_isNil {op : BinOp} {t el : TypeId} {ad : Option Addr} {n cap : Nat} (hd : P.underlying t = some (.slice el)) (hop : op = .eql ∨ op = .neq) :
  (binOp op t (.slice ad n cap) (.slice none 0 0)).run P w = .ok (.bool (if decide (op = .neq) then !ad.isNone else ad.isNone)) w := by
 have : (Op.equal t (.slice ad n cap) (.slice none 0 0)).run P w = .ok ad.isNone w := by
  show (Op.equalIn (9999 + 1) t (.slice ad n cap) (.slice none 0 0)).run P w = _
  rw [Op.equalIn]
  cases ad <;> simp only [Sem.run_bind, run_und hd, Result.andThen_ok, Sem.run_pure, Option.isNone_none, Option.isNone_some]
 rcases hop with rfl | rfl <;> simp [binOp, this]
theorem snd_isNil {o : Oper} {op : BinOp} {t u el : TypeId} {x y : Operand} {x' : AOpd} (ho : o.op = .binOp op t x y u) (hx : compOpd x = some x') (hy : isNilA y = true) (hd : P.underlying t = some (.slice el)) (hop : op = .eql ∨ op = .neq)
  (hs : SA E C τ ρ H a w) (h : opA P (.isNil (decide (op = .neq)) x') ρ H K) : OpRes P ((execOp a.eval o).run P w) (Out E ρ a K) := by
 simp only [opA, evK_eq] at h
 have hr := hs.ev hx
 have hyn : y = .const (.slice none 0 0) := by
  unfold isNilA at hy
  split at hy
  ·rfl
  ·cases hy
 subst hyn
 have fin : ∀ ad n cap (b : Bool), a.eval x = .slice ad n cap → ad.isNone = b → (match decide (op = .neq) with
   | true => K (.bool (!b)) H
   | false => K (.bool b) H) → OpRes P ((execOp a.eval o).run P w) (Out E ρ a K) := by
  intro ad n cap b e hb hk
  have : (execOp a.eval o).run P w = .ok (.value (.bool (if decide (op = .neq) then !ad.isNone else ad.isNone))) w := by
   have e0 : a.eval (.const (.slice none 0 0)) = .slice none 0 0 := rfl
   simp only [execOp, ho, e, e0, Sem.run_bind, run_eqGuard (v := .slice _ _ _) rfl (by simp), Result.andThen_ok, run_isNil hd hop, Sem.run_pure]
  rw [this, hb]
  rcases hop with rfl | rfl <;> exact out_same hs hk (.rd (.bool _))
 unfold nilK at h
 split at h
 case h_1 hv => rw [hv] at hr; exact fin _ _ _ true hr.nil_inv rfl h
 case h_2 hv =>
  rw [hv] at hr
  obtain ⟨ad, cap, e, hcap, hx1, hd1⟩ := hr.list_inv
  rcases hd1 with rfl | ⟨b, off, rfl, _⟩
  ·cases ad with
   | none => exact fin _ _ _ true e rfl (h.1 rfl)
   | some ad => exact fin _ _ _ false e rfl h.2
  ·exact fin _ _ _ false e rfl h.2
 case h_3 id ep off len hv =>
  rw [hv] at hr
  simp only [objK, idxA_iff] at h
  obtain ⟨ob, hob, h⟩ := h
  split at h
  case h_2 => exact h.elim
  simp only [chkA_iff, Nat.beq_eq] at h
  obtain ⟨hep, h1, h2⟩ := h
  obtain ⟨ad, cap, e, _, h3, h4⟩ := hr.sl_inv hob hep
  cases ad with
  | none =>
   refine fin _ _ _ true e rfl (h1 ?_)
   rcases h4 with ⟨_, h4⟩ | ⟨l, _, _, h4 | h4⟩
   ·omega
   ·omega
   ·cases h4
  | some ad => exact fin _ _ _ false e rfl h2
 case h_4 => exact h.elim
end
end Go.AW
