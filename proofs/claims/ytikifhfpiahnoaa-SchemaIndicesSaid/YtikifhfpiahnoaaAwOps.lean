/-
  The operations of the abstract machine, and what each asks (in continuation form), and the translation of the model's code into it.
  No condition: definitions.
-/
import Derived.Test.YtikifhfpiahnoaaAwMem
namespace Go.AW

inductive AOpd where
  | t (n : Nat)
  | c (v : AVal)
  deriving Inhabited

/-- Operations: the types are resolved (sizes, zero values). -/
inductive AOp where
  | move (x : AOpd)
  | pick (c a b : AOpd)
  | alloc (zero : List AVal)
  | box (x : AOpd)
  | build (zero : List AVal) (parts : List (Nat × Nat × AOpd))
  | buildSlice (sz len : Nat) (zero : List AVal) (parts : List (Nat × AOpd))
  | buildSliceO (sz len : Nat) (zero : List AVal) (parts : List (Nat × AOpd))
  | load (ag : Bool) (sz : Nat) (x : AOpd)
  | store (sz : Nat) (x v : AOpd)
  | bin (op : BinOp) (x y : AOpd)
  | eqb (neg : Bool) (x y : AOpd)
  | eqs (neg : Bool) (ks : List Nat) (x y : AOpd)
  | un (op : UnOp) (x : AOpd)
  | conv (k : IntKind) (x : AOpd)
  | convBS (x : AOpd)
  | convSB (x : AOpd)
  | mkSlice (sz bytes : Nat) (zero : List AVal) (len cap : AOpd)
  | slice (sz : Nat) (x : AOpd) (lo hi : Option AOpd)
  | sliceStr (x : AOpd) (lo hi : Option AOpd)
  | fieldAddr (off : Nat) (x : AOpd)
  | field (ag : Bool) (off sz : Nat) (x : AOpd)
  | indexAddr (sz : Nat) (x i : AOpd)
  | indexStr (x i : AOpd)
  | extract (x : AOpd) (i : Nat)
  | call (f : FuncId) (args : List AOpd)
  | callv (x : AOpd) (args : List AOpd)
  | callE (f : FuncId) (args : List AOpd)
  | callvE (x : AOpd) (args : List AOpd)
  | makeFunc (f : FuncId) (caps : List AOpd)
  | len (x : AOpd)
  | lenS (x : AOpd)
  | convSS (x : AOpd)
  | append (sz bytes : Nat) (zero : List AVal) (x y : AOpd)
  | mn (x y : AOpd)
  | mx (x y : AOpd)
  | range (x : AOpd)
  | next (x : AOpd)
  | nop (x : AOpd)
  | mark (x : AOpd)
  | slice00 (sz : Nat) (x : AOpd)
  | isNil (neg : Bool) (x : AOpd)
  deriving Inhabited

/-- One operation with its place, and its guard: the slot that must hold this bool. -/
structure AIns where
  dst : Option Nat
  op : AOp
  guard : Option (Option Nat × Bool) := none

inductive ACode where
  | skip
  | region (ops : List AIns)
  | draw (ops : List (AIns × List Nat))
  | seq (a b : ACode)
  | cond (c : AOpd) (a b : ACode)
  | block (id : Nat) (body : ACode)
  | loop (body : ACode)
  | exit (id : Nat)
  | ret
  | ghost
  | stuck

inductive AExit where
  | normal
  | exit (id : Nat)
  | ret

/-- Operations that leave the heap alone and have one value. -/
def AOp.quiet : AOp → Bool
  | .move _ | .pick _ _ _ | .build _ _ | .buildSlice _ _ _ _ | .load _ _ _ | .bin _ _ _ | .eqb _ _ _ | .eqs _ _ _ _ | .un _ _ | .conv _ _ | .convBS _ | .slice _ _ _ _ | .sliceStr _ _ _
  | .fieldAddr _ _ | .field _ _ _ _ | .indexAddr _ _ _ | .indexStr _ _ | .extract _ _ | .call _ _ | .callv _ _ | .makeFunc _ _ | .len _ | .lenS _ | .convSS _ | .mn _ _ | .mx _ _ | .nop _ | .slice00 _ _ => true
  | _ => false

/-- Operations that never look at the heap. -/
def AOp.free : AOp → Bool
  | .move _ | .pick _ _ _ | .build _ _ | .buildSlice _ _ _ _ | .bin _ _ _ | .eqb _ _ _ | .eqs _ _ _ _ | .un _ _ | .conv _ _ | .sliceStr _ _ _
  | .fieldAddr _ _ | .field _ _ _ _ | .indexStr _ _ | .extract _ _ | .makeFunc _ _ | .lenS _ | .convSS _ | .mn _ _ | .mx _ _ | .nop _ => true
  | _ => false

/-- Operations with one value and one heap behind them. -/
def AOp.effect : AOp → Bool
  | .alloc _ | .box _ | .buildSliceO _ _ _ _ | .store _ _ _ | .convSB _ | .mkSlice _ _ _ _ _ | .callE _ _ | .callvE _ _ | .append _ _ _ _ _ => true
  | _ => false

/-! ### Continuations -/

/-- The value in a slot. -/
def getK (l : List AVal) (n : Nat) (k : AVal → Prop) : Prop :=
  @List.rec AVal (fun _ => Nat → (AVal → Prop) → Prop) (fun _ k => k .undef)
    (fun x _ ih n k => @Nat.rec (fun _ => Prop) (k x) (fun m _ => ih m k) n) l n k

def getT : List AVal → Nat → AVal
  | [], _ => .undef
  | x :: _, 0 => x
  | _ :: xs, n + 1 => getT xs n

theorem getK_eq : ∀ (l : List AVal) (n : Nat) (k : AVal → Prop), getK l n k = k (getT l n)
  | [], _, _ => rfl
  | _ :: _, 0, _ => rfl
  | _ :: xs, n + 1, k => getK_eq xs n k

def setT : List AVal → Nat → AVal → List AVal
  | [], _, _ => []
  | _ :: xs, 0, v => v :: xs
  | x :: xs, n + 1, v => x :: setT xs n v

/-- A slot is written. -/
def setK (l : List AVal) (n : Nat) (v : AVal) (k : List AVal → Prop) : Prop :=
  @List.rec AVal (fun _ => Nat → (List AVal → Prop) → Prop) (fun _ k => k [])
    (fun x xs ih n k => @Nat.rec (fun _ => Prop) (k (v :: xs)) (fun m _ => ih m fun xs' => k (x :: xs')) n) l n k

theorem setK_eq : ∀ (l : List AVal) (n : Nat) (v : AVal) (k : List AVal → Prop), setK l n v k = k (setT l n v)
  | [], _, _, _ => rfl
  | _ :: _, 0, _, _ => rfl
  | x :: xs, n + 1, v, k => setK_eq xs n v fun xs' => k (x :: xs')

/-- A list's cells, one by one. -/
def forceK (l : List AVal) (k : List AVal → Prop) : Prop :=
  @List.rec AVal (fun _ => (List AVal → Prop) → Prop) (fun k => k []) (fun x _ ih k => ih fun xs' => k (x :: xs')) l k

theorem forceK_eq : ∀ (l : List AVal) (k : List AVal → Prop), forceK l k = k l
  | [], _ => rfl
  | x :: xs, k => forceK_eq xs fun xs' => k (x :: xs')

def ev (ρ : List AVal) : AOpd → AVal
  | .t n => getT ρ n
  | .c v => v

def evK (ρ : List AVal) (o : AOpd) (k : AVal → Prop) : Prop :=
  match o with
  | .t n => getK ρ n k
  | .c v => k v

theorem evK_eq (ρ : List AVal) (o : AOpd) (k : AVal → Prop) : evK ρ o k = k (ev ρ o) := by
  cases o with
  | t n => exact getK_eq _ _ _
  | c v => rfl

def evsK (ρ : List AVal) (os : List AOpd) (k : List AVal → Prop) : Prop :=
  @List.rec AOpd (fun _ => (List AVal → Prop) → Prop) (fun k => k []) (fun o _ ih k => evK ρ o fun v => ih fun vs => k (v :: vs)) os k

theorem evsK_eq (ρ : List AVal) : ∀ (os : List AOpd) (k : List AVal → Prop), evsK ρ os k = k (os.map (ev ρ))
  | [], _ => rfl
  | o :: os, k => by
    have : evsK ρ (o :: os) k = evK ρ o fun v => evsK ρ os fun vs => k (v :: vs) := rfl
    rw [this, evK_eq, evsK_eq ρ os, List.map_cons]

/-- A case on a bool: the walk stops here where it is not known. -/
def condA (b : Bool) (k : Bool → Prop) : Prop := @Bool.rec (fun _ => Prop) (k false) (k true) b

theorem recA {b : Bool} {p q : Prop} (ht : b = true → p) (hf : b = false → q) : @Bool.rec (fun _ => Prop) q p b := by
  cases b
  · exact hf rfl
  · exact ht rfl

theorem recT {b : Bool} {p q : Prop} (hb : b = true) (h : p) : @Bool.rec (fun _ => Prop) q p b := by subst hb; exact h
theorem recF {b : Bool} {p q : Prop} (hb : b = false) (h : q) : @Bool.rec (fun _ => Prop) q p b := by subst hb; exact h
theorem recO {α : Type} {o : Option α} {q : Prop} {k : α → Prop} {e : α} (ho : o = some e) (h : k e) : @Option.rec α (fun _ => Prop) q (fun e => k e) o := by subst ho; exact h

theorem condA_eq (b : Bool) (k : Bool → Prop) : condA b k = k b := by cases b <;> rfl
theorem condA_intro {b : Bool} {k : Bool → Prop} (ht : b = true → k true) (hf : b = false → k false) : condA b k := by
  cases b
  · exact hf rfl
  · exact ht rfl

/-- Must be so. -/
def chkA (b : Bool) (p : Prop) : Prop := @Bool.rec (fun _ => Prop) False p b

theorem chkA_iff (b : Bool) (p : Prop) : chkA b p ↔ b = true ∧ p := by cases b <;> simp [chkA]
theorem chkA_intro {b : Bool} {p : Prop} (h : b = true) (hp : p) : chkA b p := (chkA_iff b p).2 ⟨h, hp⟩

/-- The element with this index. -/
def idxA {α : Type} (l : List α) (i : Nat) (k : α → Prop) : Prop := @Option.rec α (fun _ => Prop) False (fun e => k e) l[i]?

theorem idxA_iff {α : Type} (l : List α) (i : Nat) (k : α → Prop) : idxA l i k ↔ ∃ e, l[i]? = some e ∧ k e := by
  unfold idxA; cases l[i]? <;> simp
theorem idxA_intro {α : Type} {l : List α} {i : Nat} {k : α → Prop} {e : α} (h : l[i]? = some e) (hk : k e) : idxA l i k := (idxA_iff l i k).2 ⟨e, h, hk⟩

def toCells : AVal → Option (List AVal)
  | .agg cs => some cs
  | .undef | .tuple _ => none
  | v => some [v]

def mkVal (ag : Bool) (cs : List AVal) : AVal :=
  match ag with
  | true => .agg cs
  | false => match cs with
    | c :: _ => c
    | [] => .undef

/-- n cells from place i on, put over those of l. -/
def putCells : List AVal → Nat → List AVal → List AVal
  | l, _, [] => l
  | l, i, v :: vs => putCells (setT l i v) (i + 1) vs

/-- An object is appended: its number, the new heap. -/
def snocK (H : List AObj) (o : AObj) (n : Nat) (k : Nat → List AObj → Prop) : Prop :=
  @List.rec AObj (fun _ => Nat → (Nat → List AObj → Prop) → Prop) (fun n k => k n [o])
    (fun x _ ih n k => ih (n + 1) fun i xs' => k i (x :: xs')) H n k

theorem snocK_eq : ∀ (H : List AObj) (o : AObj) (n : Nat) (k : Nat → List AObj → Prop), snocK H o n k = k (n + H.length) (H ++ [o])
  | [], _, _, _ => rfl
  | x :: xs, o, n, k => by
    have : snocK (x :: xs) o n k = snocK xs o (n + 1) fun i xs' => k i (x :: xs') := rfl
    simp only [this, snocK_eq xs, List.length_cons, List.cons_append]
    rw [show n + 1 + xs.length = n + (xs.length + 1) from by omega]

def objK (H : List AObj) (id : Nat) (k : AObj → Prop) : Prop := idxA H id k

def setO (H : List AObj) (n : Nat) (o : AObj) (k : List AObj → Prop) : Prop :=
  @List.rec AObj (fun _ => Nat → (List AObj → Prop) → Prop) (fun _ k => k [])
    (fun x xs ih n k => @Nat.rec (fun _ => Prop) (k (o :: xs)) (fun m _ => ih m fun xs' => k (x :: xs')) n) H n k

theorem setO_eq : ∀ (H : List AObj) (n : Nat) (o : AObj) (k : List AObj → Prop), setO H n o k = k (H.set n o)
  | [], _, _, _ => rfl
  | _ :: _, 0, _, _ => rfl
  | x :: xs, n + 1, o, k => setO_eq xs n o fun xs' => k (x :: xs')

/-- The element that a pointer points into. -/
def elemA (es : List (List AVal)) (ep idx : Nat) (k : List AVal → Prop) : Prop := chkA (Nat.beq ep es.length) (idxA es idx k)

theorem elemA_iff (es : List (List AVal)) (ep idx : Nat) (k : List AVal → Prop) : elemA es ep idx k ↔ ep = es.length ∧ ∃ e, es[idx]? = some e ∧ k e := by
  simp only [elemA, chkA_iff, idxA_iff, Nat.beq_eq]
theorem elemA_intro {es : List (List AVal)} {ep idx : Nat} {k : List AVal → Prop} {e : List AVal} (h : ep = es.length) (he : es[idx]? = some e) (hk : k e) : elemA es ep idx k :=
  (elemA_iff es ep idx k).2 ⟨h, e, he, hk⟩

/-- The elements with one of them changed; of a single one the walk writes the result out. -/
def setEs (es : List (List AVal)) (i : Nat) (e : List AVal) : List (List AVal) :=
  match es with
  | [_] => (match i with | 0 => [e] | _ => es)
  | _ => es.set i e

theorem setEs_eq (es : List (List AVal)) (i : Nat) (e : List AVal) : setEs es i e = es.set i e := by
  unfold setEs
  split
  · cases i <;> simp
  · rfl

/-- An element is put in, the list written out. -/
def setEK (l : List (List AVal)) (n : Nat) (e : List AVal) (k : List (List AVal) → Prop) : Prop :=
  @List.rec (List AVal) (fun _ => Nat → (List (List AVal) → Prop) → Prop) (fun _ k => k [])
    (fun x xs ih n k => @Nat.rec (fun _ => Prop) (k (e :: xs)) (fun m _ => ih m fun xs' => k (x :: xs')) n) l n k

theorem setEK_eq : ∀ (l : List (List AVal)) (n : Nat) (e : List AVal) (k : List (List AVal) → Prop), setEK l n e k = k (l.set n e)
  | [], _, _, _ => rfl
  | _ :: _, 0, _, _ => rfl
  | x :: xs, n + 1, e, k => setEK_eq xs n e fun xs' => k (x :: xs')

def bytesOf : List (List AVal) → Option (List UInt8)
  | [] => some []
  | [.int .u8 n] :: r => (bytesOf r).map (UInt8.ofNat n.toNat :: ·)
  | _ => none

def byteCells (l : List UInt8) : List (List AVal) := l.map fun b => [.int .u8 b.toNat]

/-- The elements of a slice or a string, as they stand. 'sz': the size of an element. -/
def contentK (H : List AObj) (sz : Nat) (x : AVal) (k : List (List AVal) → Prop) : Prop :=
  match x with
  | .nil => k []
  | .list _ s es => chkA (Nat.beq s sz) (k es)
  | .sl id ep off len => objK H id fun o => match o with
    | .arr s es => chkA (Nat.beq s sz) (chkA (Nat.beq ep es.length) (k ((es.drop off).take len)))
    | _ => False
  | .str s => chkA (Nat.beq 1 sz) (k (byteCells s.data.toList))
  | _ => False

def binV (op : BinOp) (x y : AVal) (k : AVal → Prop) : Prop :=
  match x, y with
  | .int kx a, .int ky b =>
    match op with
    | .shl => 0 ≤ b ∧ k (.int kx (kx.wrap (a * 2 ^ (min b.toNat kx.bits))))
    | .shr => 0 ≤ b ∧ k (.int kx (a.fdiv (2 ^ (min b.toNat kx.bits))))
    | op => chkA (decide (kx = ky)) <| match op with
      | .add => k (.int kx (kx.wrap (a + b)))
      | .sub => k (.int kx (kx.wrap (a - b)))
      | .mul => k (.int kx (kx.wrap (a * b)))
      | .quo => b ≠ 0 ∧ k (.int kx (kx.wrap (a.tdiv b)))
      | .rem => b ≠ 0 ∧ k (.int kx (a.tmod b))
      | .and => k (.int kx (kx.wrap (BitVec.ofInt kx.bits a &&& BitVec.ofInt kx.bits b).toNat))
      | .or => k (.int kx (kx.wrap (BitVec.ofInt kx.bits a ||| BitVec.ofInt kx.bits b).toNat))
      | .xor => k (.int kx (kx.wrap (BitVec.ofInt kx.bits a ^^^ BitVec.ofInt kx.bits b).toNat))
      | .andNot => k (.int kx (kx.wrap (BitVec.ofInt kx.bits a &&& ~~~ BitVec.ofInt kx.bits b).toNat))
      | .eql => k (.bool (a == b))
      | .neq => k (.bool (a != b))
      | .lss => k (.bool (decide (a < b)))
      | .leq => k (.bool (decide (a ≤ b)))
      | .gtr => k (.bool (decide (a > b)))
      | .geq => k (.bool (decide (a ≥ b)))
      | _ => False
  | .str a, .str b =>
    match op with
    | .add => a.size + b.size ≤ 2 ^ 62 ∧ k (.str (a ++ b))
    | .eql => k (.bool (a.data.toList == b.data.toList))
    | .neq => k (.bool (!(a.data.toList == b.data.toList)))
    | .lss => k (.bool (Op.bytesLess a.data.toList b.data.toList))
    | .leq => k (.bool (Op.bytesLess a.data.toList b.data.toList || a.data.toList == b.data.toList))
    | .gtr => k (.bool (!(Op.bytesLess a.data.toList b.data.toList || a.data.toList == b.data.toList)))
    | .geq => k (.bool (!(Op.bytesLess a.data.toList b.data.toList)))
    | _ => False
  | _, _ => False

/-- Equality of scalar cells: of bools (0), integers (1), strings (2). -/
def eqCell : Nat → AVal → AVal → Option Bool
  | 0, .bool a, .bool b => some (a == b)
  | 1, .int k a, .int k' b => if k = k' then some (a == b) else none
  | 2, .str a, .str b => some (a.data.toList == b.data.toList)
  | _, _, _ => none

def eqCellsM : List Nat → List AVal → List AVal → (Bool → Prop) → Prop
  | [], [], [], k => k true
  | n :: ns, x :: xs, y :: ys, k => match eqCell n x y with
    | some b => eqCellsM ns xs ys fun c => k (b && c)
    | none => False
  | _, _, _, _ => False

def eqCells (ns : List Nat) (xs ys : List AVal) (k : Bool → Prop) : Prop :=
  @List.rec Nat (fun _ => List AVal → List AVal → (Bool → Prop) → Prop)
    (fun xs ys k => match xs, ys with
      | [], [] => k true
      | _, _ => False)
    (fun n _ ih xs ys k => match xs, ys with
      | x :: xs, y :: ys => match eqCell n x y with
        | some b => ih xs ys fun c => k (b && c)
        | none => False
      | _, _ => False) ns xs ys k

theorem eqCells_eqM : ∀ (ns : List Nat) (xs ys : List AVal) (k : Bool → Prop), eqCells ns xs ys k = eqCellsM ns xs ys k
  | [], [], [], _ => rfl
  | [], [], _ :: _, _ => rfl
  | [], _ :: _, _, _ => rfl
  | _ :: _, [], _, _ => rfl
  | _ :: _, _ :: _, [], _ => rfl
  | n :: ns, x :: xs, y :: ys, k => by
    show (match eqCell n x y with
        | some b => eqCells ns xs ys fun c => k (b && c)
        | none => False) = (match eqCell n x y with
        | some b => eqCellsM ns xs ys fun c => k (b && c)
        | none => False)
    cases eqCell n x y with
    | none => rfl
    | some b => exact eqCells_eqM ns xs ys _

def unV (op : UnOp) (x : AVal) (k : AVal → Prop) : Prop :=
  match op, x with
  | .not, .bool b => k (.bool !b)
  | .neg, .int kx n => k (.int kx (kx.wrap (0 - n)))
  | _, _ => False

/-- The bounds of a slice expression: from and to. -/
def boundsK (ρ : List AVal) (lo hi : Option AOpd) (len : Nat) (k : Nat → Nat → Prop) : Prop :=
  match lo, hi with
  | none, none => k 0 len
  | some l, none => evK ρ l fun v => match v with
    | .int _ a => (0 ≤ a ∧ a ≤ len) ∧ k a.toNat len
    | _ => False
  | none, some h => evK ρ h fun v => match v with
    | .int _ b => (0 ≤ b ∧ b ≤ len) ∧ k 0 b.toNat
    | _ => False
  | some l, some h => evK ρ l fun v => evK ρ h fun u => match v, u with
    | .int _ a, .int _ b => (0 ≤ a ∧ a ≤ b ∧ b ≤ len) ∧ k a.toNat b.toNat
    | _, _ => False

def roomB : Nat := 2 ^ 40

/-- Parts are put into the cells of an aggregate. -/
def fillK (ρ : List AVal) (ps : List (Nat × Nat × AOpd)) (cs : List AVal) (k : List AVal → Prop) : Prop :=
  @List.rec (Nat × Nat × AOpd) (fun _ => List AVal → (List AVal → Prop) → Prop) (fun cs k => k cs)
    (fun p _ ih cs k => match p with
      | (off, sz, x) => evK ρ x fun v => match toCells v with
        | some u => chkA (decide (u.length = sz) && decide (off + sz ≤ cs.length)) (ih (putCells cs off u) k)
        | none => False) ps cs k

theorem fillK_nil (ρ : List AVal) (cs : List AVal) (k : List AVal → Prop) : fillK ρ [] cs k = k cs := rfl
theorem fillK_cons (ρ : List AVal) (off sz : Nat) (x : AOpd) (r : List (Nat × Nat × AOpd)) (cs : List AVal) (k : List AVal → Prop) : fillK ρ ((off, sz, x) :: r) cs k =
    evK ρ x fun v => match toCells v with
      | some u => chkA (decide (u.length = sz) && decide (off + sz ≤ cs.length)) (fillK ρ r (putCells cs off u) k)
      | none => False := rfl

/-- Parts are put into a row of elements. -/
def fillSK (ρ : List AVal) (sz : Nat) (ps : List (Nat × AOpd)) (es : List (List AVal)) (k : List (List AVal) → Prop) : Prop :=
  @List.rec (Nat × AOpd) (fun _ => List (List AVal) → (List (List AVal) → Prop) → Prop) (fun es k => k es)
    (fun p _ ih es k => match p with
      | (i, x) => evK ρ x fun v => match toCells v with
        | some u => chkA (decide (u.length = sz) && decide (i < es.length)) (forceK u fun u => setEK es i u fun es' => ih es' k)
        | none => False) ps es k

theorem fillSK_nil (ρ : List AVal) (sz : Nat) (es : List (List AVal)) (k : List (List AVal) → Prop) : fillSK ρ sz [] es k = k es := rfl
theorem fillSK_cons (ρ : List AVal) (sz i : Nat) (x : AOpd) (r : List (Nat × AOpd)) (es : List (List AVal)) (k : List (List AVal) → Prop) : fillSK ρ sz ((i, x) :: r) es k =
    evK ρ x fun v => match toCells v with
      | some u => chkA (decide (u.length = sz) && decide (i < es.length)) (forceK u fun u => setEK es i u fun es' => fillSK ρ sz r es' k)
      | none => False := rfl

/-- The run of a call: into a function with a body, or of a library function without one. -/
def CallsX (P : Program) (f : FuncId) (args : Array Value) (w : World) (R : Ending → World → Prop) : Prop :=
  match (callFunc f args).run P w with
  | .ok (.enter g as) w' => Calls P g as w' R
  | .ok (.value v) w' => R (.returned v) w'
  | _ => False

/-- **The contract of a function, on the abstract machine**: called with these values over this heap it returns, with Q. -/
def ACalls (P : Program) (f : FuncId) (args : List AVal) (H : List AObj) (Q : AVal → List AObj → Prop) : Prop :=
  ∀ (C : Nat → Nat) (τ : Nat → Option Loc) (w : World) (vs : Array Value), WF C τ H w → args.length = vs.size →
    (∀ (i : Nat) (a : AVal) (v : Value), args[i]? = some a → vs[i]? = some v → Rel C w τ H a v) →
    CallsX P f vs w fun e w' => ∃ v r C' τ' H', e = .returned v ∧ Q r H' ∧ Rel C' w' τ' H' r v ∧
      St w (PrCall τ H w) C' τ' H' w' ∧ Step C τ H w C' τ' H' w'

/-- Is a slice nil? Of an empty one that is not known. -/
def nilK (H : List AObj) (v : AVal) (k : Bool → Prop) : Prop :=
  match v with
  | .nil => k true
  | .list _ _ es => (es = [] → k true) ∧ k false
  | .sl id ep _ len => objK H id fun o => match o with
    | .arr _ es => chkA (Nat.beq ep es.length) ((len = 0 → k true) ∧ k false)
    | _ => False
  | _ => False

/-- What an operation asks of the slots and the heap, so that K holds of its value and of the heap behind it. -/
def opA (P : Program) (o : AOp) (ρ : List AVal) (H : List AObj) (K : AVal → List AObj → Prop) : Prop :=
  match o with
  | .move x => evK ρ x fun v => K v H
  | .pick c a b => evK ρ c fun v => match v with
    | .bool t => condA t fun t => match t with
      | true => evK ρ a fun u => K u H
      | false => evK ρ b fun u => K u H
    | _ => False
  | .alloc zero => chkA (zero.all AVal.isCell) (snocK H (.arr zero.length [zero]) 0 fun id H' => K (.ptr id 1 0 0) H')
  | .box x => evK ρ x fun v => match toCells v with
    | some cs => chkA (cs.all AVal.isCell) (snocK H (.arr cs.length [cs]) 0 fun id H' => K (.ptr id 1 0 0) H')
    | none => False
  | .build zero parts => fillK ρ parts zero fun cs => forceK cs fun cs => K (.agg cs) H
  | .buildSlice sz len zero parts => fillSK ρ sz parts (List.replicate len zero) fun es =>
      chkA (decide (zero.length = sz) && decide (len * sz ≤ 2 ^ 24) && es.all (fun e => e.all AVal.isPure)) (K (.list true sz es) H)
  | .buildSliceO sz len zero parts => fillSK ρ sz parts (List.replicate len zero) fun es =>
      chkA (decide (zero.length = sz) && decide (len * sz ≤ 2 ^ 24) && es.all (fun e => e.all AVal.isCell)) (snocK H (.arr sz es) 0 fun id H' => K (.sl id es.length 0 es.length) H')
  | .load ag sz x => evK ρ x fun v => match v with
    | .ptr id ep idx fld => objK H id fun o => match o with
      | .arr _ es => elemA es ep idx fun e => chkA (decide (fld + sz ≤ e.length) && (ag || decide (sz = 1))) (forceK ((e.drop fld).take sz) fun cs => K (mkVal ag cs) H)
      | _ => False
    | .cptr e fld => chkA (decide (fld + sz ≤ e.length) && (ag || decide (sz = 1))) (forceK ((e.drop fld).take sz) fun cs => K (mkVal ag cs) H)
    | _ => False
  | .store sz x y => evK ρ x fun v => evK ρ y fun u => match v with
    | .ptr id ep idx fld => match toCells u with
      | some cs => objK H id fun o => match o with
        | .arr z es => elemA es ep idx fun e => chkA (decide (cs.length = sz) && decide (fld + sz ≤ e.length) && cs.all AVal.isCell)
            (forceK (putCells e fld cs) fun e' => setO H id (.arr z (setEs es idx e')) fun H' => K (.tuple []) H')
        | _ => False
      | none => False
    | _ => False
  | .bin op x y => evK ρ x fun v => evK ρ y fun u => binV op v u fun r => K r H
  | .eqb neg x y => evK ρ x fun v => evK ρ y fun u => match v, u with
    | .bool b, .bool c => match neg with
      | true => K (.bool (!(b == c))) H
      | false => K (.bool (b == c)) H
    | _, _ => False
  | .eqs neg ks x y => evK ρ x fun v => evK ρ y fun u => match v, u with
    | .agg xs, .agg ys => eqCells ks xs ys fun b => match neg with
      | true => K (.bool (!b)) H
      | false => K (.bool b) H
    | _, _ => False
  | .un op x => evK ρ x fun v => unV op v fun r => K r H
  | .conv k x => evK ρ x fun v => match v with
    | .int _ n => K (.int k (k.wrap n)) H
    | _ => False
  | .convBS x => evK ρ x fun v => match v with
    | .nil => K (.str ⟨#[]⟩) H
    | .list _ _ _ | .sl _ _ _ _ => contentK H 1 v fun es => ∃ l, bytesOf es = some l ∧ K (.str ⟨l.toArray⟩) H
    | _ => False
  | .convSB x => evK ρ x fun v => match v with
    | .str s => s.size ≤ roomB ∧ snocK H (.arr 1 (byteCells s.data.toList)) 0 fun id H' => K (.sl id s.data.toList.length 0 s.data.toList.length) H'
    | _ => False
  | .mkSlice sz bytes zero len cap => evK ρ len fun v => evK ρ cap fun u => match v, u with
    | .int _ n, .int _ c => (0 ≤ n ∧ n ≤ c ∧ c * bytes ≤ (roomB : Int) ∧ c ≤ (roomB : Int)) ∧ chkA (decide (zero.length = sz) && zero.all AVal.isCell)
        (snocK H (.arr sz (List.replicate n.toNat zero)) 0 fun id H' => K (.sl id n.toNat 0 n.toNat) H')
    | _, _ => False
  | .slice sz x lo hi => evK ρ x fun v => match v with
    | .nil => boundsK ρ lo hi 0 fun _ _ => K .nil H
    | .list ex s es => chkA (Nat.beq s sz) (boundsK ρ lo hi es.length fun a b => K (.list (ex && hi.isNone) s ((es.take b).drop a)) H)
    | .sl id ep off len => objK H id fun o => match o with
      | .arr s es => chkA (Nat.beq s sz) (chkA (Nat.beq ep es.length) (boundsK ρ lo hi len fun a b => K (.sl id ep (off + a) (b - a)) H))
      | _ => False
    | _ => False
  | .sliceStr x lo hi => evK ρ x fun v => match v with
    | .str s => boundsK ρ lo hi s.size fun a b => K (.str (s.extract a b)) H
    | _ => False
  | .fieldAddr off x => evK ρ x fun v => match v with
    | .ptr id ep idx fld => K (.ptr id ep idx (fld + off)) H
    | .cptr e fld => K (.cptr e (fld + off)) H
    | _ => False
  | .field ag off sz x => evK ρ x fun v => match v with
    | .agg cs => chkA (decide (off + sz ≤ cs.length) && (ag || decide (sz = 1))) (forceK ((cs.drop off).take sz) fun cs => K (mkVal ag cs) H)
    | _ => False
  | .indexAddr sz x i => evK ρ x fun v => evK ρ i fun u => match u with
    | .int _ n => match v with
      | .list _ s es => chkA (Nat.beq s sz) (0 ≤ n ∧ idxA es n.toNat fun e => K (.cptr e 0) H)
      | .sl id ep off len => objK H id fun o => match o with
        | .arr s es => chkA (Nat.beq s sz) (chkA (Nat.beq ep es.length) ((0 ≤ n ∧ n < len) ∧ K (.ptr id ep (off + n.toNat) 0) H))
        | _ => False
      | _ => False
    | _ => False
  | .indexStr x i => evK ρ x fun v => evK ρ i fun u => match v, u with
    | .str s, .int _ n => 0 ≤ n ∧ idxA s.data.toList n.toNat fun b => K (.int .u8 b.toNat) H
    | _, _ => False
  | .extract x i => evK ρ x fun v => match v with
    | .tuple vs => idxA vs i fun u => K u H
    | _ => False
  | .call f args => evsK ρ args fun vs => ACalls P f vs H K
  | .callv x args => evK ρ x fun v => evsK ρ args fun vs => match v with
    | .fn f caps => ACalls P f (vs ++ caps) H K
    | _ => False
  | .callE f args => evsK ρ args fun vs => ACalls P f vs H K
  | .callvE x args => evK ρ x fun v => evsK ρ args fun vs => match v with
    | .fn f caps => ACalls P f (vs ++ caps) H K
    | _ => False
  | .makeFunc f caps => evsK ρ caps fun vs => K (.fn f vs) H
  | .len x => evK ρ x fun v => match v with
    | .nil => K (.int .i64 0) H
    | .list _ _ es => K (.int .i64 es.length) H
    | .sl id ep _ len => objK H id fun o => match o with
      | .arr _ es => chkA (Nat.beq ep es.length) (K (.int .i64 len) H)
      | _ => False
    | _ => False
  | .lenS x => evK ρ x fun v => match v with
    | .str s => K (.int .i64 s.size) H
    | _ => False
  | .convSS x => evK ρ x fun v => match v with
    | .str s => K (.str s) H
    | _ => False
  | .append sz bytes zero x y => evK ρ x fun v => evK ρ y fun u => contentK H sz u fun new => chkA (decide (zero.length = sz) && zero.all AVal.isCell) <| match v with
    | .nil => (new.length * bytes ≤ roomB ∧ new.length ≤ roomB) ∧ snocK H (.arr sz new) 0 fun id H' => K (.sl id new.length 0 new.length) H'
    | .list true s es => chkA (Nat.beq s sz) (((es.length + new.length) * bytes ≤ roomB ∧ es.length + new.length ≤ roomB ∧ (new ≠ [] ∨ es = [])) ∧
        snocK H (.arr sz (es ++ new)) 0 fun id H' => K (.sl id (es ++ new).length 0 (es ++ new).length) H')
    | .sl id ep off len => objK H id fun o => match o with
      | .arr s es => chkA (Nat.beq s sz) (chkA (Nat.beq ep es.length) (((len + new.length) * bytes ≤ roomB ∧ len + new.length ≤ roomB ∧ off = 0 ∧ len = es.length) ∧
          setO H id (.arr s (es ++ new)) fun H' => K (.sl id (es ++ new).length 0 (es ++ new).length) H'))
      | _ => False
    | _ => False
  | .mn x y => evK ρ x fun v => evK ρ y fun u => match v, u with
    | .int k a, .int _ b => K (.int k (if b < a then b else a)) H
    | _, _ => False
  | .mx x y => evK ρ x fun v => evK ρ y fun u => match v, u with
    | .int k a, .int _ b => K (.int k (if b > a then b else a)) H
    | _, _ => False
  | .range x => evK ρ x fun v => match v with
    | .str s => snocK H (.iter s 0) 0 fun id H' => K (.it id) H'
    | _ => False
  | .next x => evK ρ x fun v => match v with
    | .it id => objK H id fun o => match o with
      | .iter s pos => condA (decide (pos < s.size)) fun t => match t with
        | true => setO H id (.iter s (pos + (Utf8.decode s pos).2)) fun H' => K (.tuple [.bool true, .int .i64 pos, .int .i32 (Utf8.decode s pos).1]) H'
        | false => K (.tuple [.bool false]) H
      | _ => False
    | _ => False
  | .nop x => evK ρ x fun v => match v with
    | .ptr _ _ _ _ | .cptr _ _ | .fn _ _ => K v H
    | _ => False
  | .slice00 sz x => evK ρ x fun v => match v with
    | .nil => K .nil H
    | .list _ s _ => chkA (Nat.beq s sz) (K (.list true s []) H)
    | .sl _ _ _ _ => K (.list true sz []) H
    | _ => False
  | .isNil neg x => evK ρ x fun v => nilK H v fun b => match neg with
    | true => K (.bool (!b)) H
    | false => K (.bool b) H
  | .mark x => evK ρ x fun v => match v with
    | .sl id ep off len => objK H id fun o => match o with
      | .arr _ es => chkA (Nat.beq ep es.length && decide (0 < len)) (K (.sl id ep off len) H)
      | _ => False
    | _ => False

def putK (ρ : List AVal) (dst : Option Nat) (v : AVal) (k : List AVal → Prop) : Prop :=
  match dst with
  | some d => setK ρ d v k
  | none => k ρ

/-- An operation behind its guard: 'k true' where it is wanted. -/
def guardK (ρ : List AVal) (g : Option (Option Nat × Bool)) (k : List AVal → Bool → Prop) : Prop :=
  match g with
  | none => k ρ true
  | some (some d, want) => getK ρ d fun v => match v with
    | .bool b => condA b fun b => setK ρ d (.bool b) fun ρ' => k ρ' (b == want)
    | .tuple [] => k ρ false
    | _ => False
  | some (none, _) => False

def runA (P : Program) (is : List AIns) : List AVal → List AObj → (List AVal → List AObj → Prop) → Prop :=
  @List.rec AIns (fun _ => List AVal → List AObj → (List AVal → List AObj → Prop) → Prop) (fun ρ H K => K ρ H)
    (fun i _ ih ρ H K => guardK ρ i.guard fun ρ t => match t with
      | true => opA P i.op ρ H fun v H' => putK ρ i.dst v fun ρ' => ih ρ' H' K
      | false => putK ρ i.dst (.tuple []) fun ρ' => ih ρ' H K) is

theorem runA_nil (P : Program) (ρ : List AVal) (H : List AObj) (K : List AVal → List AObj → Prop) : runA P [] ρ H K = K ρ H := rfl
theorem runA_cons (P : Program) (i : AIns) (is : List AIns) (ρ : List AVal) (H : List AObj) (K : List AVal → List AObj → Prop) : runA P (i :: is) ρ H K = guardK ρ i.guard fun ρ t => match t with
    | true => opA P i.op ρ H fun v H' => putK ρ i.dst v fun ρ' => runA P is ρ' H' K
    | false => putK ρ i.dst (.tuple []) fun ρ' => runA P is ρ' H K := rfl

/-- An operation that leaves the heap alone; of a call: it gives one value. -/
def opQ (P : Program) (o : AOp) (ρ : List AVal) (H : List AObj) (k : AVal → Prop) : Prop :=
  match o with
  | .call f args => evsK ρ args fun vs => ∃ r, ACalls P f vs H (fun r' H' => r' = r ∧ H' = H) ∧ k r
  | .callv x args => evK ρ x fun v => evsK ρ args fun vs => match v with
    | .fn f caps => ∃ r, ACalls P f (vs ++ caps) H (fun r' H' => r' = r ∧ H' = H) ∧ k r
    | _ => False
  | o => opA P o ρ H fun v _ => k v

/-- An operation that may change the heap; of a call: it gives one value and one heap. -/
def opE (P : Program) (o : AOp) (ρ : List AVal) (H : List AObj) (k : AVal → List AObj → Prop) : Prop :=
  match o with
  | .callE f args => evsK ρ args fun vs => ∃ r H1, ACalls P f vs H (fun r' H' => r' = r ∧ H' = H1) ∧ k r H1
  | .callvE x args => evK ρ x fun v => evsK ρ args fun vs => match v with
    | .fn f caps => ∃ r H1, ACalls P f (vs ++ caps) H (fun r' H' => r' = r ∧ H' = H1) ∧ k r H1
    | _ => False
  | o => opA P o ρ H k

/-- f holds of the heaps at these places. -/
def checkOne (ps : List Nat) (f : List AObj → Prop) (Hs : List (List AObj)) (k : Prop) : Prop :=
  @List.rec Nat (fun _ => Prop) k (fun p _ ih => idxA Hs p fun H' => f H' ∧ ih) ps

def checkK (cs : List (List Nat × (List AObj → Prop))) (Hs : List (List AObj)) (k : Prop) : Prop :=
  @List.rec (List Nat × (List AObj → Prop)) (fun _ => Prop) k (fun c _ ih => match c with | (ps, f) => checkOne ps f Hs ih) cs

def addC (ps : List Nat) (f : List AObj → Prop) (cs : List (List Nat × (List AObj → Prop))) : List (List Nat × (List AObj → Prop)) :=
  match ps with
  | [] => cs
  | p :: ps => (p :: ps, f) :: cs

/-- A region whose order is open, in the order of the text: what reads must read the same at each heap at which it may come. -/
def runG (P : Program) (is : List (AIns × List Nat)) : List (List Nat × (List AObj → Prop)) → List (List AObj) → List AVal → List AObj → (List AVal → List AObj → Prop) → Prop :=
  @List.rec (AIns × List Nat) (fun _ => List (List Nat × (List AObj → Prop)) → List (List AObj) → List AVal → List AObj → (List AVal → List AObj → Prop) → Prop)
    (fun cs Hs ρ H K => checkK cs (H :: Hs) (K ρ H))
    (fun p _ ih cs Hs ρ H K => match p with
      | (i, ps) => guardK ρ i.guard fun ρ t => match t with
        | true => match i.op.quiet with
          | true => opQ P i.op ρ H fun v => putK ρ i.dst v fun ρ' => ih (addC ps (fun H' => opQ P i.op ρ H' fun v' => v' = v) cs) (H :: Hs) ρ' H K
          | false => opE P i.op ρ H fun v H' => putK ρ i.dst v fun ρ' => ih cs (H :: Hs) ρ' H' K
        | false => putK ρ i.dst (.tuple []) fun ρ' => ih cs (H :: Hs) ρ' H K) is

theorem runG_nil (P : Program) (cs : List (List Nat × (List AObj → Prop))) (Hs : List (List AObj)) (ρ : List AVal) (H : List AObj) (K : List AVal → List AObj → Prop) :
    runG P [] cs Hs ρ H K = checkK cs (H :: Hs) (K ρ H) := rfl
theorem runG_cons (P : Program) (i : AIns) (ps : List Nat) (is : List (AIns × List Nat)) (cs : List (List Nat × (List AObj → Prop))) (Hs : List (List AObj)) (ρ : List AVal) (H : List AObj) (K : List AVal → List AObj → Prop) :
    runG P ((i, ps) :: is) cs Hs ρ H K = guardK ρ i.guard fun ρ t => match t with
        | true => match i.op.quiet with
          | true => opQ P i.op ρ H fun v => putK ρ i.dst v fun ρ' => runG P is (addC ps (fun H' => opQ P i.op ρ H' fun v' => v' = v) cs) (H :: Hs) ρ' H K
          | false => opE P i.op ρ H fun v H' => putK ρ i.dst v fun ρ' => runG P is cs (H :: Hs) ρ' H' K
        | false => putK ρ i.dst (.tuple []) fun ρ' => runG P is cs (H :: Hs) ρ' H K := rfl

/-- No object is named. -/
def AVal.closed : AVal → Bool
  | .agg cs => cs.all AVal.isPure
  | .undef | .tuple _ => false
  | v => v.isPure

def pureEs (es : List (List AVal)) : Bool := es.all fun e => e.all AVal.isPure

/-- A result as the caller gets it. 'ids': the objects that are handed over; n: the number of the first of them at the caller. -/
inductive Pub (H1 : List AObj) (n : Nat) (ids : List Nat) : AVal → AVal → Prop where
  | closed (v : AVal) (h : v.closed = true) : Pub H1 n ids v v
  | frz (id ep off len esz : Nat) (es : List (List AVal)) (ho : H1[id]? = some (.arr esz es)) (hep : ep = es.length) (hp : pureEs es = true) (hid : id ∉ ids) :
      Pub H1 n ids (.sl id ep off len) (.list false esz ((es.drop off).take len))
  | keep (id ep off len k : Nat) (hk : ids[k]? = some id) : Pub H1 n ids (.sl id ep off len) (.sl (n + k) ep off len)
  | tuple (vs rs : List AVal) (hl : vs.length = rs.length) (h : ∀ (i : Nat) (v r : AVal), vs[i]? = some v → rs[i]? = some r → Pub H1 n ids v r) : Pub H1 n ids (.tuple vs) (.tuple rs)
  | dead (v : AVal) : Pub H1 n ids v .undef
  | keepP (id ep idx fld k : Nat) (hk : ids[k]? = some id) : Pub H1 n ids (.ptr id ep idx fld) (.ptr (n + k) ep idx fld)

/-- An object as it is kept: its cells named anew. -/
inductive ObP (H : List AObj) (ids : List Nat) : AObj → AObj → Prop where
  | same (esz : Nat) (es : List (List AVal)) (h : pureEs es = true) : ObP H ids (.arr esz es) (.arr esz es)
  | map (esz : Nat) (es es1 : List (List AVal)) (hl : es1.length = es.length) (hl2 : ∀ (i : Nat) (e e1 : List AVal), es[i]? = some e → es1[i]? = some e1 → e1.length = e.length)
      (h : ∀ (i j : Nat) (e e1 : List AVal) (d d1 : AVal), es[i]? = some e → es1[i]? = some e1 → e[j]? = some d → e1[j]? = some d1 → Pub H 0 ids d d1 ∧ d1.isCell = true) :
      ObP H ids (.arr esz es) (.arr esz es1)
  | iter (s : ByteArray) (p : Nat) : ObP H ids (.iter s p) (.iter s p)

/-- The slots, the objects named anew. -/
def gpS (H : List AObj) (ids : List Nat) : List AVal → List AVal → Prop
  | [], [] => True
  | v :: vs, r :: rs => Pub H 0 ids v r ∧ gpS H ids vs rs
  | _, _ => False

/-- The objects that are kept, in this order. -/
def gpO (H : List AObj) (ids : List Nat) : List Nat → List AObj → Prop
  | [], [] => True
  | id :: is, o1 :: r => (∃ o, H[id]? = some o ∧ ObP H ids o o1) ∧ gpO H ids is r
  | _, _ => False

/-- At a round's end, of a body that began without objects: objects may be dropped, or become lists that never change again. -/
def Gp (n0 : Nat) (ρ : List AVal) (H : List AObj) (I : List AVal → List AObj → Prop) : Prop :=
  I ρ H ∨ (n0 = 0 ∧ ∃ ids ρ1 H1, ids.Nodup ∧ gpO H ids ids H1 ∧ gpS H ids ρ ρ1 ∧ I ρ1 H1)

/-- A place where the walk may regroup. -/
inductive Ghost (n0 : Nat) (ρ : List AVal) (H : List AObj) (I : List AVal → List AObj → Prop) : Prop where
  | mk (h : Gp n0 ρ H I)

/-- Ahead of a loop: nil slices become objects without elements. -/
def nvK (vs : List (Nat × Nat)) (ρ : List AVal) (H : List AObj) (k : List AVal → List AObj → Prop) : Prop :=
  @List.rec (Nat × Nat) (fun _ => List AVal → List AObj → Prop) (fun ρ H => k ρ H)
    (fun p _ ih ρ H => match p with
      | (s, sz) => getK ρ s fun v => match v with
        | .nil => snocK H (.arr sz []) 0 fun id H' => setK ρ s (.sl id 0 0 0) fun ρ' => ih ρ' H'
        | _ => False) vs ρ H

theorem nvK_cons (s sz : Nat) (vs : List (Nat × Nat)) (ρ : List AVal) (H : List AObj) (k : List AVal → List AObj → Prop) : nvK ((s, sz) :: vs) ρ H k =
    getK ρ s fun v => match v with
      | .nil => snocK H (.arr sz []) 0 fun id H' => setK ρ s (.sl id 0 0 0) fun ρ' => nvK vs ρ' H' k
      | _ => False := rfl

/-- **What a piece of code asks**, so that Q holds where it ends. -/
def awp (P : Program) (n0 : Nat) (c : ACode) : (AExit → List AVal → List AObj → Prop) → List AVal → List AObj → Prop :=
  @ACode.rec (fun _ => (AExit → List AVal → List AObj → Prop) → List AVal → List AObj → Prop)
    (fun Q ρ H => Q .normal ρ H)
    (fun ops Q ρ H => runA P ops ρ H (Q .normal))
    (fun ops Q ρ H => runG P ops [] [] ρ H (Q .normal))
    (fun _ _ iha ihb Q ρ H => iha (fun e ρ' H' => match e with
      | .normal => ihb Q ρ' H'
      | .exit id => Q (.exit id) ρ' H'
      | .ret => Q .ret ρ' H') ρ H)
    (fun c _ _ iha ihb Q ρ H => evK ρ c fun v => match v with
      | .bool t => condA t fun t => match t with
        | true => iha Q ρ H
        | false => ihb Q ρ H
      | _ => False)
    (fun id _ ih Q ρ H => ih (fun e ρ' H' => match e with
      | .normal => Q .normal ρ' H'
      | .exit id' => if id' = id then Q .normal ρ' H' else Q (.exit id') ρ' H'
      | .ret => Q .ret ρ' H') ρ H)
    (fun _ ih Q ρ H => ∃ (I : Nat → List AVal → List AObj → Prop) (n : Nat) (vs : List (Nat × Nat)), nvK vs ρ H (I n) ∧ ∀ n1 ρ1 H1, I n1 ρ1 H1 →
      forceK ρ1 fun ρ1 => ih (fun e ρ' H' => match e with
        | .normal => ∃ m, m < n1 ∧ Gp n0 ρ' H' (I m)
        | .exit id => Q (.exit id) ρ' H'
        | .ret => Q .ret ρ' H') ρ1 H1)
    (fun id Q ρ H => Q (.exit id) ρ H)
    (fun Q ρ H => Q .ret ρ H)
    (fun Q ρ H => Ghost n0 ρ H fun ρ1 H1 => forceK ρ1 fun ρ1 => Q .normal ρ1 H1)
    (fun _ _ _ => False) c

section
variable (P : Program) (n0 : Nat) (Q : AExit → List AVal → List AObj → Prop) (ρ : List AVal) (H : List AObj)
theorem awp_skip : awp P n0 .skip Q ρ H = Q .normal ρ H := rfl
theorem awp_region (ops : List AIns) : awp P n0 (.region ops) Q ρ H = runA P ops ρ H (Q .normal) := rfl
theorem awp_draw (ops : List (AIns × List Nat)) : awp P n0 (.draw ops) Q ρ H = runG P ops [] [] ρ H (Q .normal) := rfl
theorem awp_seq (a b : ACode) : awp P n0 (.seq a b) Q ρ H = awp P n0 a (fun e ρ' H' => match e with
    | .normal => awp P n0 b Q ρ' H'
    | .exit id => Q (.exit id) ρ' H'
    | .ret => Q .ret ρ' H') ρ H := rfl
theorem awp_cond (c : AOpd) (a b : ACode) : awp P n0 (.cond c a b) Q ρ H = evK ρ c fun v => match v with
    | .bool t => condA t fun t => match t with
      | true => awp P n0 a Q ρ H
      | false => awp P n0 b Q ρ H
    | _ => False := rfl
theorem awp_block (id : Nat) (body : ACode) : awp P n0 (.block id body) Q ρ H = awp P n0 body (fun e ρ' H' => match e with
    | .normal => Q .normal ρ' H'
    | .exit id' => if id' = id then Q .normal ρ' H' else Q (.exit id') ρ' H'
    | .ret => Q .ret ρ' H') ρ H := rfl
theorem awp_loop (body : ACode) : awp P n0 (.loop body) Q ρ H = ∃ (I : Nat → List AVal → List AObj → Prop) (n : Nat) (vs : List (Nat × Nat)), nvK vs ρ H (I n) ∧ ∀ n1 ρ1 H1, I n1 ρ1 H1 →
      forceK ρ1 fun ρ1 => awp P n0 body (fun e ρ' H' => match e with
        | .normal => ∃ m, m < n1 ∧ Gp n0 ρ' H' (I m)
        | .exit id => Q (.exit id) ρ' H'
        | .ret => Q .ret ρ' H') ρ1 H1 := rfl
end

def AOpd.slots : AOpd → List Nat
  | .t n => [n]
  | .c _ => []

def optSlots : Option AOpd → List Nat
  | some x => x.slots
  | none => []

/-- The slots that an operation reads. -/
def AOp.slots : AOp → List Nat
  | .move x | .un _ x | .conv _ x | .convBS x | .fieldAddr _ x | .field _ _ _ x | .extract x _ | .len x | .lenS x | .convSS x | .nop x | .slice00 _ x | .load _ _ x => x.slots
  | .pick c a b => c.slots ++ a.slots ++ b.slots
  | .build _ ps => ps.flatMap fun p => p.2.2.slots
  | .buildSlice _ _ _ ps => ps.flatMap fun p => p.2.slots
  | .bin _ x y | .eqb _ x y | .eqs _ _ x y | .indexAddr _ x y | .indexStr x y | .mn x y | .mx x y => x.slots ++ y.slots
  | .slice _ x lo hi | .sliceStr x lo hi => x.slots ++ optSlots lo ++ optSlots hi
  | .call _ xs | .makeFunc _ xs => xs.flatMap AOpd.slots
  | .callv x xs | .callvE x xs => x.slots ++ xs.flatMap AOpd.slots
  | .alloc _ => []
  | .box x | .convSB x | .range x | .next x | .mark x | .isNil _ x => x.slots
  | .buildSliceO _ _ _ ps => ps.flatMap fun p => p.2.slots
  | .store _ x y | .mkSlice _ _ _ x y | .append _ _ _ x y => x.slots ++ y.slots
  | .callE _ xs => xs.flatMap AOpd.slots

def AIns.slots (i : AIns) : List Nat :=
  i.op.slots ++ match i.guard with
    | some (some d, _) => [d]
    | _ => []

end Go.AW
