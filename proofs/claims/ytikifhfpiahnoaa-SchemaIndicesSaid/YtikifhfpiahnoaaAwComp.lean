/-
  The translation of the model's code into the abstract machine's: types are looked up once.
  No condition: definitions.
-/
import Derived.Test.YtikifhfpiahnoaaAwOps
import Derived.StillTail
namespace Go.AW

def ofCell : Value → AVal
  | .bool b => .bool b
  | .int k n => .int k n
  | .string s => .str s
  | .slice none 0 0 => .nil
  | .agg _ | .tuple _ => .undef
  | _ => .junk

def ofConst : Value → AVal
  | .agg cs => .agg (cs.toList.map ofCell)
  | v => ofCell v

def compOpd : Operand → Option AOpd
  | .tmp t => some (.t t)
  | .const v => some (.c (ofConst v))
  | .func f => some (.c (.fn f []))
  | .global _ => none

def tagOf (P : Program) (t : TypeId) : Option Bool :=
  match P.underlying t with
  | some (.struct _) | some (.array _ _) => some true
  | some _ => some false
  | none => none

def sizeA (P : Program) (t : TypeId) : Option Nat := (P.info? t).map (·.size)
def bytesA (P : Program) (t : TypeId) : Option Nat := (P.info? t).map (·.bytes)

/-- The cells of a type's zero value. -/
def zeroA (P : Program) (t : TypeId) : Option (List AVal) :=
  match P.info? t with
  | some i => match i.zero with
    | some z => if z.cells.size = i.size then some (z.cells.toList.map ofCell) else none
    | none => none
  | none => none

def elemA? (P : Program) (t : TypeId) : Option TypeId :=
  match P.underlying t with
  | some (.slice e) => some e
  | _ => none

def isByteA (P : Program) (t : TypeId) : Bool :=
  match P.underlying t with
  | some (.int .u8) => true
  | _ => false

/-- The kinds of fields that are all of scalar types, each of one cell, from offset i on. -/
def fieldKinds (P : Program) : List Field → Nat → Option (List Nat)
  | [], _ => some []
  | f :: r, i => if f.offset = i ∧ f.name ≠ "_" then
      match P.underlying f.type, fieldKinds P r (i + 1) with
      | some .bool, some l => some (0 :: l)
      | some (.int _), some l => some (1 :: l)
      | some .string, some l => some (2 :: l)
      | _, _ => none
    else none

/-- All fields' places. -/
def places (P : Program) (fs : List Field) : Option (List (Nat × Nat)) :=
  match fs with
  | [] => some []
  | f :: r => match sizeA P f.type, places P r with
    | some n, some l => some ((f.offset, n) :: l)
    | _, _ => none

def optOpd : Option Operand → Option (Option AOpd)
  | none => some none
  | some o => (compOpd o).map some

def compParts (P : Program) (fs : Array Field) : List (Nat × Operand) → Option (List (Nat × Nat × AOpd))
  | [] => some []
  | (i, x) :: r => do
    let f ← fs[i]?
    let s ← sizeA P f.type
    let x ← compOpd x
    let r ← compParts P fs r
    pure ((f.offset, s, x) :: r)

def compRow : List (Nat × Operand) → Option (List (Nat × AOpd))
  | [] => some []
  | (i, x) :: r => do
    let x ← compOpd x
    let r ← compRow r
    pure ((i, x) :: r)

def compOpds : List Operand → Option (List AOpd)
  | [] => some []
  | x :: r => do
    let x ← compOpd x
    let r ← compOpds r
    pure (x :: r)

def isZeroA (o : Operand) : Bool :=
  match o with
  | .const (.int .i64 0) => true
  | _ => false

def compSlice (P : Program) (t : TypeId) (x : Operand) (lo hi mx : Option Operand) : Option AOp :=
  match mx with
  | none => match P.underlying t with
    | some .string => do pure (.sliceStr (← compOpd x) (← optOpd lo) (← optOpd hi))
    | some (.slice e) => do pure (.slice (← sizeA P e) (← compOpd x) (← optOpd lo) (← optOpd hi))
    | _ => none
  | some m => match lo, hi, P.underlying t with
    | none, some h, some (.slice e) => if isZeroA h && isZeroA m then do pure (.slice00 (← sizeA P e) (← compOpd x)) else none
    | _, _, _ => none

def compLen (P : Program) (args : List Operand) (tys : List TypeId) : Option AOp :=
  match args, tys with
  | [x], [t] => match P.underlying t with
    | some .string => do pure (.lenS (← compOpd x))
    | some (.slice _) => do pure (.len (← compOpd x))
    | _ => none
  | _, _ => none

def srcType (P : Program) (u : TypeId) : Bool :=
  match P.underlying u with
  | some (.slice _) | some .string => true
  | _ => false

def compAppend (P : Program) (args : List Operand) (tys : List TypeId) : Option AOp :=
  match args, tys with
  | [x, y], [t, u] => if srcType P u then do
      let e ← elemA? P t
      pure (.append (← sizeA P e) (← bytesA P e) (← zeroA P e) (← compOpd x) (← compOpd y))
    else none
  | _, _ => none

def compMn (args : List Operand) (tys : List TypeId) : Option AOp :=
  match args, tys with
  | [x, y], [_, _] => do pure (.mn (← compOpd x) (← compOpd y))
  | _, _ => none

def compMx (args : List Operand) (tys : List TypeId) : Option AOp :=
  match args, tys with
  | [x, y], [_, _] => do pure (.mx (← compOpd x) (← compOpd y))
  | _, _ => none

def compCall (P : Program) (oj : Bool) (c : Call) : Option AOp :=
  match c.callee with
  | .value (.func f) => do
    let l ← compOpds c.args.toList
    if oj then pure (.callE f l) else pure (.call f l)
  | .value (.tmp t) => do
    let l ← compOpds c.args.toList
    if oj then pure (.callvE (.t t) l) else pure (.callv (.t t) l)
  | .builtin .len => compLen P c.args.toList c.argTypes.toList
  | .builtin .append => compAppend P c.args.toList c.argTypes.toList
  | .builtin .min => compMn c.args.toList c.argTypes.toList
  | .builtin .max => compMx c.args.toList c.argTypes.toList
  | _ => none

def isNilA (o : Operand) : Bool :=
  match o with
  | .const (.slice none 0 0) => true
  | _ => false

def compOp (P : Program) (oj : Bool) (o : Op) : Option AOp :=
  match o with
  | .move x | .assign x => do pure (.move (← compOpd x))
  | .pick c a b => do pure (.pick (← compOpd c) (← compOpd a) (← compOpd b))
  | .alloc e => do pure (.alloc (← zeroA P e))
  | .box _ x => do pure (.box (← compOpd x))
  | .build t parts => match P.underlying t with
    | some (.struct fs) => if (places P fs.toList).isSome then do pure (.build (← zeroA P t) (← compParts P fs parts.toList)) else none
    | _ => none
  | .buildSlice t len parts => do
    let e ← elemA? P t
    if oj then pure (.buildSliceO (← sizeA P e) len (← zeroA P e) (← compRow parts.toList)) else pure (.buildSlice (← sizeA P e) len (← zeroA P e) (← compRow parts.toList))
  | .load t a => do pure (.load (← tagOf P t) (← sizeA P t) (← compOpd a))
  | .store t a x => do pure (.store (← sizeA P t) (← compOpd a) (← compOpd x))
  | .nilCheck x => do pure (.nop (← compOpd x))
  | .binOp op t x y _ => do
    let x' ← compOpd x
    let y' ← compOpd y
    match op with
    | .eql | .neq => match P.underlying t with
      | some (.slice _) => if isNilA y then pure (.isNil (decide (op = .neq)) x') else none
      | some .bool => pure (.eqb (decide (op = .neq)) x' y')
      | some (.int _) | some .string => pure (.bin op x' y')
      | some (.struct fs) => if P.stoodInHeld t || P.eqGuardType P.depth t then none else do pure (.eqs (decide (op = .neq)) (← fieldKinds P fs.toList 0) x' y')
      | _ => none
    | _ => pure (.bin op x' y')
  | .unOp op _ x => do pure (.un op (← compOpd x))
  | .convert s d x => do
    let x ← compOpd x
    match P.underlying s, P.underlying d with
    | some (.int _), some (.int k) => pure (.conv k x)
    | some .string, some .string => pure (.convSS x)
    | some (.slice e), some .string => if isByteA P e then pure (.convBS x) else none
    | some .string, some (.slice e) => if isByteA P e then pure (.convSB x) else none
    | some (.slice _), some (.slice e) => if s = d && isByteA P e then pure (.mark x) else none
    | _, _ => none
  | .makeFunc (.func f) first caps => if first.isEmpty then do pure (.makeFunc f (← compOpds caps.toList)) else none
  | .makeSlice t l c => do
    let e ← elemA? P t
    pure (.mkSlice (← sizeA P e) (← bytesA P e) (← zeroA P e) (← compOpd l) (← compOpd c))
  | .slice t x lo hi mx => compSlice P t x lo hi mx
  | .fieldAddr s x f => match P.underlying s with
    | some (.struct fs) => do
      let f ← fs[f]?
      if (← sizeA P f.type) = 0 then none else pure (.fieldAddr f.offset (← compOpd x))
    | _ => none
  | .field s x f => match P.underlying s with
    | some (.struct fs) => do
      let f ← fs[f]?
      pure (.field (← tagOf P f.type) f.offset (← sizeA P f.type) (← compOpd x))
    | _ => none
  | .indexAddr t x i => do
    let e ← elemA? P t
    pure (.indexAddr (← sizeA P e) (← compOpd x) (← compOpd i))
  | .index t x i => match P.underlying t with
    | some .string => do pure (.indexStr (← compOpd x) (← compOpd i))
    | _ => none
  | .extract x i => do pure (.extract (← compOpd x) i)
  | .range t x => match P.underlying t with
    | some .string => do pure (.range (← compOpd x))
    | _ => none
  | .next x true => do pure (.next (← compOpd x))
  | .call c => compCall P oj c
  | _ => none

def inSlots (ob : List Nat) (d : Option Nat) : Bool :=
  match d with
  | some n => ob.elem n
  | none => false

def compIns (P : Program) (ob : List Nat) (all : Array Oper) (o : Oper) : Option AIns := do
  pure { dst := o.dst, op := (← compOp P (inSlots ob o.dst) o.op), guard := o.guard.map fun (j, want) => ((all[j]?).bind (·.dst), want) }

def compList (P : Program) (ob : List Nat) (all : Array Oper) : List Oper → Option (List AIns)
  | [] => some []
  | o :: r => do
    let i ← compIns P ob all o
    let r ← compList P ob all r
    pure (i :: r)

/-! ### Regions whose order is open -/

/-- What each operation waits for. -/
def predsL (ops : Array Oper) : List (List Nat) := ops.toList.map fun o => (o.after.toList.filter fun e => Region.binds .any e).map (·.on)

/-- All that an operation waits for, directly or through others: a set of bits an operation. -/
def ancAux : List (List Nat) → List Nat → List Nat
  | [], acc => acc
  | ps :: r, acc => ancAux r (acc ++ [ps.foldl (fun m p => m ||| (2 ^ p ||| acc.getD p 0)) 0])

def maskS (l : List Nat) : Nat := l.foldl (fun m s => m ||| 2 ^ s) 0

structure DInfo where
  r : Nat
  w : Nat
  e : Bool

def dinfo (i : AIns) : DInfo := ⟨maskS i.slots, maskS i.dst.toList, !i.op.quiet⟩

/-- Two operations that touch each other's slots, or both change the heap, come in the text's order. -/
def pairOk (a b : DInfo) (anc i : Nat) : Bool := (Nat.beq ((a.w &&& (b.r ||| b.w)) ||| (a.r &&& b.w)) 0 && !(a.e && b.e)) || Nat.testBit anc i

def drawGo : List DInfo → List Nat → Nat → List (Nat × DInfo) → Bool
  | b :: bs, a :: as, k, prev => prev.all (fun p => pairOk p.2 b a p.1) && drawGo bs as (k + 1) ((k, b) :: prev)
  | [], [], _, _ => true
  | _, _, _, _ => false

def predsOk : List (List Nat) → Nat → Bool
  | [], _ => true
  | ps :: r, k => ps.all (fun p => decide (p < k)) && predsOk r (k + 1)

def effsOf : List AIns → Nat → List Nat
  | [], _ => []
  | i :: is, k => match i.op.quiet with
    | true => effsOf is (k + 1)
    | false => k :: effsOf is (k + 1)

def ownOf (effs : List Nat) (q : Nat) : Nat := (effs.filter fun e => decide (e < q)).foldl (fun m e => max m (e + 1)) 0

def allowedAt (effs anc : List Nat) (q p : Nat) : Bool := effs.all fun e => if e < p then !Nat.testBit (anc.getD e 0) q else !Nat.testBit (anc.getD q 0) e

def notesOf (effs anc : List Nat) (n q : Nat) : List Nat :=
  ((0 :: effs.map (· + 1)).filter fun p => allowedAt effs anc q p && !Nat.beq p (ownOf effs q)).map (n - ·)

def annot (effs anc : List Nat) (n : Nat) : List AIns → Nat → List (AIns × List Nat)
  | [], _ => []
  | i :: is, k => (i, match i.op.quiet && !i.op.free with | true => notesOf effs anc n k | false => []) :: annot effs anc n is (k + 1)

/-- May a region that draws its order be walked in the text's order? -/
def drawB (P : Program) (ops : Array Oper) (is : List AIns) : Bool :=
  P.follows .mixedOrders && is.all (fun i => i.op.quiet || i.op.effect) && predsOk (predsL ops) 0 && drawGo (is.map dinfo) (ancAux (predsL ops) []) 0 []

def drawL (ops : Array Oper) (is : List AIns) : List (AIns × List Nat) := annot (effsOf is 0) (ancAux (predsL ops) []) is.length is 0

/-- Is a place to regroup asked for behind this region? -/
def ghostB (ob : List Nat) (l : List AIns) : Bool := l.any fun i => match i.dst with
  | some d => ob.elem (d + 100000)
  | none => false

def region0 (P : Program) (ops : Array Oper) (draw : Bool) (l : List AIns) : Option ACode :=
  if draw then (if drawB P ops l then some (.draw (drawL ops l)) else none) else some (.region l)

def regionA (P : Program) (ob : List Nat) (ops : Array Oper) (draw : Bool) (l : List AIns) : Option ACode :=
  match region0 P ops draw l with
  | some c => if ghostB ob l then some (.seq c .ghost) else some c
  | none => none

/-- What is not served asks for what can't be. -/
def regionS (P : Program) (ob : List Nat) (ops : Array Oper) (draw : Bool) : Option ACode :=
  match compList P ob ops ops.toList with
  | some l => match regionA P ob ops draw l with
    | some c => some c
    | none => some .stuck
  | none => some .stuck

def comp (P : Program) (ob : List Nat) : Code → Option ACode
  | .skip => some .skip
  | .region _ ops draw => regionS P ob ops draw
  | .seq a b => do pure (.seq (← comp P ob a) (← comp P ob b))
  | .cond c a b => do pure (.cond (← compOpd c) (← comp P ob a) (← comp P ob b))
  | .block id b => do pure (.block id (← comp P ob b))
  | .loop b => do pure (.loop (← comp P ob b))
  | .exit id => some (.exit id)
  | .ret => some .ret
  | _ => some .stuck
end Go.AW
