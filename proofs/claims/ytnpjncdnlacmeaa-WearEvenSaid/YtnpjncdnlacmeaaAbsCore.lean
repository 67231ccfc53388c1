/-
  The abstract machine: values, memory, operations and code with all types resolved, and the evaluator. It is a function: what the model leaves open (the order inside a statement, an array's spare room) is not to be seen in it. AbsSound shows that what it gives is what the model's call gives.
-/
import GoSem.Dispatch
namespace Go.Abs

/-- A value. Functions go by numbers of our own; a slice's capacity is known or not. -/
inductive AVal where
  | bool (b : Bool)
  | int (k : IntKind) (n : Int)
  | str (s : List UInt8)
  | ptr (a : Option (Nat × Nat))
  | slice (a : Option (Nat × Nat)) (len : Nat) (cap : Option Nat)
  | map (r : Option Nat)
  | func (g : Nat) (first caps : List AVal)
  | nilFunc
  | iface (t : Nat) (v : AVal)
  | nilIface
  | agg (cs : List AVal)
  | tuple (vs : List AVal)
  deriving Inhabited

inductive AObj where
  | dead
  | cells (esz : Nat) (cs : List AVal)
  | map (es : List (AVal × AVal × Nat)) (clock : Nat)
  | iter (s : List UInt8) (pos : Nat)
  deriving Inhabited

/-- Memory: objects by number. Those below 'base' are never written; of those that were there, none below 'wmin' has been written. -/
structure Heap where
  objs : List AObj
  base : Nat
  wmin : Nat

def Heap.size (h : Heap) : Nat := h.objs.length
def Heap.push (h : Heap) (o : AObj) : Heap := { h with objs := h.objs ++ [o] }
def Heap.get (h : Heap) (i : Nat) : Option AObj := h.objs[i]?
def Heap.put (h : Heap) (i : Nat) (o : AObj) : Heap := { h with objs := h.objs.set i o, wmin := min h.wmin i }

inductive Slot where
  | val (v : AVal)
  | undef
  | var (cs : List AVal)
  | loc (t off : Nat)
  | gone
  deriving Inhabited

abbrev Slots := List (Nat × Slot)

def sget : Slots → Nat → Option Slot
  | [], _ => none
  | (u, s) :: r, t => if u = t then some s else sget r t

/-- What stands behind slot t's variable is forgotten: a new variable comes. -/
def unloc (t : Nat) : Slots → Slots
  | [] => []
  | (u, .loc t' off) :: r => (u, if t' = t then .gone else .loc t' off) :: unloc t r
  | x :: r => x :: unloc t r

def keep (live : List Nat) (s : Slots) : Slots :=
  live.filterMap fun t => match sget s t with
    | some (.loc _ _) => none
    | some .gone => none
    | some x => some (t, x)
    | none => none

inductive Opd where
  | tmp (t : Nat)
  | const (v : AVal)

def Opd.ev (s : Slots) : Opd → Option AVal
  | .tmp t => match sget s t with
    | some (.val v) => some v
    | _ => none
  | .const v => some v

def evs (s : Slots) : List Opd → Option (List AVal)
  | [] => some []
  | x :: r => match x.ev s, evs s r with
    | some v, some vs => some (v :: vs)
    | _, _ => none

inductive AAddr where
  | glob (i off : Nat)
  | loc (t off : Nat)

def Opd.adr (s : Slots) : Opd → Option AAddr
  | .tmp t => match sget s t with
    | some (.val (.ptr (some (i, o)))) => some (.glob i o)
    | some (.var _) => some (.loc t 0)
    | some (.loc t' o) => some (.loc t' o)
    | _ => none
  | .const _ => none

def AVal.cells? : AVal → Option (List AVal)
  | .agg cs => some cs
  | .tuple _ => none
  | v => some [v]

def AVal.isOne : AVal → Bool
  | .agg _ | .tuple _ => false
  | _ => true

inductive ConvKind where
  | int (k : IntKind)
  | str
  | bytes
  | string

inductive SliceKind where
  | str
  | sl (esz : Nat)
  | arr (n esz : Nat)

inductive NilKind where
  | ptr
  | slice
  | map
  | func

inductive LenKind where
  | str
  | sl
  | map

inductive AOp where
  | val (x : Opd)
  | pick (c a b : Opd)
  | alloc (esz : Nat) (zero : List AVal)
  | lalloc (zero : List AVal)
  | box (x : Opd)
  | lbox (x : Opd)
  | build (zero : List AVal) (parts : List (Nat × Nat × Opd))
  | mkslice (esz len : Nat) (zero : List AVal) (parts : List (Nat × Nat × Opd))
  | load (n : Option Nat) (a : Opd)
  | store (n : Nat) (a x : Opd)
  | bin (op : BinOp) (x y : Opd)
  | un (op : UnOp) (x : Opd)
  | conv (k : ConvKind) (x : Opd)
  | mkfunc (g : Nat) (first caps : List Opd)
  | make (esz bytes : Nat) (zero : List AVal) (len cap : Opd)
  | slice (k : SliceKind) (x : Opd) (lo hi mx : Option Opd)
  | faddr (x : Opd) (off : Nat)
  | field (x : Opd) (off : Nat) (n : Option Nat)
  | iaddr (esz : Nat) (x i : Opd)
  | aaddr (len esz : Nat) (x i : Opd)
  | index (x i : Opd)
  | aindex (len esz : Nat) (n : Option Nat) (x i : Opd)
  | extract (x : Opd) (i : Nat)
  | call (f : Opd) (args : List Opd)
  | callg (g : Nat) (args : List Opd)
  | len (k : LenKind) (x : Opd)
  | append (esz bytes : Nat) (x y : Opd)
  | copy (esz : Nat) (d s : Opd)
  | minmax (isMax : Bool) (xs : List Opd)
  | nilcheck (x : Opd)
  | eqnil (k : NilKind) (neg : Bool) (x y : Opd)
  | beq (neg : Bool) (x y : Opd)
  | eqagg (neg : Bool) (kinds : List Nat) (x y : Opd)
  | rangeStr (x : Opd)
  | nextStr (x : Opd)

structure AOper where
  dst : Option Nat
  guard : Option (Nat × Bool)
  op : AOp

structure Seg where
  quiet : Bool
  ops : List AOper

inductive ACode where
  | skip
  | region (segs : List Seg)
  | seq (a b : ACode)
  | cond (c : Opd) (t e : ACode)
  | block (id : Nat) (c : ACode)
  | loop (c : ACode)
  | exit (id : Nat)
  | ret
  | live (l : List Nat) (c : ACode)
  | after (c : ACode) (l : List Nat)

inductive ARes where
  | tmp (t : Nat)
  | cell (t : Nat) (n : Option Nat)

structure AFunc where
  closed : Bool
  nargs : Nat
  ntmps : Nat
  results : List ARes
  body : ACode

/-! ## Numbers, texts -/

def aBits (op : BinOp) (k : IntKind) (x y : Int) : Option AVal :=
  match op with
  | .and => some (.int k (k.wrap (BitVec.ofInt k.bits x &&& BitVec.ofInt k.bits y).toNat))
  | .or => some (.int k (k.wrap (BitVec.ofInt k.bits x ||| BitVec.ofInt k.bits y).toNat))
  | .xor => some (.int k (k.wrap (BitVec.ofInt k.bits x ^^^ BitVec.ofInt k.bits y).toNat))
  | .andNot => some (.int k (k.wrap (BitVec.ofInt k.bits x &&& ~~~(BitVec.ofInt k.bits y)).toNat))
  | _ => none

def aBytesLess : List UInt8 → List UInt8 → Bool
  | _, [] => false
  | [], _ :: _ => true
  | a :: x, b :: y => a < b || (a == b && aBytesLess x y)

def aBin (op : BinOp) : AVal → AVal → Option AVal
  | .int k x, .int k' y =>
    match op with
    | .shl => if y < 0 then none else some (.int k (k.wrap (x * 2 ^ (min y.toNat k.bits))))
    | .shr => if y < 0 then none else some (.int k (x.fdiv (2 ^ (min y.toNat k.bits))))
    | _ => if k = k' then
        match op with
        | .add => some (.int k (k.wrap (x + y)))
        | .sub => some (.int k (k.wrap (x - y)))
        | .mul => some (.int k (k.wrap (x * y)))
        | .quo => if y = 0 then none else some (.int k (k.wrap (x.tdiv y)))
        | .rem => if y = 0 then none else some (.int k (x.tmod y))
        | .eql => some (.bool (decide (x = y)))
        | .neq => some (.bool (!decide (x = y)))
        | .lss => some (.bool (x < y))
        | .leq => some (.bool (x ≤ y))
        | .gtr => some (.bool (x > y))
        | .geq => some (.bool (x ≥ y))
        | op => aBits op k x y
      else none
  | .str a, .str b =>
    match op with
    | .add => if a.length + b.length ≤ 9223372036854775807 then some (.str (a ++ b)) else none
    | .eql => some (.bool (decide (a = b)))
    | .neq => some (.bool (!decide (a = b)))
    | .lss => some (.bool (aBytesLess a b))
    | .leq => some (.bool (aBytesLess a b || decide (a = b)))
    | .gtr => some (.bool !(aBytesLess a b || decide (a = b)))
    | .geq => some (.bool !(aBytesLess a b))
    | _ => none
  | _, _ => none

def aUn (op : UnOp) : AVal → Option AVal
  | .int k n => match op with
    | .neg => some (.int k (k.wrap (0 - n)))
    | .xor => aBits .xor k (if k.signed then -1 else k.max) n
    | _ => none
  | .bool b => match op with
    | .not => some (.bool !b)
    | _ => none
  | _ => none

def aMin2 (isMax : Bool) : AVal → AVal → Option AVal
  | .int k x, .int k' y => if k = k' then some (.int k (if isMax then (if x < y then y else x) else (if y < x then y else x))) else none
  | _, _ => none

def aMins (isMax : Bool) (v : AVal) : List AVal → Option AVal
  | [] => some v
  | x :: r => match aMin2 isMax v x with
    | some y => aMins isMax y r
    | none => none

/-- '==', one side being nil. -/
def aEqNil : NilKind → AVal → AVal → Option Bool
  | .ptr, .ptr none, .ptr b => some b.isNone
  | .ptr, .ptr (some _), .ptr none => some false
  | .slice, .slice none _ _, .slice b _ _ => some b.isNone
  | .slice, .slice (some _) _ _, .slice none _ _ => some false
  | .map, .map none, .map b => some b.isNone
  | .map, .map (some _), .map none => some false
  | .func, .nilFunc, .nilFunc => some true
  | .func, .nilFunc, .func _ _ _ => some false
  | .func, .func _ _ _, .nilFunc => some false
  | _, _, _ => none

/-! ## Parts of aggregates -/

/-- Cells from 'off' on, replaced. -/
def splice (cs : List AVal) (off : Nat) (xs : List AVal) : List AVal := cs.take off ++ xs ++ cs.drop (off + xs.length)

def fill (s : Slots) (cs : List AVal) : List (Nat × Nat × Opd) → Option (List AVal)
  | [] => some cs
  | (off, n, x) :: r =>
    match (x.ev s).bind AVal.cells? with
    | some xs => if xs.length = n ∧ off + n ≤ cs.length then fill s (splice cs off xs) r else none
    | none => none

/-- A part of an aggregate's cells: one cell, or n of them. -/
def part (cs : List AVal) (off : Nat) : Option Nat → Option AVal
  | none => cs[off]?
  | some n => if off + n ≤ cs.length then some (.agg ((cs.drop off).take n)) else none

/-! ## Memory -/

def cellsAt (s : Slots) (h : Heap) : AAddr → Option (List AVal × Nat)
  | .glob i o => match h.get i with
    | some (.cells _ cs) => some (cs, o)
    | _ => none
  | .loc t o => match sget s t with
    | some (.var cs) => some (cs, o)
    | _ => none

def loadAt (s : Slots) (h : Heap) (a : AAddr) (n : Option Nat) : Option AVal :=
  match cellsAt s h a with
  | some (cs, o) => part cs o n
  | none => none

def storeAt (s : Slots) (h : Heap) (a : AAddr) (xs : List AVal) : Option (Slots × Heap) :=
  match a with
  | .glob i o => match h.get i with
    | some (.cells e cs) => if h.base ≤ i ∧ o + xs.length ≤ cs.length then some (s, h.put i (.cells e (splice cs o xs))) else none
    | _ => none
  | .loc t o => match sget s t with
    | some (.var cs) => if o + xs.length ≤ cs.length then some ((t, .var (splice cs o xs)) :: s, h) else none
    | _ => none

/-- An index's number, if it lies in bounds. -/
def inBounds (n : Nat) : AVal → Option Nat
  | .int _ i => if 0 ≤ i ∧ i < n then some i.toNat else none
  | _ => none

/-- A bound's number, if it is at most n. -/
def upTo (n : Nat) : AVal → Option Nat
  | .int _ i => if 0 ≤ i ∧ i ≤ n then some i.toNat else none
  | _ => none

def optEv (s : Slots) : Option Opd → Option (Option AVal)
  | none => some none
  | some x => (x.ev s).map some

def lowB (b : Nat) : Option AVal → Option Nat
  | some l => upTo b l
  | none => some 0

/-- The three bounds of a slice expression: of a slice of length n whose capacity is 'cap'. -/
def bounds (n : Nat) (cap : Option Nat) (lo hi mx : Option AVal) : Option (Nat × Nat × Option Nat) :=
  match mx with
  | some m =>
    match upTo (cap.getD n) m with
    | some m =>
      match hi with
      | some hv => match upTo m hv with
        | some b => (lowB b lo).map fun a => (a, b, some m)
        | none => none
      | none => none
    | none => none
  | none =>
    match hi with
    | some hv => match upTo (cap.getD n) hv with
      | some b => (lowB b lo).map fun a => (a, b, cap)
      | none => none
    | none => (lowB n lo).map fun a => (a, n, cap)

/-- Are the elements of that row of so many cells? -/
def eszIs (h : Heap) (i e : Nat) : Bool :=
  match h.get i with
  | some (.cells e' _) => e' == e
  | some .dead => true
  | _ => false

def aSlice (k : SliceKind) (s : Slots) (h : Heap) (x : Opd) (lo hi mx : Option AVal) : Option AVal :=
  match k with
  | .str => match x.ev s with
    | some (.str t) => match mx with
      | none => (bounds t.length (some t.length) lo hi none).map fun (a, b, _) => .str ((t.drop a).take (b - a))
      | some _ => none
    | _ => none
  | .sl e => match x.ev s with
    | some (.slice none _ _) => (bounds 0 (some 0) lo hi mx).map fun _ => .slice none 0 (some 0)
    | some (.slice (some (i, o)) n c) => if eszIs h i e then (bounds n c lo hi mx).map fun (a, b, m) =>
        -- an empty rest of all that there is stays where it was
        .slice (some (i, if m = some a then o else o + a * e)) (b - a) (m.map (· - a))
      else none
    | _ => none
  | .arr n e => match x.adr s with
    | some (.glob i o) => match h.get i with
      | some (.cells e' cs) => if e' = e ∧ o + n * e ≤ cs.length then (bounds n (some n) lo hi mx).map fun (a, b, m) =>
          .slice (some (i, if m = some a then o else o + a * e)) (b - a) (m.map (· - a))
        else none
      | _ => none
    | _ => none

/-- A slice's elements, as cells. -/
def rowOf (esz : Nat) (h : Heap) : AVal → Option (List AVal)
  | .slice none _ _ => some []
  | .slice (some (i, o)) n _ => if n = 0 then some [] else match h.get i with
    | some (.cells e cs) => if e = esz ∧ o + n * esz ≤ cs.length then some ((cs.drop o).take (n * esz)) else none
    | _ => none
  | .str s => if esz = 1 then some (s.map fun b => .int .u8 b.toNat) else none
  | _ => none

def rowIs (h : Heap) (i e : Nat) : Bool :=
  match h.get i with
  | some (.cells e' _) => e' == e
  | _ => false

def alen : AVal → Nat
  | .slice _ m _ => m
  | .str s => s.length
  | _ => 0

/-- append: nothing appended: as it was; a slice that is known to be full, or nil: a new row; else: a new row in the elder one's place, whose number is gone. -/
def aApp (esz bytes : Nat) (h : Heap) (a : Option (Nat × Nat)) (n : Nat) (c : Option Nat) (m : Nat) (old new : List AVal) : Option (AVal × Heap) :=
  if m = 0 then some (.slice a n c, h)
  else if (n + m) * bytes ≤ 140737488355328 ∧ n + m ≤ 9223372036854775807 then
    match a with
    | none => some (.slice (some (h.size, 0)) (n + m) none, h.push (.cells esz (old ++ new)))
    | some (i, _) =>
      if c = some n then some (.slice (some (h.size, 0)) (n + m) none, h.push (.cells esz (old ++ new)))
      else if h.base ≤ i ∧ rowIs h i esz = true then some (.slice (some (h.size, 0)) (n + m) none, (h.put i .dead).push (.cells esz (old ++ new)))
      else none
  else none

def aAppend (esz bytes : Nat) (h : Heap) (x y : AVal) : Option (AVal × Heap) :=
  match x with
  | .slice a n c => match rowOf esz h (.slice a n c), rowOf esz h y with
    | some old, some new => aApp esz bytes h a n c (alen y) old new
    | _, _ => none
  | _ => none

def bytesOf : List AVal → Option (List UInt8)
  | [] => some []
  | .int .u8 n :: r => (bytesOf r).map (UInt8.ofNat n.toNat :: ·)
  | _ => none

def isVar (s : Slots) (t : Nat) : Bool :=
  match sget s t with
  | some (.var _) => true
  | _ => false

abbrev CallSem := Nat → List AVal → Heap → Option (AVal × Heap)

/-- Repeat cells n times. -/
def rep (n : Nat) (zero : List AVal) : List AVal := (List.replicate n zero).flatten

def ok1 (s : Slots) (h : Heap) (v : Option AVal) : Option (Slot × Slots × Heap) := v.map fun v => (.val v, s, h)

def evLen (k : LenKind) (v : AVal) (h : Heap) : Option AVal :=
  match k with
  | .str => match v with
    | .str t => some (.int .i64 t.length)
    | _ => none
  | .sl => match v with
    | .slice _ n _ => some (.int .i64 n)
    | _ => none
  | .map => match v with
    | .map none => some (.int .i64 0)
    | .map (some r) => match h.get r with
      | some (.map es _) => some (.int .i64 es.length)
      | _ => none
    | _ => none

def evConv (k : ConvKind) (v : AVal) (s : Slots) (h : Heap) : Option (Slot × Slots × Heap) :=
  match k with
  | .int k => match v with
    | .int _ n => ok1 s h (some (.int k (k.wrap n)))
    | _ => none
  | .str => match v with
    | .str t => ok1 s h (some (.str t))
    | _ => none
  | .bytes => match v with
    | .str t => some (.val (.slice (some (h.size, 0)) t.length none), s, h.push (.cells 1 (t.map fun b => .int .u8 b.toNat)))
    | _ => none
  | .string => match v with
    | .slice a n c => match (rowOf 1 h (.slice a n c)).bind bytesOf with
      | some t => ok1 s h (some (.str t))
      | none => none
    | _ => none

def evOp (call : CallSem) (dst : Nat) (o : AOp) (s : Slots) (h : Heap) : Option (Slot × Slots × Heap) :=
  match o with
  | .val x => ok1 s h (x.ev s)
  | .pick c a b => match c.ev s with
    | some (.bool true) => ok1 s h (a.ev s)
    | some (.bool false) => ok1 s h (b.ev s)
    | _ => none
  | .alloc e z => some (.val (.ptr (some (h.size, 0))), s, h.push (.cells e z))
  | .lalloc z => some (.var z, unloc dst s, h)
  | .box x => match (x.ev s).bind AVal.cells? with
    | some cs => some (.val (.ptr (some (h.size, 0))), s, h.push (.cells cs.length cs))
    | none => none
  | .lbox x => match (x.ev s).bind AVal.cells? with
    | some cs => some (.var cs, unloc dst s, h)
    | none => none
  | .build z ps => ok1 s h ((fill s z ps).map .agg)
  | .mkslice e n z ps => match fill s z ps with
    | some cs => some (.val (.slice (some (h.size, 0)) n (some n)), s, h.push (.cells e cs))
    | none => none
  | .load n a => match a.adr s with
    | some a => ok1 s h (loadAt s h a n)
    | none => none
  | .store n a x => match a.adr s, (x.ev s).bind AVal.cells? with
    | some a, some xs => if xs.length = n then (storeAt s h a xs).map fun (s', h') => (.undef, s', h') else none
    | _, _ => none
  | .bin op x y => match x.ev s, y.ev s with
    | some x, some y => ok1 s h (aBin op x y)
    | _, _ => none
  | .un op x => match x.ev s with
    | some x => ok1 s h (aUn op x)
    | none => none
  | .conv k x => match x.ev s with
    | some v => evConv k v s h
    | none => none
  | .mkfunc g f c => match evs s f, evs s c with
    | some f, some c => ok1 s h (some (.func g f c))
    | _, _ => none
  | .make e b z l c => match l.ev s, c.ev s with
    | some (.int kl n), some (.int kc m) =>
      if 0 ≤ n ∧ n ≤ m ∧ m * b ≤ 140737488355328 ∧ m ≤ 9223372036854775807 ∧ kl = .i64 ∧ kc = .i64 then
        some (.val (.slice (some (h.size, 0)) n.toNat (some m.toNat)), s, h.push (.cells e (rep m.toNat z)))
      else none
    | _, _ => none
  | .slice k x lo hi mx => match optEv s lo, optEv s hi, optEv s mx with
    | some lo, some hi, some mx => ok1 s h (aSlice k s h x lo hi mx)
    | _, _, _ => none
  | .faddr x off => match x.adr s with
    | some (.glob i o) => ok1 s h (some (.ptr (some (i, o + off))))
    | some (.loc t o) => if isVar s t then some (.loc t (o + off), s, h) else none
    | none => none
  | .field x off n => match x.ev s with
    | some (.agg cs) => ok1 s h (part cs off n)
    | _ => none
  | .iaddr e x i => match x.ev s, i.ev s with
    | some (.slice (some (b, o)) n _), some i => ok1 s h ((inBounds n i).map fun j => .ptr (some (b, o + j * e)))
    | _, _ => none
  | .aaddr n e x i => match x.adr s, i.ev s with
    | some (.glob b o), some i => ok1 s h ((inBounds n i).map fun j => .ptr (some (b, o + j * e)))
    | some (.loc t o), some i => if isVar s t then (inBounds n i).map fun j => (.loc t (o + j * e), s, h) else none
    | _, _ => none
  | .index x i => match x.ev s, i.ev s with
    | some (.str t), some i => ok1 s h ((inBounds t.length i).bind fun j => (t[j]?).map fun b => .int .u8 b.toNat)
    | _, _ => none
  | .aindex n e k x i => match x.ev s, i.ev s with
    | some (.agg cs), some i => ok1 s h ((inBounds n i).bind fun j => part cs (j * e) k)
    | _, _ => none
  | .extract x i => match x.ev s with
    | some (.tuple vs) => ok1 s h vs[i]?
    | _ => none
  | .call f args => match f.ev s, evs s args with
    | some (.func g first caps), some as => (call g (first ++ as ++ caps) h).map fun (v, h') => (.val v, s, h')
    | _, _ => none
  | .callg g args => match evs s args with
    | some as => (call g as h).map fun (v, h') => (.val v, s, h')
    | none => none
  | .len k x => match x.ev s with
    | some v => ok1 s h (evLen k v h)
    | none => none
  | .append e b x y => match x.ev s, y.ev s with
    | some x, some y => (aAppend e b h x y).map fun (v, h') => (.val v, s, h')
    | _, _ => none
  | .copy _ _ _ => none
  | .minmax mx xs => match evs s xs with
    | some (x :: r) => ok1 s h (aMins mx x r)
    | _ => none
  | .nilcheck x => match x.ev s with
    | some (.ptr (some a)) => ok1 s h (some (.ptr (some a)))
    | _ => match x.adr s with
      | some (.loc t o) => if isVar s t then some (.loc t o, s, h) else none
      | _ => none
  | .eqnil k neg x y => match x.ev s, y.ev s with
    | some x, some y => ok1 s h ((aEqNil k x y).map fun b => .bool (if neg then !b else b))
    | _, _ => none
  | .beq neg x y => match x.ev s, y.ev s with
    | some (.bool a), some (.bool b) => ok1 s h (some (.bool (if neg then !decide (a = b) else decide (a = b))))
    | _, _ => none
  | .eqagg _ _ _ _ => none
  | .rangeStr _ => none
  | .nextStr _ => none

/-- A slot is set. -/
def setSlot (dst : Option Nat) (x : Slot) (s : Slots) : Slots :=
  match dst with
  | some d => (d, x) :: s
  | none => s

def evRun (call : CallSem) (o : AOper) (s : Slots) (h : Heap) : Option (Slots × Heap) :=
  match evOp call (o.dst.getD 0) o.op s h with
  | some (x, s', h') => some (setSlot o.dst x s', h')
  | none => none

def evOper (call : CallSem) (o : AOper) (s : Slots) (h : Heap) : Option (Slots × Heap) :=
  match o.guard with
  | none => evRun call o s h
  | some (t, want) => match sget s t with
    | some (.val (.bool b)) => if b = want then evRun call o s h else some (setSlot o.dst .undef s, h)
    | some .undef => some (setSlot o.dst .undef s, h)
    | _ => none

def evOps (call : CallSem) : List AOper → Slots → Heap → Option (Slots × Heap)
  | [], s, h => some (s, h)
  | o :: r, s, h => match evOper call o s h with
    | some (s', h') => evOps call r s' h'
    | none => none

/-- Operations whose order may be any: none of them changes what is there, nor a variable of the frame. -/
def evQuiet (call : CallSem) : List AOper → Slots → Heap → Option (Slots × Heap)
  | [], s, h => some (s, h)
  | o :: r, s, h => match evOper call o s { h with wmin := h.size } with
    | some (s', h') => if h'.size = h.size ∧ h'.wmin = h.size ∧ (o.dst.all fun d => !isVar s d) = true then evQuiet call r s' h else none
    | none => none

def evSegs (call : CallSem) : List Seg → Slots → Heap → Option (Slots × Heap)
  | [], s, h => some (s, h)
  | g :: r, s, h => match (if g.quiet then evQuiet call g.ops s h else evOps call g.ops s h) with
    | some (s', h') => evSegs call r s' h'
    | none => none

inductive AExit where
  | normal
  | exit (id : Nat)
  | ret
  deriving DecidableEq

structure St where
  s : Slots
  h : Heap

def loopN (f : St → Option (AExit × St)) : Nat → St → Option (AExit × St)
  | 0, _ => none
  | n + 1, st => match f st with
    | some (.normal, st') => loopN f n st'
    | r => r

def evCode (call : CallSem) (n : Nat) : ACode → St → Option (AExit × St)
  | .skip, st => some (.normal, st)
  | .region gs, st => (evSegs call gs st.s st.h).map fun (s, h) => (.normal, ⟨s, h⟩)
  | .seq a b, st => match evCode call n a st with
    | some (.normal, st') => evCode call n b st'
    | r => r
  | .cond c t e, st => match c.ev st.s with
    | some (.bool true) => evCode call n t st
    | some (.bool false) => evCode call n e st
    | _ => none
  | .block id c, st => match evCode call n c st with
    | some (.exit j, st') => if j = id then some (.normal, st') else some (.exit j, st')
    | r => r
  | .loop c, st => loopN (evCode call n c) n st
  | .exit id, st => some (.exit id, st)
  | .ret, st => some (.ret, st)
  | .live l c, st => evCode call n c ⟨keep l st.s, st.h⟩
  | .after c l, st => match evCode call n c st with
    | some (.normal, st') => some (.normal, ⟨keep l st'.s, st'.h⟩)
    | r => r

/-! ## What a call leaves behind -/

mutual
/-- Are all objects' numbers below n? -/
def AVal.under (n : Nat) : AVal → Bool
  | .ptr (some (i, _)) => i < n
  | .slice (some (i, _)) _ _ => i < n
  | .map (some i) => i < n
  | .func _ f c => AVal.unders n f && AVal.unders n c
  | .iface _ v => v.under n
  | .agg cs => AVal.unders n cs
  | .tuple vs => AVal.unders n vs
  | _ => true
def AVal.unders (n : Nat) : List AVal → Bool
  | [] => true
  | v :: r => v.under n && AVal.unders n r
end

mutual
/-- The numbers of all objects in it. -/
def AVal.ids : AVal → List Nat
  | .ptr (some (i, _)) => [i]
  | .slice (some (i, _)) _ _ => [i]
  | .map (some i) => [i]
  | .func _ f c => AVal.idsL f ++ AVal.idsL c
  | .iface _ v => v.ids
  | .agg cs => AVal.idsL cs
  | .tuple vs => AVal.idsL vs
  | _ => []
def AVal.idsL : List AVal → List Nat
  | [] => []
  | v :: r => v.ids ++ AVal.idsL r
end

mutual
def AVal.ren (f : Nat → Nat) : AVal → AVal
  | .ptr (some (i, o)) => .ptr (some (f i, o))
  | .slice (some (i, o)) n c => .slice (some (f i, o)) n c
  | .map (some i) => .map (some (f i))
  | .func g a c => .func g (AVal.renL f a) (AVal.renL f c)
  | .iface t v => .iface t (v.ren f)
  | .agg cs => .agg (AVal.renL f cs)
  | .tuple vs => .tuple (AVal.renL f vs)
  | v => v
def AVal.renL (f : Nat → Nat) : List AVal → List AVal
  | [] => []
  | v :: r => v.ren f :: AVal.renL f r
end

def AObj.ids : AObj → List Nat
  | .cells _ cs => AVal.idsL cs
  | .map es _ => es.flatMap fun (k, v, _) => k.ids ++ v.ids
  | _ => []

def AObj.ren (f : Nat → Nat) : AObj → AObj
  | .cells e cs => .cells e (AVal.renL f cs)
  | .map es c => .map (es.map fun (k, v, b) => (k.ren f, v.ren f, b)) c
  | o => o

/-- The new objects that can be reached, in the order in which they are met. -/
def reach (h : Heap) (n0 : Nat) : Nat → List Nat → List Nat → List Nat
  | 0, _, acc => acc
  | _ + 1, [], acc => acc
  | f + 1, i :: r, acc =>
    if i < n0 then reach h n0 f r acc
    else if acc.contains i then reach h n0 f r acc
    else reach h n0 f (((h.get i).map AObj.ids).getD [] ++ r) (acc ++ [i])

def idxIn (i : Nat) : List Nat → Nat
  | [] => 0
  | j :: r => if j = i then 0 else idxIn i r + 1

/-- Behind a call that wrote to nothing that was there: what it made and can't be reached is gone, what can be reached stands in order. -/
def finish (h0 : Heap) (v : AVal) (h : Heap) : AVal × Heap :=
  if h.wmin < h0.size then (v, { h with wmin := min h0.wmin h.wmin })
  else if v.under h0.size then (v, h0)
  else
    let k := reach h h0.size 1000 v.ids []
    let ok := (v.ids ++ k.flatMap fun i => ((h.get i).map AObj.ids).getD []).all fun i => i < h0.size || k.contains i
    let f := fun i => if i < h0.size then i else h0.size + idxIn i k
    if ok then (v.ren f, { h0 with objs := h0.objs ++ k.map fun i => ((h.get i).map (AObj.ren f)).getD .dead })
    else (v, { h with wmin := h0.wmin })

def enter (i : Nat) : List AVal → Slots
  | [] => []
  | v :: r => (i, .val v) :: enter (i + 1) r

def result1 (s : Slots) (h : Heap) : ARes → Option AVal
  | .tmp t => match sget s t with
    | some (.val v) => some v
    | _ => none
  | .cell t n => match (Opd.tmp t).adr s with
    | some a => loadAt s h a n
    | none => none

def resultsL (s : Slots) (h : Heap) : List ARes → Option (List AVal)
  | [] => some []
  | x :: r => match result1 s h x, resultsL s h r with
    | some v, some vs => some (v :: vs)
    | _, _ => none

def tupled : List AVal → AVal
  | [v] => v
  | vs => .tuple vs

def evFunc (call : CallSem) (n : Nat) (f : AFunc) (args : List AVal) (h : Heap) : Option (AVal × Heap) :=
  if args.length = f.nargs then
    match evCode call n f.body ⟨enter 0 args, { h with wmin := h.size }⟩ with
    | some (.normal, st) | some (.ret, st) => (resultsL st.s st.h f.results).map fun vs => finish h (tupled vs) st.h
    | _ => none
  else none

/-- A call that neither reads nor makes what is there: it is run in a memory of its own. -/
def evClosed (r : List AVal → Heap → Option (AVal × Heap)) (args : List AVal) (h : Heap) : Option (AVal × Heap) :=
  if AVal.unders 0 args then match r args ⟨[], 0, 0⟩ with
    | some (v, _) => if v.under 0 then some (v, h) else none
    | none => none
  else none

def wrapC (closed : Bool) (r : List AVal → Heap → Option (AVal × Heap)) (args : List AVal) (h : Heap) : Option (AVal × Heap) :=
  if closed then evClosed r args h else r args h

def evCall (T : Nat → Option AFunc) : Nat → CallSem
  | 0 => fun _ _ _ => none
  | n + 1 => fun g args h => match T g with
    | some f => wrapC f.closed (evFunc (evCall T n) n f) args h
    | none => none

end Go.Abs
