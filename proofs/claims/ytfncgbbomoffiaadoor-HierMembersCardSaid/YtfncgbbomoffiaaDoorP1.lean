/-
  The abstract machine: values, memory, operations and code with all types resolved, and the evaluator. It is a function: what the model leaves open (the order inside a statement, an array's spare room) is not to be seen in it. AbsSound shows that what it gives is what the model's call gives.
-/
import GoSem.Dispatch
import Derived.Lib.Bytealg
import Derived.Calls
import Derived.Laws.Sem
import Derived.Laws.Cells
import Derived.Laws.Strings
import Derived.Laws.Entries
import Derived.Deep.AppendSrc
import Derived.WalkSpells
import Derived.Laws.IdiomStrings
import Derived.Laws.BytesArg
namespace Go.Abs

/-- A value. Functions go by numbers of our own; a slice's capacity is known or not. -/
inductive AVal where
  | bool (b : Bool)
  | int (k : IntKind) (n : Int)
  | str (s : List UInt8)
  | ptr (a : Option (Nat × Nat))
  | slice (a : Option (Nat × Nat)) (len : Nat) (cap : Option Nat)
  | map (r : Option Nat)
  | func (g : Nat) (first caps : List AVal)
  | nilFunc
  | iface (t : Nat) (v : AVal)
  | nilIface
  | agg (cs : List AVal)
  | tuple (vs : List AVal)
  | yield (i : Nat)
  deriving Inhabited

inductive AExit where
  | normal
  | exit (id : Nat)
  | ret
  deriving DecidableEq

inductive LoopSt where
  | ready
  | busy
  | done
  deriving DecidableEq

inductive AObj where
  | dead
  | cells (esz : Nat) (cs : List AVal)
  | map (es : List (AVal × AVal × Nat)) (clock : Nat)
  | iter (s : List UInt8) (pos : Nat)
  | mapIter (m : Option Nat) (since : Nat) (seen : List Nat) (last : Nat)
  | loop (g : Nat) (st : LoopSt) (pend : Option AExit) (slots : List (Nat × AVal))
  deriving Inhabited

/-- Memory: objects by number. Those below 'base' are never written; of those that were there, none below 'wmin' has been written. -/
structure Heap where
  objs : List AObj
  base : Nat
  wmin : Nat

def Heap.size (h : Heap) : Nat := h.objs.length
def Heap.push (h : Heap) (o : AObj) : Heap := { h with objs := h.objs ++ [o] }
def Heap.get (h : Heap) (i : Nat) : Option AObj := h.objs[i]?
def Heap.put (h : Heap) (i : Nat) (o : AObj) : Heap := { h with objs := h.objs.set i o, wmin := min h.wmin i }

inductive Slot where
  | val (v : AVal)
  | undef
  | var (cs : List AVal)
  | loc (t off : Nat)
  | gone
  deriving Inhabited

abbrev Slots := List (Nat × Slot)

def sget : Slots → Nat → Option Slot
  | [], _ => none
  | (u, s) :: r, t => if u = t then some s else sget r t

/-- What stands behind slot t's variable is forgotten: a new variable comes. -/
def unloc (t : Nat) : Slots → Slots
  | [] => []
  | (u, .loc t' off) :: r => (u, if t' = t then .gone else .loc t' off) :: unloc t r
  | x :: r => x :: unloc t r

def keep (live : List Nat) (s : Slots) : Slots :=
  live.filterMap fun t => match sget s t with
    | some (.loc _ _) => none
    | some .gone => none
    | some x => some (t, x)
    | none => none

inductive Opd where
  | tmp (t : Nat)
  | const (v : AVal)

def Opd.ev (s : Slots) : Opd → Option AVal
  | .tmp t => match sget s t with
    | some (.val v) => some v
    | _ => none
  | .const v => some v

def evs (s : Slots) : List Opd → Option (List AVal)
  | [] => some []
  | x :: r => match x.ev s, evs s r with
    | some v, some vs => some (v :: vs)
    | _, _ => none

inductive AAddr where
  | glob (i off : Nat)
  | loc (t off : Nat)

def Opd.adr (s : Slots) : Opd → Option AAddr
  | .tmp t => match sget s t with
    | some (.val (.ptr (some (i, o)))) => some (.glob i o)
    | some (.var _) => some (.loc t 0)
    | some (.loc t' o) => some (.loc t' o)
    | _ => none
  | .const _ => none

def AVal.cells? : AVal → Option (List AVal)
  | .agg cs => some cs
  | .tuple _ => none
  | v => some [v]

def AVal.isOne : AVal → Bool
  | .agg _ | .tuple _ => false
  | _ => true

inductive ConvKind where
  | int (k : IntKind)
  | str
  | bytes
  | string

inductive SliceKind where
  | str
  | sl (esz : Nat)
  | arr (n esz : Nat)

inductive NilKind where
  | ptr
  | slice
  | map
  | func

inductive LenKind where
  | str
  | sl
  | map

/-- What a cell of a key is. -/
inductive CK where
  | b
  | i
  | s

/-- A key: one cell, or so many. -/
inductive KeyT where
  | one (c : CK)
  | agg (cs : List CK)

/-- Functions of the library for which the model stands in. -/
inductive PrimK where
  | indexByte
  | countByte

/-- Operations on values. -/
inductive PureOp where
  | eqcells (neg : Bool) (ks : List CK)
  | cap
  | prim (k : PrimK)

/-- Operations on values and memory that are asked of the operands' values alone. -/
inductive ExtOp where
  | mkmap
  | mkiter
  | lookup (kn : KeyT) (zero : AVal) (ok : Bool)
  | mapupd (kn : KeyT)
  | delete (kn : KeyT)
  | entry
  | hstore (n : Nat)
  | pure (p : PureOp)

inductive AOp where
  | val (x : Opd)
  | pick (c a b : Opd)
  | alloc (esz : Nat) (zero : List AVal)
  | lalloc (zero : List AVal)
  | box (x : Opd)
  | lbox (x : Opd)
  | build (zero : List AVal) (parts : List (Nat × Nat × Opd))
  | mkslice (esz len : Nat) (zero : List AVal) (parts : List (Nat × Nat × Opd))
  | load (n : Option Nat) (a : Opd)
  | store (n : Nat) (a x : Opd)
  | bin (op : BinOp) (x y : Opd)
  | un (op : UnOp) (x : Opd)
  | conv (k : ConvKind) (x : Opd)
  | mkfunc (g : Nat) (first caps : List Opd)
  | make (esz bytes : Nat) (zero : List AVal) (len cap : Opd)
  | slice (k : SliceKind) (x : Opd) (lo hi mx : Option Opd)
  | faddr (x : Opd) (off : Nat)
  | field (x : Opd) (off : Nat) (n : Option Nat)
  | iaddr (esz : Nat) (x i : Opd)
  | aaddr (len esz : Nat) (x i : Opd)
  | index (x i : Opd)
  | aindex (len esz : Nat) (n : Option Nat) (x i : Opd)
  | extract (x : Opd) (i : Nat)
  | call (f : Opd) (args : List Opd)
  | callg (g : Nat) (args : List Opd)
  | len (k : LenKind) (x : Opd)
  | append (esz bytes : Nat) (x y : Opd)
  | copy (esz : Nat) (d s : Opd)
  | minmax (isMax : Bool) (xs : List Opd)
  | nilcheck (x : Opd)
  | eqnil (k : NilKind) (neg : Bool) (x y : Opd)
  | beq (neg : Bool) (x y : Opd)
  | ext (k : ExtOp) (xs : List Opd)
  | nextStr (x : Opd)

structure AOper where
  dst : Option Nat
  guard : Option (Nat × Bool)
  op : AOp

structure Seg where
  quiet : Bool
  soft : List Nat
  ops : List AOper

inductive ACode where
  | skip
  | region (segs : List Seg)
  | seq (a b : ACode)
  | cond (c : Opd) (t e : ACode)
  | block (id : Nat) (c : ACode)
  | loop (c : ACode)
  | exit (id : Nat)
  | ret
  | live (l : List Nat) (c : ACode)
  | after (c : ACode) (l : List Nat)
  | rangeFunc (f : Opd) (g : Nat) (caps : List Nat) (ps : List Nat) (a b : ACode)
  | next (d : Option Nat) (x : Opd)

inductive ARes where
  | tmp (t : Nat)
  | cell (t : Nat) (n : Option Nat)

/-- The body of a loop over a function: it runs as a call of its own. -/
structure ARound where
  params : List Nat
  assign : ACode
  body : ACode

/-- The loops over functions in a code. -/
def ACode.rounds : ACode → List (Nat × ARound)
  | .skip | .region _ | .exit _ | .ret | .next _ _ => []
  | .seq a b | .cond _ a b => a.rounds ++ b.rounds
  | .block _ c | .loop c | .live _ c | .after c _ => c.rounds
  | .rangeFunc _ g _ ps a b => [(g, ⟨ps, a, b⟩)]

/-- Does it step through a map? -/
def ACode.wild : ACode → Bool
  | .skip | .region _ | .exit _ | .ret | .rangeFunc _ _ _ _ _ _ => false
  | .seq a b | .cond _ a b => a.wild || b.wild
  | .block _ c | .loop c | .live _ c | .after c _ => c.wild
  | .next _ _ => true

/-- What isn't run as a code: the body of a loop over a function; a function of Go's library, by what it tells. -/
inductive ASpec where
  | round (r : ARound)
  | lib (f : List AVal → Heap → Option AVal)

structure AFunc where
  closed : Bool
  wild : Bool
  nargs : Nat
  ntmps : Nat
  results : List ARes
  body : ACode
  round : Option ASpec

/-! ## Numbers, texts -/

def aBits (op : BinOp) (k : IntKind) (x y : Int) : Option AVal :=
  match op with
  | .and => some (.int k (k.wrap (BitVec.ofInt k.bits x &&& BitVec.ofInt k.bits y).toNat))
  | .or => some (.int k (k.wrap (BitVec.ofInt k.bits x ||| BitVec.ofInt k.bits y).toNat))
  | .xor => some (.int k (k.wrap (BitVec.ofInt k.bits x ^^^ BitVec.ofInt k.bits y).toNat))
  | .andNot => some (.int k (k.wrap (BitVec.ofInt k.bits x &&& ~~~(BitVec.ofInt k.bits y)).toNat))
  | _ => none

def aBytesLess : List UInt8 → List UInt8 → Bool
  | _, [] => false
  | [], _ :: _ => true
  | a :: x, b :: y => a < b || (a == b && aBytesLess x y)

def aBin (op : BinOp) : AVal → AVal → Option AVal
  | .int k x, .int k' y =>
    match op with
    | .shl => if y < 0 then none else some (.int k (k.wrap (x * 2 ^ (min y.toNat k.bits))))
    | .shr => if y < 0 then none else some (.int k (x.fdiv (2 ^ (min y.toNat k.bits))))
    | _ => if k = k' then
        match op with
        | .add => some (.int k (k.wrap (x + y)))
        | .sub => some (.int k (k.wrap (x - y)))
        | .mul => some (.int k (k.wrap (x * y)))
        | .quo => if y = 0 then none else some (.int k (k.wrap (x.tdiv y)))
        | .rem => if y = 0 then none else some (.int k (x.tmod y))
        | .eql => some (.bool (decide (x = y)))
        | .neq => some (.bool (!decide (x = y)))
        | .lss => some (.bool (x < y))
        | .leq => some (.bool (x ≤ y))
        | .gtr => some (.bool (x > y))
        | .geq => some (.bool (x ≥ y))
        | op => aBits op k x y
      else none
  | .str a, .str b =>
    match op with
    | .add => if a.length + b.length ≤ 9223372036854775807 then some (.str (a ++ b)) else none
    | .eql => some (.bool (decide (a = b)))
    | .neq => some (.bool (!decide (a = b)))
    | .lss => some (.bool (aBytesLess a b))
    | .leq => some (.bool (aBytesLess a b || decide (a = b)))
    | .gtr => some (.bool !(aBytesLess a b || decide (a = b)))
    | .geq => some (.bool !(aBytesLess a b))
    | _ => none
  | _, _ => none

def aUn (op : UnOp) : AVal → Option AVal
  | .int k n => match op with
    | .neg => some (.int k (k.wrap (0 - n)))
    | .xor => aBits .xor k (if k.signed then -1 else k.max) n
    | _ => none
  | .bool b => match op with
    | .not => some (.bool !b)
    | _ => none
  | _ => none

def aMin2 (isMax : Bool) : AVal → AVal → Option AVal
  | .int k x, .int k' y => if k = k' then some (.int k (if isMax then (if x < y then y else x) else (if y < x then y else x))) else none
  | _, _ => none

def aMins (isMax : Bool) (v : AVal) : List AVal → Option AVal
  | [] => some v
  | x :: r => match aMin2 isMax v x with
    | some y => aMins isMax y r
    | none => none

/-- '==', one side being nil. -/
def aEqNil : NilKind → AVal → AVal → Option Bool
  | .ptr, .ptr none, .ptr b => some b.isNone
  | .ptr, .ptr (some _), .ptr none => some false
  | .slice, .slice none _ _, .slice b _ _ => some b.isNone
  | .slice, .slice (some _) _ _, .slice none _ _ => some false
  | .map, .map none, .map b => some b.isNone
  | .map, .map (some _), .map none => some false
  | .func, .nilFunc, .nilFunc => some true
  | .func, .nilFunc, .func _ _ _ => some false
  | .func, .func _ _ _, .nilFunc => some false
  | _, _, _ => none

/-! ## Parts of aggregates -/

/-- Cells from 'off' on, replaced. -/
def splice (cs : List AVal) (off : Nat) (xs : List AVal) : List AVal := cs.take off ++ xs ++ cs.drop (off + xs.length)

def fill (s : Slots) (cs : List AVal) : List (Nat × Nat × Opd) → Option (List AVal)
  | [] => some cs
  | (off, n, x) :: r =>
    match (x.ev s).bind AVal.cells? with
    | some xs => if xs.length = n ∧ off + n ≤ cs.length then fill s (splice cs off xs) r else none
    | none => none

/-- A part of an aggregate's cells: one cell, or n of them. -/
def part (cs : List AVal) (off : Nat) : Option Nat → Option AVal
  | none => cs[off]?
  | some n => if off + n ≤ cs.length then some (.agg ((cs.drop off).take n)) else none

/-! ## Memory -/

def cellsAt (s : Slots) (h : Heap) : AAddr → Option (List AVal × Nat)
  | .glob i o => match h.get i with
    | some (.cells _ cs) => some (cs, o)
    | _ => none
  | .loc t o => match sget s t with
    | some (.var cs) => some (cs, o)
    | _ => none

def loadAt (s : Slots) (h : Heap) (a : AAddr) (n : Option Nat) : Option AVal :=
  match cellsAt s h a with
  | some (cs, o) => part cs o n
  | none => none

def storeAt (s : Slots) (h : Heap) (a : AAddr) (xs : List AVal) : Option (Slots × Heap) :=
  match a with
  | .glob i o => match h.get i with
    | some (.cells e cs) => if h.base ≤ i ∧ o + xs.length ≤ cs.length then some (s, h.put i (.cells e (splice cs o xs))) else none
    | _ => none
  | .loc t o => match sget s t with
    | some (.var cs) => if o + xs.length ≤ cs.length then some ((t, .var (splice cs o xs)) :: s, h) else none
    | _ => none

/-- An index's number, if it lies in bounds. -/
def inBounds (n : Nat) : AVal → Option Nat
  | .int _ i => if 0 ≤ i ∧ i < n then some i.toNat else none
  | _ => none

/-- A bound's number, if it is at most n. -/
def upTo (n : Nat) : AVal → Option Nat
  | .int _ i => if 0 ≤ i ∧ i ≤ n then some i.toNat else none
  | _ => none

def optEv (s : Slots) : Option Opd → Option (Option AVal)
  | none => some none
  | some x => (x.ev s).map some

def lowB (b : Nat) : Option AVal → Option Nat
  | some l => upTo b l
  | none => some 0

/-- The three bounds of a slice expression: of a slice of length n whose capacity is 'cap'. -/
def bounds (n : Nat) (cap : Option Nat) (lo hi mx : Option AVal) : Option (Nat × Nat × Option Nat) :=
  match mx with
  | some m =>
    match upTo (cap.getD n) m with
    | some m =>
      match hi with
      | some hv => match upTo m hv with
        | some b => (lowB b lo).map fun a => (a, b, some m)
        | none => none
      | none => none
    | none => none
  | none =>
    match hi with
    | some hv => match upTo (cap.getD n) hv with
      | some b => (lowB b lo).map fun a => (a, b, cap)
      | none => none
    | none => (lowB n lo).map fun a => (a, n, cap)

/-- Are the elements of that row of so many cells? -/
def eszIs (h : Heap) (i e : Nat) : Bool :=
  match h.get i with
  | some (.cells e' _) => e' == e
  | some .dead => true
  | _ => false

def aSlice (k : SliceKind) (s : Slots) (h : Heap) (x : Opd) (lo hi mx : Option AVal) : Option AVal :=
  match k with
  | .str => match x.ev s with
    | some (.str t) => match mx with
      | none => (bounds t.length (some t.length) lo hi none).map fun (a, b, _) => .str ((t.drop a).take (b - a))
      | some _ => none
    | _ => none
  | .sl e => match x.ev s with
    | some (.slice none _ _) => (bounds 0 (some 0) lo hi mx).map fun _ => .slice none 0 (some 0)
    | some (.slice (some (i, o)) n c) => if eszIs h i e then (bounds n c lo hi mx).map fun (a, b, m) =>
        -- an empty rest of all that there is stays where it was
        .slice (some (i, if m = some a then o else o + a * e)) (b - a) (m.map (· - a))
      else none
    | _ => none
  | .arr n e => match x.adr s with
    | some (.glob i o) => match h.get i with
      | some (.cells e' cs) => if e' = e ∧ o + n * e ≤ cs.length then (bounds n (some n) lo hi mx).map fun (a, b, m) =>
          .slice (some (i, if m = some a then o else o + a * e)) (b - a) (m.map (· - a))
        else none
      | _ => none
    | _ => none

/-- A slice's elements, as cells. -/
def rowOf (esz : Nat) (h : Heap) : AVal → Option (List AVal)
  | .slice none _ _ => some []
  | .slice (some (i, o)) n _ => if n = 0 then some [] else match h.get i with
    | some (.cells e cs) => if e = esz ∧ o + n * esz ≤ cs.length then some ((cs.drop o).take (n * esz)) else none
    | _ => none
  | .str s => if esz = 1 then some (s.map fun b => .int .u8 b.toNat) else none
  | _ => none

def rowIs (h : Heap) (i e : Nat) : Bool :=
  match h.get i with
  | some (.cells e' _) => e' == e
  | _ => false

def alen : AVal → Nat
  | .slice _ m _ => m
  | .str s => s.length
  | _ => 0

/-- append: nothing appended: as it was; a slice that is known to be full, or nil: a new row; else: a new row in the elder one's place, whose number is gone. -/
def aApp (esz bytes : Nat) (h : Heap) (a : Option (Nat × Nat)) (n : Nat) (c : Option Nat) (m : Nat) (old new : List AVal) : Option (AVal × Heap) :=
  if m = 0 then some (.slice a n c, h)
  else if (n + m) * bytes ≤ 140737488355328 ∧ n + m ≤ 9223372036854775807 then
    match a with
    | none => some (.slice (some (h.size, 0)) (n + m) none, h.push (.cells esz (old ++ new)))
    | some (i, _) =>
      if c = some n then some (.slice (some (h.size, 0)) (n + m) none, h.push (.cells esz (old ++ new)))
      else if h.base ≤ i ∧ rowIs h i esz = true then some (.slice (some (h.size, 0)) (n + m) none, (h.put i .dead).push (.cells esz (old ++ new)))
      else none
  else none

def aAppend (esz bytes : Nat) (h : Heap) (x y : AVal) : Option (AVal × Heap) :=
  match x with
  | .slice a n c => match rowOf esz h (.slice a n c), rowOf esz h y with
    | some old, some new => aApp esz bytes h a n c (alen y) old new
    | _, _ => none
  | _ => none

def bytesOf : List AVal → Option (List UInt8)
  | [] => some []
  | .int .u8 n :: r => (bytesOf r).map (UInt8.ofNat n.toNat :: ·)
  | _ => none

def isVar (s : Slots) (t : Nat) : Bool :=
  match sget s t with
  | some (.var _) => true
  | _ => false

/-! ## Keys, maps -/

def akey1 : AVal → AVal → Option Bool
  | .str a, .str b => some (decide (a = b))
  | .int k a, .int k' b => if k = k' then some (decide (a = b)) else none
  | .bool a, .bool b => some (decide (a = b))
  | _, _ => none

def akeyL : List AVal → List AVal → Option Bool
  | [], [] => some true
  | a :: as, b :: bs => match akey1 a b with
    | some true => akeyL as bs
    | some false => some false
    | none => none
  | _, _ => none

def akey : AVal → AVal → Option Bool
  | .agg a, .agg b => if a.length = b.length then akeyL a b else none
  | a, b => akey1 a b

def CK.is : CK → AVal → Bool
  | .b, .bool _ => true
  | .i, .int _ _ => true
  | .s, .str _ => true
  | _, _ => false

def areKeys : List CK → List AVal → Bool
  | [], [] => true
  | k :: ks, v :: vs => k.is v && areKeys ks vs
  | _, _ => false

def isKey : KeyT → AVal → Bool
  | .one c, v => c.is v
  | .agg ks, .agg cs => areKeys ks cs
  | _, _ => false

def findA (k : AVal) : List (AVal × AVal × Nat) → Option (Option (Nat × AVal))
  | [] => some none
  | e :: es => match akey k e.1 with
    | some true => some (some (0, e.2.1))
    | some false => (findA k es).map fun r => r.map fun (i, v) => (i + 1, v)
    | none => none

/-- A map's entries; a nil map has none. -/
def entriesOf (h : Heap) : AVal → Option (List (AVal × AVal × Nat))
  | .map none => some []
  | .map (some r) => match h.get r with
    | some (.map es _) => some es
    | _ => none
  | _ => none

def evEq (neg : Bool) (ks : List CK) : AVal → AVal → Option AVal
  | .agg a, .agg b => if areKeys ks a = true ∧ a.length = b.length then (akeyL a b).map fun e => .bool (if neg then !e else e) else none
  | _, _ => none

def evCap : AVal → Option AVal
  | .slice _ _ (some c) => some (.int .i64 c)
  | _ => none

def evPrim (k : PrimK) (vs : List AVal) : Option AVal :=
  match k, vs with
  | .indexByte, [.str s, .int .u8 c] => some (.int .i64 (Lib.indexByte s c.toNat.toUInt8))
  | .countByte, [.str s, .int .u8 c] => some (.int .i64 (Lib.countByte s c.toNat.toUInt8))
  | _, _ => none

def evPure (p : PureOp) (vs : List AVal) : Option AVal :=
  match p, vs with
  | .eqcells neg ks, [x, y] => evEq neg ks x y
  | .cap, [x] => evCap x
  | .prim k, vs => evPrim k vs
  | _, _ => none

def evExt (k : ExtOp) (vs : List AVal) (h : Heap) : Option (AVal × Heap) :=
  match k, vs with
  | .mkmap, [] => some (.map (some h.size), h.push (.map [] 0))
  | .mkiter, [.map none] => some (.ptr (some (h.size, 0)), h.push (.mapIter none 0 [] 0))
  | .mkiter, [.map (some r)] => match h.get r with
    | some (.map _ clock) => some (.ptr (some (h.size, 0)), h.push (.mapIter (some r) clock [] clock))
    | _ => none
  | .lookup kn zero ok, [m, k] => if isKey kn k then match entriesOf h m with
      | some es => match findA k es with
        | some (some (_, v)) => some (if ok then .tuple [v, .bool true] else v, h)
        | some none => some (if ok then .tuple [zero, .bool false] else zero, h)
        | none => none
      | none => none
    else none
  | .mapupd kn, [.map (some r), k, v] => if isKey kn k ∧ h.base ≤ r then match h.get r with
      | some (.map es clock) => match findA k es with
        | some (some (i, _)) => some (.tuple [], h.put r (.map (es.modify i fun e => (k, v, e.2.2)) clock))
        | some none => some (.tuple [], h.put r (.map (es ++ [(k, v, clock)]) (clock + 1)))
        | none => none
      | _ => none
    else none
  | .delete kn, [.map none, k] => if isKey kn k then some (.tuple [], h) else none
  | .delete kn, [.map (some r), k] => if isKey kn k ∧ h.base ≤ r then match h.get r with
      | some (.map es clock) => match findA k es with
        | some (some (i, _)) => some (.tuple [], h.put r (.map (es.eraseIdx i) clock))
        | some none => some (.tuple [], h)
        | none => none
      | _ => none
    else none
  | .entry, [.ptr (some (i, 0))] => match h.get i with
    | some (.mapIter (some m) _ seen last) => match seen.getLast?, h.get m with
      | some st, some (.map es clock) => if clock = last then (es.find? fun e => e.2.2 == st).map fun e => (.tuple [e.1, e.2.1], h) else none
      | _, _ => none
    | _ => none
  | .hstore n, [.ptr (some (i, o)), v] => match v.cells?, h.get i with
    | some xs, some (.cells e cs) => if xs.length = n ∧ h.base ≤ i ∧ o + xs.length ≤ cs.length then some (.tuple [], h.put i (.cells e (splice cs o xs))) else none
    | _, _ => none
  | .pure p, vs => (evPure p vs).map fun v => (v, h)
  | _, _ => none

abbrev CallSem := Nat → List AVal → Heap → Option (AVal × Heap)

/-- Repeat cells n times. -/
def rep (n : Nat) (zero : List AVal) : List AVal := (List.replicate n zero).flatten

def ok1 (s : Slots) (h : Heap) (v : Option AVal) : Option (Slot × Slots × Heap) := v.map fun v => (.val v, s, h)

def evLen (k : LenKind) (v : AVal) (h : Heap) : Option AVal :=
  match k with
  | .str => match v with
    | .str t => some (.int .i64 t.length)
    | _ => none
  | .sl => match v with
    | .slice _ n _ => some (.int .i64 n)
    | _ => none
  | .map => match v with
    | .map none => some (.int .i64 0)
    | .map (some r) => match h.get r with
      | some (.map es _) => some (.int .i64 es.length)
      | _ => none
    | _ => none

def evConv (k : ConvKind) (v : AVal) (s : Slots) (h : Heap) : Option (Slot × Slots × Heap) :=
  match k with
  | .int k => match v with
    | .int _ n => ok1 s h (some (.int k (k.wrap n)))
    | _ => none
  | .str => match v with
    | .str t => ok1 s h (some (.str t))
    | _ => none
  | .bytes => match v with
    | .str t => some (.val (.slice (some (h.size, 0)) t.length none), s, h.push (.cells 1 (t.map fun b => .int .u8 b.toNat)))
    | _ => none
  | .string => match v with
    | .slice a n c => match (rowOf 1 h (.slice a n c)).bind bytesOf with
      | some t => ok1 s h (some (.str t))
      | none => none
    | _ => none

def evOp (call : CallSem) (dst : Nat) (o : AOp) (s : Slots) (h : Heap) : Option (Slot × Slots × Heap) :=
  match o with
  | .val x => ok1 s h (x.ev s)
  | .pick c a b => match c.ev s with
    | some (.bool true) => ok1 s h (a.ev s)
    | some (.bool false) => ok1 s h (b.ev s)
    | _ => none
  | .alloc e z => some (.val (.ptr (some (h.size, 0))), s, h.push (.cells e z))
  | .lalloc z => some (.var z, unloc dst s, h)
  | .box x => match (x.ev s).bind AVal.cells? with
    | some cs => some (.val (.ptr (some (h.size, 0))), s, h.push (.cells cs.length cs))
    | none => none
  | .lbox x => match (x.ev s).bind AVal.cells? with
    | some cs => some (.var cs, unloc dst s, h)
    | none => none
  | .build z ps => ok1 s h ((fill s z ps).map .agg)
  | .mkslice e n z ps => match fill s z ps with
    | some cs => some (.val (.slice (some (h.size, 0)) n (some n)), s, h.push (.cells e cs))
    | none => none
  | .load n a => match a.adr s with
    | some a => ok1 s h (loadAt s h a n)
    | none => none
  | .store n a x => match a.adr s, (x.ev s).bind AVal.cells? with
    | some a, some xs => if xs.length = n then (storeAt s h a xs).map fun (s', h') => (.undef, s', h') else none
    | _, _ => none
  | .bin op x y => match x.ev s, y.ev s with
    | some x, some y => ok1 s h (aBin op x y)
    | _, _ => none
  | .un op x => match x.ev s with
    | some x => ok1 s h (aUn op x)
    | none => none
  | .conv k x => match x.ev s with
    | some v => evConv k v s h
    | none => none
  | .mkfunc g f c => match evs s f, evs s c with
    | some f, some c => ok1 s h (some (.func g f c))
    | _, _ => none
  | .make e b z l c => match l.ev s, c.ev s with
    | some (.int kl n), some (.int kc m) =>
      if 0 ≤ n ∧ n ≤ m ∧ m * b ≤ 140737488355328 ∧ m ≤ 9223372036854775807 ∧ kl = .i64 ∧ kc = .i64 then
        some (.val (.slice (some (h.size, 0)) n.toNat (some m.toNat)), s, h.push (.cells e (rep m.toNat z)))
      else none
    | _, _ => none
  | .slice k x lo hi mx => match optEv s lo, optEv s hi, optEv s mx with
    | some lo, some hi, some mx => ok1 s h (aSlice k s h x lo hi mx)
    | _, _, _ => none
  | .faddr x off => match x.adr s with
    | some (.glob i o) => ok1 s h (some (.ptr (some (i, o + off))))
    | some (.loc t o) => if isVar s t then some (.loc t (o + off), s, h) else none
    | none => none
  | .field x off n => match x.ev s with
    | some (.agg cs) => ok1 s h (part cs off n)
    | _ => none
  | .iaddr e x i => match x.ev s, i.ev s with
    | some (.slice (some (b, o)) n _), some i => ok1 s h ((inBounds n i).map fun j => .ptr (some (b, o + j * e)))
    | _, _ => none
  | .aaddr n e x i => match x.adr s, i.ev s with
    | some (.glob b o), some i => ok1 s h ((inBounds n i).map fun j => .ptr (some (b, o + j * e)))
    | some (.loc t o), some i => if isVar s t then (inBounds n i).map fun j => (.loc t (o + j * e), s, h) else none
    | _, _ => none
  | .index x i => match x.ev s, i.ev s with
    | some (.str t), some i => ok1 s h ((inBounds t.length i).bind fun j => (t[j]?).map fun b => .int .u8 b.toNat)
    | _, _ => none
  | .aindex n e k x i => match x.ev s, i.ev s with
    | some (.agg cs), some i => ok1 s h ((inBounds n i).bind fun j => part cs (j * e) k)
    | _, _ => none
  | .extract x i => match x.ev s with
    | some (.tuple vs) => ok1 s h vs[i]?
    | _ => none
  | .call f args => match f.ev s, evs s args with
    | some (.func g first caps), some as => (call g (first ++ as ++ caps) h).map fun (v, h') => (.val v, s, h')
    | some (.yield i), some as => match h.get i with
      | some (.loop g _ _ _) => (call g (.ptr (some (i, 0)) :: as) h).map fun (v, h') => (.val v, s, h')
      | _ => none
    | _, _ => none
  | .callg g args => match evs s args with
    | some as => (call g as h).map fun (v, h') => (.val v, s, h')
    | none => none
  | .len k x => match x.ev s with
    | some v => ok1 s h (evLen k v h)
    | none => none
  | .append e b x y => match x.ev s, y.ev s with
    | some x, some y => (aAppend e b h x y).map fun (v, h') => (.val v, s, h')
    | _, _ => none
  | .copy _ _ _ => none
  | .minmax mx xs => match evs s xs with
    | some (x :: r) => ok1 s h (aMins mx x r)
    | _ => none
  | .nilcheck x => match x.ev s with
    | some (.ptr (some a)) => ok1 s h (some (.ptr (some a)))
    | _ => match x.adr s with
      | some (.loc t o) => if isVar s t then some (.loc t o, s, h) else none
      | _ => none
  | .eqnil k neg x y => match x.ev s, y.ev s with
    | some x, some y => ok1 s h ((aEqNil k x y).map fun b => .bool (if neg then !b else b))
    | _, _ => none
  | .beq neg x y => match x.ev s, y.ev s with
    | some (.bool a), some (.bool b) => ok1 s h (some (.bool (if neg then !decide (a = b) else decide (a = b))))
    | _, _ => none
  | .ext k xs => match evs s xs with
    | some vs => (evExt k vs h).map fun (v, h') => (.val v, s, h')
    | none => none
  | .nextStr _ => none

/-- A slot is set. -/
def setSlot (dst : Option Nat) (x : Slot) (s : Slots) : Slots :=
  match dst with
  | some d => (d, x) :: s
  | none => s

def evRun (call : CallSem) (o : AOper) (s : Slots) (h : Heap) : Option (Slots × Heap) :=
  match evOp call (o.dst.getD 0) o.op s h with
  | some (x, s', h') => some (setSlot o.dst x s', h')
  | none => none

def evOper (call : CallSem) (o : AOper) (s : Slots) (h : Heap) : Option (Slots × Heap) :=
  match o.guard with
  | none => evRun call o s h
  | some (t, want) => match sget s t with
    | some (.val (.bool b)) => if b = want then evRun call o s h else some (setSlot o.dst .undef s, h)
    | some .undef => some (setSlot o.dst .undef s, h)
    | _ => none

def evOps (call : CallSem) : List AOper → Slots → Heap → Option (Slots × Heap)
  | [], s, h => some (s, h)
  | o :: r, s, h => match evOper call o s h with
    | some (s', h') => evOps call r s' h'
    | none => none

mutual
/-- The numbers of all objects in it. -/
def AVal.ids : AVal → List Nat
  | .ptr (some (i, _)) => [i]
  | .slice (some (i, _)) _ _ => [i]
  | .map (some i) => [i]
  | .yield i => [i]
  | .func _ f c => AVal.idsL f ++ AVal.idsL c
  | .iface _ v => v.ids
  | .agg cs => AVal.idsL cs
  | .tuple vs => AVal.idsL vs
  | _ => []
def AVal.idsL : List AVal → List Nat
  | [] => []
  | v :: r => v.ids ++ AVal.idsL r
end

mutual
def AVal.ren (f : Nat → Nat) : AVal → AVal
  | .ptr (some (i, o)) => .ptr (some (f i, o))
  | .slice (some (i, o)) n c => .slice (some (f i, o)) n c
  | .map (some i) => .map (some (f i))
  | .yield i => .yield (f i)
  | .func g a c => .func g (AVal.renL f a) (AVal.renL f c)
  | .iface t v => .iface t (v.ren f)
  | .agg cs => .agg (AVal.renL f cs)
  | .tuple vs => .tuple (AVal.renL f vs)
  | v => v
def AVal.renL (f : Nat → Nat) : List AVal → List AVal
  | [] => []
  | v :: r => v.ren f :: AVal.renL f r
end

def AObj.ids : AObj → List Nat
  | .cells _ cs => AVal.idsL cs
  | .map es _ => es.flatMap fun (k, v, _) => k.ids ++ v.ids
  | .loop _ _ _ sl => AVal.idsL (sl.map (·.2))
  | .mapIter (some m) _ _ _ => [m]
  | _ => []

def AObj.ren (f : Nat → Nat) : AObj → AObj
  | .cells e cs => .cells e (AVal.renL f cs)
  | .map es c => .map (es.map fun (k, v, b) => (k.ren f, v.ren f, b)) c
  | .loop g st p sl => .loop g st p (sl.map fun (t, v) => (t, v.ren f))
  | .mapIter m a b c => .mapIter (m.map f) a b c
  | o => o

/-- Operations whose order may be any: none of them changes what is there, nor a variable of the frame. -/
def evQuiet (call : CallSem) : List AOper → Slots → Heap → Option (Slots × Heap)
  | [], s, h => some (s, h)
  | o :: r, s, h => match evOper call o s { h with wmin := h.size } with
    | some (s', h') => if h'.size = h.size ∧ h'.wmin = h.size ∧ (o.dst.all fun d => !isVar s d) = true then evQuiet call r s' h else none
    | none => none

/-! ## Parts whose order is open, in which objects are made -/

def Slot.ids : Slot → List Nat
  | .val v => v.ids
  | .var cs => AVal.idsL cs
  | _ => []

/-- Number N becomes r. -/
def mv (N r : Nat) : Nat → Nat := fun i => if i = N then r else i

def Slot.ren (f : Nat → Nat) : Slot → Slot
  | .val v => .val (v.ren f)
  | x => x

def noCall : CallSem := fun _ _ _ => none

/-- The operands behind which an operation looks into the memory. -/
def heapOpds : AOp → List Opd
  | .load _ a => [a]
  | .slice _ x _ _ _ => [x]
  | .conv _ x => [x]
  | .len _ x => [x]
  | .append _ _ x y => [x, y]
  | .ext (.pure _) _ => []
  | .ext _ xs => xs
  | _ => []

def AOp.isCall : AOp → Bool
  | .call _ _ | .callg _ _ => true
  | _ => false

def Opd.reads : Opd → List Nat
  | .tmp t => [t]
  | .const _ => []

def readsL : List Opd → List Nat
  | [] => []
  | x :: r => x.reads ++ readsL r

def readsO : Option Opd → List Nat
  | some x => x.reads
  | none => []

def readsP : List (Nat × Nat × Opd) → List Nat
  | [] => []
  | (_, _, x) :: r => x.reads ++ readsP r

/-- Which slots an operation looks at. -/
def AOp.reads : AOp → List Nat
  | .val x | .box x | .lbox x | .load _ x | .un _ x | .conv _ x | .faddr x _ | .field x _ _ | .extract x _ | .len _ x | .nilcheck x | .nextStr x => x.reads
  | .pick c a b => c.reads ++ a.reads ++ b.reads
  | .alloc _ _ | .lalloc _ => []
  | .build _ ps | .mkslice _ _ _ ps => readsP ps
  | .store _ a x => a.reads ++ x.reads
  | .bin _ x y | .iaddr _ x y | .aaddr _ _ x y | .index x y | .aindex _ _ _ x y | .append _ _ x y | .copy _ x y | .eqnil _ _ x y | .beq _ x y | .make _ _ _ x y => x.reads ++ y.reads
  | .mkfunc _ f c => readsL f ++ readsL c
  | .slice _ x a b c => x.reads ++ readsO a ++ readsO b ++ readsO c
  | .call f as => f.reads ++ readsL as
  | .callg _ as => readsL as
  | .minmax _ xs => readsL xs
  | .ext _ xs => readsL xs

def AOper.reads (o : AOper) : List Nat :=
  o.op.reads ++ (match o.guard with | some (t, _) => [t] | none => [])

/-! ## Parts whose order is open, in which variables are made -/

/-- The variable's slot that an operation makes. -/
def AOper.news (o : AOper) : Option Nat := match o.op with
  | .lalloc _ => o.dst
  | _ => none

def newVars (ops : List AOper) : List Nat := ops.filterMap AOper.news

/-- The slot that an operation sets. -/
def AOper.sets (V : List Nat) (o : AOper) : Option Nat := match o.op with
  | .store _ (.tmp t) _ => if V.contains t then some t else o.dst
  | _ => o.dst

/-- Is a slot one of V, or does it hold the address of one? -/
def looksAt (V : List Nat) (s : Slots) (t : Nat) : Bool := V.contains t || (match sget s t with
  | some (.loc u _) => V.contains u
  | _ => false)

def quietOk (V : List Nat) (o : AOper) (s : Slots) : Bool := match o.op with
  | .lalloc _ => o.guard.isNone && (match o.dst with
    | some d => V.contains d
    | none => false)
  | .store _ (.tmp t) x => o.guard.isNone && o.dst.isNone && V.contains t && isVar s t && x.reads.all fun u => !looksAt V s u
  | _ => (o.dst.all fun d => !isVar s d && !V.contains d) && (o.reads.all fun u => !looksAt V s u)

/-- As evQuiet; V: the variables that are made. -/
def evQuietV (call : CallSem) (V : List Nat) : List AOper → Slots → Heap → Option (Slots × Heap)
  | [], s, h => some (s, h)
  | o :: r, s, h => match evOper call o s { h with wmin := h.size } with
    | some (s', h') => if h'.size = h.size ∧ h'.wmin = h.size ∧ quietOk V o s = true then evQuietV call V r s' h else none
    | none => none

/-- No slot holds an address into a variable of V. -/
def noLocs (V : List Nat) : Slots → Bool
  | [] => true
  | (_, .loc u _) :: r => !V.contains u && noLocs V r
  | _ :: r => noLocs V r

/-- A quiet part. -/
def evQ (call : CallSem) (ops : List AOper) (s : Slots) (h : Heap) : Option (Slots × Heap) :=
  if newVars ops = [] then evQuiet call ops s h else if noLocs (newVars ops) s = true then evQuietV call (newVars ops) ops s h else none

/-- What an operation of such a part did: at what it looked, the object that it took the place of, from where on it may have written, what it made. -/
structure Did where
  isCall : Bool
  rd : List Nat
  ch : Option Nat
  wr : Option Nat
  lo : Nat
  hi : Nat

/-- Is object i made by one of those in m? -/
def seenBy (m : Nat) : Nat → List Did → Nat → Bool
  | _, [], _ => false
  | y, d :: r, i => (m.testBit y && decide (d.lo ≤ i) && decide (i < d.hi)) || seenBy m (y + 1) r i

/-- An operation that waits for those in m may name what was there, and the objects of those that it waits for. -/
def okId (n0 m : Nat) (ds : List Did) (i : Nat) : Bool := decide (i < n0) || seenBy m 0 ds i

def allSeen (m : Nat) : Nat → List Did → Bool
  | _, [] => true
  | y, d :: r => (m.testBit y || decide (d.hi ≤ d.lo)) && allSeen m (y + 1) r

def killRange (lo hi : Nat) (os : List AObj) : List AObj := os.mapIdx fun i o => if lo ≤ i ∧ i < hi then .dead else o

/-- What one that waits for those in m can't have seen is gone. -/
def hide (m : Nat) : Nat → List Did → List AObj → List AObj
  | _, [], os => os
  | y, d :: r, os => hide m (y + 1) r (if m.testBit y || decide (d.hi ≤ d.lo) then os else killRange d.lo d.hi os)

def Did.writes (x : Did) (i : Nat) : Bool := x.ch == some i || (match x.wr with | some w => decide (w ≤ i) | none => false)

/-- Of two neither of which waits for the other: does one change what the other looks at, or changes? -/
def clash (x y : Did) : Bool :=
  (x.isCall && y.isCall) || (x.ch.isSome && y.isCall) || (y.ch.isSome && x.isCall) ||
  (y.rd ++ y.ch.toList).any x.writes || (x.rd ++ x.ch.toList).any y.writes

def noClash (m : Nat) (x : Did) : Nat → List Did → Bool
  | _, [] => true
  | y, d :: r => (m.testBit y || !clash x d) && noClash m x (y + 1) r

def slotIds (s : Slots) (t : Nat) : List Nat := match sget s t with
  | some x => x.ids
  | none => []

def dstSlot (d : Option Nat) (s : Slots) : Slot := match d with
  | some d => (sget s d).getD .undef
  | none => .undef

def rdIds (o : AOp) (s : Slots) : List Nat := (heapOpds o).flatMap fun x => match x.ev s with
  | some v => v.ids
  | none => []

/-- One operation: what it gives, the memory, what it did. -/
def openOne (call : CallSem) (n0 m : Nat) (ds : List Did) (o : AOper) (s : Slots) (h : Heap) : Option (Slot × Heap × Did) :=
  if (o.reads.flatMap (slotIds s) ++ rdIds o.op s).all (okId n0 m ds) = false then none else
  if o.op.isCall then
    match evOper call o s ⟨hide m 0 ds h.objs, h.base, h.size⟩ with
    | none => none
    | some (s', h') =>
      let y := dstSlot o.dst s'
      if h'.wmin < h.size then
        if allSeen m 0 ds then some (y, ⟨h'.objs, h.base, min h.wmin h'.wmin⟩, ⟨true, [], none, some h'.wmin, h.size, h'.size⟩) else none
      else if allSeen m 0 ds then some (y, ⟨h'.objs, h.base, h.wmin⟩, ⟨true, [], none, none, h.size, h'.size⟩)
      else if (y.ids ++ (h'.objs.drop h.size).flatMap AObj.ids).all (fun i => okId n0 m ds i || decide (h.size ≤ i)) then
        some (y, ⟨h.objs ++ h'.objs.drop h.size, h.base, h.wmin⟩, ⟨true, [], none, none, h.size, h'.size⟩)
      else none
  else
    match evOper noCall o s ⟨h.objs, h.base, h.size⟩ with
    | none => none
    | some (s', h') =>
      let y := dstSlot o.dst s'
      if h'.size = h.size then
        if h'.wmin < h.size then
          match h'.objs[h'.wmin]? with
          | some ob => if (y.ids ++ ob.ids).all (okId n0 m ds) = true then some (y, ⟨h'.objs, h.base, min h.wmin h'.wmin⟩, ⟨false, rdIds o.op s, some h'.wmin, none, h.size, h.size⟩) else none
          | none => none
        else if h'.wmin = h.size ∧ y.ids.all (okId n0 m ds) = true then some (y, h, ⟨false, rdIds o.op s, none, none, h.size, h.size⟩) else none
      else if h'.size = h.size + 1 then
        match h'.objs[h.size]? with
        | some ob =>
          if ob.ids.all (okId n0 m ds) then
            if h'.wmin = h.size then some (y, ⟨h'.objs, h.base, h.wmin⟩, ⟨false, rdIds o.op s, none, none, h.size, h.size + 1⟩)
            else some (y, ⟨h'.objs, h.base, min h.wmin h'.wmin⟩, ⟨false, rdIds o.op s, some h'.wmin, none, h.size, h.size + 1⟩)
          else none
        | none => none
      else none

def openAll (call : CallSem) (n0 : Nat) : List Nat → List AOper → List Did → Slots → Heap → Option (Slots × Heap)
  | _, [], _, s, h => some (s, h)
  | ms, o :: r, ds, s, h => match openOne call n0 (ms.headD 0) ds o s h with
    | some (y, h', d) =>
      if (o.dst.all fun d => !isVar s d) = true ∧ noClash (ms.headD 0) d 0 ds = true then openAll call n0 ms.tail r (ds ++ [d]) (setSlot o.dst y s) h' else none
    | none => none

/-- Operations whose order may be any: what one that waits for others gives hangs on those alone. -/
def evOpen (call : CallSem) (ms : List Nat) (ops : List AOper) (s : Slots) (h : Heap) : Option (Slots × Heap) :=
  openAll call h.size ms ops [] s h

def evSegs (call : CallSem) : List Seg → Slots → Heap → Option (Slots × Heap)
  | [], s, h => some (s, h)
  | g :: r, s, h => match (if g.quiet then (if g.soft = [] then evQ call g.ops s h else evOpen call g.soft g.ops s h) else evOps call g.ops s h) with
    | some (s', h') => evSegs call r s' h'
    | none => none

structure St where
  s : Slots
  h : Heap

/-- Slots' values, as a loop over a function keeps them. -/
def capsOf (s : Slots) : List Nat → Option (List (Nat × AVal))
  | [] => some []
  | t :: r => match sget s t, capsOf s r with
    | some (.val v), some l => some ((t, v) :: l)
    | _, _ => none

def ofCaps : List (Nat × AVal) → Slots
  | [] => []
  | (t, v) :: r => (t, .val v) :: ofCaps r

def setArgs : List Nat → List AVal → Slots → Slots
  | t :: ts, v :: vs, s => setArgs ts vs ((t, .val v) :: s)
  | _, _, s => s

/-- A function is called. -/
def callVal (call : CallSem) (f : AVal) (args : List AVal) (h : Heap) : Option (AVal × Heap) :=
  match f with
  | .func g first caps => call g (first ++ args ++ caps) h
  | _ => none

/-- Behind a loop over a function: how it was left. -/
def loopEnd (s : Slots) (h : Heap) (i : Nat) : Option (AExit × St) :=
  match h.get i with
  | some (.loop _ st p _) => if st = .busy then none else some (p.getD .normal, ⟨s, h.put i .dead⟩)
  | _ => none

def loopN (f : St → Option (AExit × St)) : Nat → St → Option (AExit × St)
  | 0, _ => none
  | n + 1, st => match f st with
    | some (.normal, st') => loopN f n st'
    | r => r

def evCode (call : CallSem) (n : Nat) : ACode → St → Option (AExit × St)
  | .skip, st => some (.normal, st)
  | .region gs, st => (evSegs call gs st.s st.h).map fun (s, h) => (.normal, ⟨s, h⟩)
  | .seq a b, st => match evCode call n a st with
    | some (.normal, st') => evCode call n b st'
    | r => r
  | .cond c t e, st => match c.ev st.s with
    | some (.bool true) => evCode call n t st
    | some (.bool false) => evCode call n e st
    | _ => none
  | .block id c, st => match evCode call n c st with
    | some (.exit j, st') => if j = id then some (.normal, st') else some (.exit j, st')
    | r => r
  | .loop c, st => loopN (evCode call n c) n st
  | .exit id, st => some (.exit id, st)
  | .ret, st => some (.ret, st)
  | .live l c, st => evCode call n c ⟨keep l st.s, st.h⟩
  | .after c l, st => match evCode call n c st with
    | some (.normal, st') => some (.normal, ⟨keep l st'.s, st'.h⟩)
    | r => r
  | .rangeFunc f g caps _ _ _, st => match f.ev st.s, capsOf st.s caps with
    | some fv, some sl => match callVal call fv [.yield st.h.size] (st.h.push (.loop g .ready none sl)) with
      | some (_, h') => loopEnd st.s h' st.h.size
      | none => none
    | _, _ => none
  | .next _ _, _ => none

/-! ## Stepping through a map: all that may come of it -/

def flatL {α β : Type} (f : α → Option (List β)) : List α → Option (List β)
  | [] => some []
  | x :: r => match f x, flatL f r with
    | some a, some b => some (a ++ b)
    | _, _ => none

/-- A step: any entry that has not come yet; behind the last one the iterator is gone. -/
def nextOuts (d : Option Nat) (x : Opd) (st : St) : Option (List (AExit × St)) :=
  match x.ev st.s with
  | some (.ptr (some (i, 0))) =>
    if st.h.base ≤ i then match st.h.get i with
      | some (.mapIter none _ _ _) => some [(.normal, ⟨setSlot d (.val (.tuple [.bool false])) st.s, st.h.put i .dead⟩)]
      | some (.mapIter (some m) since seen last) => match st.h.get m with
        | some (.map es clock) => if (es.all fun e => decide (e.2.2 < since)) = true ∧ since ≤ last then
            match es.filter fun e => !seen.contains e.2.2 with
            | [] => some [(.normal, ⟨setSlot d (.val (.tuple [.bool false])) st.s, st.h.put i .dead⟩)]
            | l => some (l.map fun e => (.normal, ⟨setSlot d (.val (.tuple [.bool true, e.1, e.2.1])) st.s, st.h.put i (.mapIter (some m) since (seen ++ [e.2.2]) clock)⟩))
          else none
        | _ => none
      | _ => none
    else none
  | _ => none

def loopO (f : St → Option (List (AExit × St))) : Nat → St → Option (List (AExit × St))
  | 0, _ => none
  | n + 1, st => match f st with
    | some l => flatL (fun x => match x.1 with
      | .normal => loopO f n x.2
      | e => some [(e, x.2)]) l
    | none => none

/-- All outcomes. -/
def evOuts (call : CallSem) (n : Nat) : ACode → St → Option (List (AExit × St))
  | .seq a b, st => match evOuts call n a st with
    | some l => flatL (fun x => match x.1 with
      | .normal => evOuts call n b x.2
      | e => some [(e, x.2)]) l
    | none => none
  | .cond c t e, st => match c.ev st.s with
    | some (.bool true) => evOuts call n t st
    | some (.bool false) => evOuts call n e st
    | _ => none
  | .block id c, st => (evOuts call n c st).map fun l => l.map fun x => match x.1 with
    | .exit j => if j = id then (.normal, x.2) else (.exit j, x.2)
    | e => (e, x.2)
  | .loop c, st => loopO (evOuts call n c) n st
  | .live l c, st => evOuts call n c ⟨keep l st.s, st.h⟩
  | .after c l, st => (evOuts call n c st).map fun ys => ys.map fun x => match x.1 with
    | .normal => (.normal, ⟨keep l x.2.s, x.2.h⟩)
    | e => (e, x.2)
  | .next d x, st => nextOuts d x st
  | c, st => (evCode call n c st).map fun x => [x]

/-! ## What a call leaves behind -/

mutual
/-- Are all objects' numbers below n? -/
def AVal.under (n : Nat) : AVal → Bool
  | .ptr (some (i, _)) => i < n
  | .slice (some (i, _)) _ _ => i < n
  | .map (some i) => i < n
  | .yield i => i < n
  | .func _ f c => AVal.unders n f && AVal.unders n c
  | .iface _ v => v.under n
  | .agg cs => AVal.unders n cs
  | .tuple vs => AVal.unders n vs
  | _ => true
def AVal.unders (n : Nat) : List AVal → Bool
  | [] => true
  | v :: r => v.under n && AVal.unders n r
end

/-- The new objects that can be reached, in the order in which they are met. -/
def reach (h : Heap) (n0 : Nat) : Nat → List Nat → List Nat → List Nat
  | 0, _, acc => acc
  | _ + 1, [], acc => acc
  | f + 1, i :: r, acc =>
    if i < n0 then reach h n0 f r acc
    else if acc.contains i then reach h n0 f r acc
    else reach h n0 f (((h.get i).map AObj.ids).getD [] ++ r) (acc ++ [i])

def idxIn (i : Nat) : List Nat → Nat
  | [] => 0
  | j :: r => if j = i then 0 else idxIn i r + 1

/-- Behind a call that wrote to nothing that was there: what it made and can't be reached is gone, what can be reached stands in order. -/
def finish (h0 : Heap) (v : AVal) (h : Heap) : AVal × Heap :=
  if h.wmin < h0.size then (v, { h with wmin := min h0.wmin h.wmin })
  else if v.under h0.size then (v, h0)
  else
    let k := reach h h0.size 1000 v.ids []
    let ok := (v.ids ++ k.flatMap fun i => ((h.get i).map AObj.ids).getD []).all fun i => i < h0.size || k.contains i
    let f := fun i => if i < h0.size then i else h0.size + idxIn i k
    if ok then (v.ren f, { h0 with objs := h0.objs ++ k.map fun i => ((h.get i).map (AObj.ren f)).getD .dead })
    else (v, { h with wmin := h0.wmin })

def enter (i : Nat) : List AVal → Slots
  | [] => []
  | v :: r => (i, .val v) :: enter (i + 1) r

def result1 (s : Slots) (h : Heap) : ARes → Option AVal
  | .tmp t => match sget s t with
    | some (.val v) => some v
    | _ => none
  | .cell t n => match (Opd.tmp t).adr s with
    | some a => loadAt s h a n
    | none => none

def resultsL (s : Slots) (h : Heap) : List ARes → Option (List AVal)
  | [] => some []
  | x :: r => match result1 s h x, resultsL s h r with
    | some v, some vs => some (v :: vs)
    | _, _ => none

def tupled : List AVal → AVal
  | [v] => v
  | vs => .tuple vs

/-- A function's end. -/
def funcEnd (f : AFunc) (h : Heap) : AExit × St → Option (AVal × Heap)
  | (.normal, st) | (.ret, st) => (resultsL st.s st.h f.results).map fun vs => finish h (tupled vs) st.h
  | _ => none

mutual
def AVal.eqb : AVal → AVal → Bool
  | .bool a, .bool b => a == b
  | .int k n, .int k' n' => decide (k = k') && decide (n = n')
  | .str a, .str b => decide (a = b)
  | .ptr a, .ptr b => decide (a = b)
  | .slice a n c, .slice a' n' c' => decide (a = a') && decide (n = n') && decide (c = c')
  | .map a, .map b => decide (a = b)
  | .func g f c, .func g' f' c' => decide (g = g') && AVal.eqbL f f' && AVal.eqbL c c'
  | .nilFunc, .nilFunc => true
  | .iface t v, .iface t' v' => decide (t = t') && v.eqb v'
  | .nilIface, .nilIface => true
  | .agg a, .agg b => AVal.eqbL a b
  | .tuple a, .tuple b => AVal.eqbL a b
  | .yield a, .yield b => decide (a = b)
  | _, _ => false
def AVal.eqbL : List AVal → List AVal → Bool
  | [], [] => true
  | a :: r, b :: r' => a.eqb b && AVal.eqbL r r'
  | _, _ => false
end

def eqbE : List (AVal × AVal × Nat) → List (AVal × AVal × Nat) → Bool
  | [], [] => true
  | (k, v, b) :: r, (k', v', b') :: r' => k.eqb k' && v.eqb v' && decide (b = b') && eqbE r r'
  | _, _ => false

def eqbS : List (Nat × AVal) → List (Nat × AVal) → Bool
  | [], [] => true
  | (t, v) :: r, (t', v') :: r' => decide (t = t') && v.eqb v' && eqbS r r'
  | _, _ => false

def AObj.eqb : AObj → AObj → Bool
  | .dead, .dead => true
  | .cells e a, .cells e' b => decide (e = e') && AVal.eqbL a b
  | .map a c, .map b c' => eqbE a b && decide (c = c')
  | .iter s p, .iter s' p' => decide (s = s') && decide (p = p')
  | .mapIter m a b c, .mapIter m' a' b' c' => decide (m = m') && decide (a = a') && decide (b = b') && decide (c = c')
  | .loop g s p l, .loop g' s' p' l' => decide (g = g') && decide (s = s') && decide (p = p') && eqbS l l'
  | _, _ => false

def eqbO : List AObj → List AObj → Bool
  | [], [] => true
  | a :: r, b :: r' => a.eqb b && eqbO r r'
  | _, _ => false

def eqbR (x y : AVal × Heap) : Bool := x.1.eqb y.1 && eqbO x.2.objs y.2.objs && decide (x.2.base = y.2.base) && decide (x.2.wmin = y.2.wmin)

/-- What all of them are. -/
def allSame : List (Option (AVal × Heap)) → Option (AVal × Heap)
  | some x :: r => if (r.all fun y => match y with | some y => eqbR x y | none => false) = true then some x else none
  | _ => none

def evFunc (call : CallSem) (n : Nat) (f : AFunc) (args : List AVal) (h : Heap) : Option (AVal × Heap) :=
  if args.length = f.nargs then
    if f.wild then match evOuts call n f.body ⟨enter 0 args, { h with wmin := h.size }⟩ with
      | some l => allSame (l.map (funcEnd f h))
      | none => none
    else match evCode call n f.body ⟨enter 0 args, { h with wmin := h.size }⟩ with
      | some x => funcEnd f h x
      | none => none
  else none

/-- The first half of a round: yield's arguments are laid, the record is ready. -/
def roundIn (g i : Nat) : Option (AExit × St) → Option St
  | some (.normal, st) => match st.h.get i with
    | some (.loop g' .ready p sl) => if g' = g then some ⟨st.s, st.h.put i (.loop g .busy p sl)⟩ else none
    | _ => none
  | _ => none

/-- A round's end: the record is ready anew, or tells how the loop is left. -/
def roundOut (h0 : Heap) (g i : Nat) : Option (AExit × St) → Option (AVal × Heap)
  | some (e, st) => match st.h.get i with
    | some (.loop g' _ _ sl) => if g' = g then some (finish h0 (.bool (decide (e = .normal))) (st.h.put i (.loop g (if e = .normal then .ready else .done) (if e = .normal then none else some e) sl))) else none
    | _ => none
  | none => none

def roundSlots (i : Nat) (ps : List Nat) (args : List AVal) (h : Heap) : Option Slots :=
  match h.get i with
  | some (.loop _ _ _ sl) => some (setArgs ps args (ofCaps sl))
  | _ => none

/-- A round of a loop over a function: yield is called. -/
def evRound (call : CallSem) (n g : Nat) (r : ARound) (args : List AVal) (h : Heap) : Option (AVal × Heap) :=
  match args with
  | .ptr (some (i, _)) :: as =>
    if as.length = r.params.length ∧ h.base ≤ i then match roundSlots i r.params as h with
      | some s => match roundIn g i (evCode call n r.assign ⟨s, { h with wmin := h.size }⟩) with
        | some st => roundOut h g i (evCode call n r.body st)
        | none => none
      | none => none
    else none
  | _ => none

/-- A call that neither reads nor makes what is there: it is run in a memory of its own. -/
def evClosed (r : List AVal → Heap → Option (AVal × Heap)) (args : List AVal) (h : Heap) : Option (AVal × Heap) :=
  if AVal.unders 0 args then match r args ⟨[], 0, 0⟩ with
    | some (v, _) => if v.under 0 then some (v, h) else none
    | none => none
  else none

def wrapC (closed : Bool) (r : List AVal → Heap → Option (AVal × Heap)) (args : List AVal) (h : Heap) : Option (AVal × Heap) :=
  if closed then evClosed r args h else r args h

def evCall (T : Nat → Option AFunc) : Nat → CallSem
  | 0 => fun _ _ _ => none
  | n + 1 => fun g args h => match T g with
    | some f => match f.round with
      | some (.round r) => evRound (evCall T n) n g r args h
      | some (.lib f) => (f args h).map fun v => (v, h)
      | none => wrapC f.closed (evFunc (evCall T n) n f) args h
    | none => none

end Go.Abs

/-
  From the model's code to the abstract machine's: a function that may say no, asked by the kernel of each function. 'Hint': which slots are wanted later, which variables stay in their frame, and in which parts a statement whose order is open falls: none of these is trusted.
-/
namespace Go.Abs

structure Env where
  P : Program
  gid : FuncId → Option Nat
  rnd : Nat → Option ARound

inductive Hint where
  | leaf
  | stuck
  | reg (segs : List (Bool × Nat)) (locs : List Nat)
  | seq (a b : Hint)
  | cond (a b : Hint)
  | block (a : Hint)
  | loop (a : Hint)
  | live (l : List Nat) (a : Hint)
  | after (a : Hint) (l : List Nat)
  | rangeFunc (g : Nat) (caps : List Nat) (a b : Hint)
  | next

def toA1 : Value → Option AVal
  | .bool b => some (.bool b)
  | .int k n => some (.int k n)
  | .string s => some (.str s.data.toList)
  | .pointer none => some (.ptr none)
  | .slice none 0 0 => some (.slice none 0 (some 0))
  | .map none => some (.map none)
  | .nilFunc => some .nilFunc
  | .nilIface => some .nilIface
  | _ => none

def toAs : List Value → Option (List AVal)
  | [] => some []
  | v :: r => match toA1 v, toAs r with
    | some a, some as => some (a :: as)
    | _, _ => none

def toA : Value → Option AVal
  | .agg cs => (toAs cs.toList).map .agg
  | v => toA1 v

def cOpd (E : Env) : Operand → Option Opd
  | .tmp t => some (.tmp t)
  | .const v => (toA v).map .const
  | .func f => (E.gid f).map fun g => .const (.func g [] [])
  | .global _ => none

def cOpds (E : Env) : List Operand → Option (List Opd)
  | [] => some []
  | x :: r => match cOpd E x, cOpds E r with
    | some a, some as => some (a :: as)
    | _, _ => none

def cOpt (E : Env) : Option Operand → Option (Option Opd)
  | none => some none
  | some x => (cOpd E x).map some

def zeroOf (P : Program) (t : TypeId) : Option (List AVal) :=
  match P.info? t with
  | some i => match i.zero with
    | some z => toAs z.cells.toList
    | none => none
  | none => none

def sizeT (P : Program) (t : TypeId) : Option Nat := (P.info? t).map (·.size)

/-- What a part of that type is: one cell (none), or so many. -/
def partT (P : Program) (t : TypeId) : Option (Option Nat) :=
  match P.underlying t with
  | some (.struct _) | some (.array _ _) => (sizeT P t).map some
  | some _ => some none
  | none => none

/-- Of how many cells an element is: of an array's variable one of its elements. -/
def eszOf (P : Program) (t : TypeId) : Option Nat :=
  match P.underlying t with
  | some (.array _ e) => sizeT P e
  | _ => sizeT P t

def cParts (E : Env) (place : Nat → Option (Nat × Nat)) : List (Nat × Operand) → Option (List (Nat × Nat × Opd))
  | [] => some []
  | (i, x) :: r => match place i, cOpd E x, cParts E place r with
    | some (o, n), some a, some as => some ((o, n, a) :: as)
    | _, _, _ => none

def fieldPlaces (P : Program) : List Field → Option (List (Nat × Nat))
  | [] => some []
  | f :: r => match sizeT P f.type, fieldPlaces P r with
    | some n, some l => some ((f.offset, n) :: l)
    | _, _ => none

/-- The cells of a type all of whose parts may be compared at once. -/
def ckFields (g : TypeId → Option (List CK)) (P : Program) : Nat → List Field → Option (List CK)
  | _, [] => some []
  | off, f :: r => match g f.type with
    | some l => if f.offset = off ∧ f.name ≠ "_" ∧ sizeT P f.type = some l.length ∧ 0 < l.length then (ckFields g P (off + l.length) r).map (l ++ ·) else none
    | none => none

def ckOf (P : Program) : Nat → TypeId → Option (List CK)
  | 0, _ => none
  | n + 1, t => match P.underlying t with
    | some .bool => some [.b]
    | some (.int _) => some [.i]
    | some .string => some [.s]
    | some (.struct fs) => if P.stoodInHeld t then none else ckFields (ckOf P n) P 0 fs.toList
    | some (.array k e) => match ckOf P n e with
      | some l => if sizeT P e = some l.length ∧ 0 < l.length then some (List.replicate k l).flatten else none
      | none => none
    | _ => none

def keyT (P : Program) (t : TypeId) : Option KeyT :=
  if sizeT P t = none then none else
  match P.underlying t with
  | some .bool => some (.one .b)
  | some (.int _) => some (.one .i)
  | some .string => some (.one .s)
  | some (.struct _) => (ckOf P 2 t).map .agg
  | _ => none

/-- The zero value. -/
def zeroA (P : Program) (t : TypeId) : Option AVal :=
  match P.info? t with
  | some i => match i.zero with
    | some z => toA z
    | none => none
  | none => none

def cEq (d : TypeDesc) (neg : Bool) (a b : Opd) : Option AOp :=
  match d with
  | .bool => some (.beq neg a b)
  | .pointer _ => some (.eqnil .ptr neg a b)
  | .slice _ => some (.eqnil .slice neg a b)
  | .map _ _ => some (.eqnil .map neg a b)
  | .func _ _ _ => some (.eqnil .func neg a b)
  | _ => none

def cBin (E : Env) (op : BinOp) (t : TypeId) (x y : Operand) : Option AOp :=
  match cOpd E x, cOpd E y with
  | some a, some b =>
    match E.P.underlying t with
    | some (.int _) | some .string => some (.bin op a b)
    | some (.struct _) | some (.array _ _) =>
      if E.P.eqGuardType E.P.depth t then none else
      match op, ckOf E.P 20 t with
      | .eql, some ks => some (.ext (.pure (.eqcells false ks)) [a, b])
      | .neq, some ks => some (.ext (.pure (.eqcells true ks)) [a, b])
      | _, _ => none
    | some d =>
      match op with
      | .eql => cEq d false a b
      | .neq => cEq d true a b
      | _ => none
    | none => none
  | _, _ => none

def isByte (P : Program) (t : TypeId) : Bool :=
  match P.underlying t with
  | some (.int .u8) => true
  | _ => false

def cConv (E : Env) (src dst : TypeId) (x : Operand) : Option AOp :=
  match cOpd E x, E.P.underlying src, E.P.underlying dst with
  | some a, some (.int _), some (.int k) => some (.conv (.int k) a)
  | some a, some .string, some .string => some (.conv .str a)
  | some a, some .string, some (.slice e) => if isByte E.P e then some (.conv .bytes a) else none
  | some a, some (.slice e), some .string => if isByte E.P e then some (.conv .string a) else none
  | _, _, _ => none

/-- A function for which the model stands in. -/
def primOf (P : Program) (f : FuncId) : Option PrimK :=
  match P.funcs[f]? with
  | some fn =>
    if fn.body.isNone = true ∧ fn.origin = "" then
      if fn.name = "internal/bytealg.IndexByteString" then some .indexByte
      else if fn.name = "internal/bytealg.CountString" then some .countByte
      else none
    else none
  | none => none

def cCall (E : Env) (c : Call) : Option AOp :=
  match c.callee with
  | .value (.func f) => match E.gid f, cOpds E c.args.toList with
    | some g, some as => some (.callg g as)
    | none, some as => (primOf E.P f).map fun k => .ext (.pure (.prim k)) as
    | _, none => none
  | .value x => match cOpd E x, cOpds E c.args.toList with
    | some a, some as => some (.call a as)
    | _, _ => none
  | .builtin b =>
    match b, c.argTypes.toList, c.args.toList with
    | .len, [t], [x] => match E.P.underlying t with
      | some .string => (cOpd E x).map (.len .str)
      | some (.slice _) => (cOpd E x).map (.len .sl)
      | some (.map _ _) => (cOpd E x).map (.len .map)
      | _ => none
    | .append, [t, u], [x, y] => match E.P.underlying t, E.P.underlying u, cOpd E x, cOpd E y with
      | some (.slice e), some (.slice _), some a, some b | some (.slice e), some .string, some a, some b => match E.P.info? e with
        | some i => match i.zero with
          | some z => if z.cells.size = i.size then some (.append i.size i.bytes a b) else none
          | none => none
        | none => none
      | _, _, _, _ => none
    | .cap, [t], [x] => match E.P.underlying t with
      | some (.slice _) => (cOpd E x).map fun a => .ext (.pure .cap) [a]
      | _ => none
    | .delete, t :: _, [x, y] => match E.P.underlying t with
      | some (.map k _) => match keyT E.P k, cOpd E x, cOpd E y with
        | some kn, some a, some b => some (.ext (.delete kn) [a, b])
        | _, _, _ => none
      | _ => none
    | .min, _, xs => (cOpds E xs).map (.minmax false)
    | .max, _, xs => (cOpds E xs).map (.minmax true)
    | _, _, _ => none
  | _ => none

def cOp (E : Env) (loc : Bool) (op : Op) : Option AOp :=
  match op with
  | .move x | .assign x => (cOpd E x).map .val
  | .pick c a b => match cOpd E c, cOpd E a, cOpd E b with
    | some c, some a, some b => some (.pick c a b)
    | _, _, _ => none
  | .alloc t => match zeroOf E.P t, eszOf E.P t with
    | some z, some e => some (if loc then .lalloc z else .alloc e z)
    | _, _ => none
  | .box _ x => (cOpd E x).map fun a => if loc then .lbox a else .box a
  | .build t ps => match E.P.underlying t, zeroOf E.P t with
    | some (.struct fs), some z => match fieldPlaces E.P fs.toList with
      | some pl => (cParts E (pl[·]?) ps.toList).map (.build z)
      | none => none
    | some (.array _ e), some z => match sizeT E.P e with
      | some n => (cParts E (fun i => some (i * n, n)) ps.toList).map (.build z)
      | none => none
    | _, _ => none
  | .buildSlice t len ps => match E.P.underlying t with
    | some (.slice e) => match sizeT E.P e, zeroOf E.P e with
      | some n, some z => if len * n ≤ 16777216 ∧ z.length = n ∧ 0 < n then (cParts E (fun i => some (i * n, n)) ps.toList).map (.mkslice n len (rep len z)) else none
      | _, _ => none
    | _ => none
  | .load t a => match partT E.P t, cOpd E a with
    | some n, some a => some (.load n a)
    | _, _ => none
  | .store t a x => match sizeT E.P t, cOpd E a, cOpd E x with
    | some n, some a, some x => some (if loc then .ext (.hstore n) [a, x] else .store n a x)
    | _, _, _ => none
  | .nilCheck x => (cOpd E x).map .nilcheck
  | .binOp op t x y _ => cBin E op t x y
  | .unOp op _ x => (cOpd E x).map (.un op)
  | .convert s d x => cConv E s d x
  | .makeFunc (.func f) first caps => match E.gid f, cOpds E first.toList, cOpds E caps.toList with
    | some g, some f, some c => some (.mkfunc g f c)
    | _, _, _ => none
  | .makeSlice t l c => match E.P.underlying t with
    | some (.slice e) => match E.P.info? e, zeroOf E.P e, cOpd E l, cOpd E c with
      | some i, some z, some l, some c => if z.length = i.size ∧ 0 < i.size then some (.make i.size i.bytes z l c) else none
      | _, _, _, _ => none
    | _ => none
  | .slice t x lo hi mx => match cOpd E x, cOpt E lo, cOpt E hi, cOpt E mx with
    | some x, some lo, some hi, some mx => match E.P.underlying t with
      | some .string => some (.slice .str x lo hi mx)
      | some (.slice e) => (sizeT E.P e).map fun n => .slice (.sl n) x lo hi mx
      | some (.array n e) => (sizeT E.P e).map fun k => .slice (.arr n k) x lo hi mx
      | _ => none
    | _, _, _, _ => none
  | .fieldAddr t x f => match E.P.underlying t, cOpd E x with
    | some (.struct fs), some x => match fs[f]? with
      | some fl => match sizeT E.P fl.type with
        | some (_ + 1) => some (.faddr x fl.offset)
        | _ => none
      | none => none
    | _, _ => none
  | .field t x f => match E.P.underlying t, cOpd E x with
    | some (.struct fs), some x => match fs[f]? with
      | some fl => (partT E.P fl.type).map fun n => .field x fl.offset n
      | none => none
    | _, _ => none
  | .indexAddr t x i => match E.P.underlying t, cOpd E x, cOpd E i with
    | some (.slice e), some x, some i => (sizeT E.P e).map fun n => .iaddr n x i
    | some (.array len e), some x, some i => (sizeT E.P e).map fun n => .aaddr len n x i
    | _, _, _ => none
  | .index t x i => match E.P.underlying t, cOpd E x, cOpd E i with
    | some .string, some x, some i => some (.index x i)
    | some (.array len e), some x, some i => match sizeT E.P e, partT E.P e with
      | some n, some k => some (.aindex len n k x i)
      | _, _ => none
    | _, _, _ => none
  | .extract x i => (cOpd E x).map fun a => .extract a i
  | .call c => cCall E c
  | .range t x => match E.P.underlying t with
    | some (.map _ _) => (cOpd E x).map fun a => .ext .mkiter [a]
    | _ => none
  | .entry x => (cOpd E x).map fun a => .ext .entry [a]
  | .makeMap _ none => some (.ext .mkmap [])
  | .makeMap t (some (.const (.int _ _))) => match E.P.underlying t with
    | some (.map _ _) => some (.ext .mkmap [])
    | _ => none
  | .lookup t x i ok => match E.P.underlying t with
    | some (.map k e) => match keyT E.P k, zeroA E.P e, cOpd E x, cOpd E i with
      | some kn, some z, some x, some i => some (.ext (.lookup kn z ok) [x, i])
      | _, _, _, _ => none
    | _ => none
  | .mapUpdate t x k v | .insert t x k v => match E.P.underlying t with
    | some (.map kt _) => match keyT E.P kt, cOpd E x, cOpd E k, cOpd E v with
      | some kn, some x, some k, some v => some (.ext (.mapupd kn) [x, k, v])
      | _, _, _, _ => none
    | _ => none
  | _ => none

/-- What the machine does not know: it stops there. -/
def cOpS (E : Env) (loc : Bool) (op : Op) : AOp :=
  match cOp E loc op with
  | some a => a
  | none => .nextStr (.const (.bool false))

def isStore : Op → Bool
  | .store _ _ _ => true
  | _ => false

def cOper (E : Env) (nt : Nat) (ops : Array Oper) (loc : Bool) (o : Oper) : Option AOper :=
  if (o.dst.all fun d => d < nt) && (!loc || o.dst.isSome || isStore o.op) then
    match o.guard with
    | none => some ⟨o.dst, none, cOpS E loc o.op⟩
    | some (j, want) => match (ops[j]?).bind (·.dst) with
      | some d => some ⟨o.dst, some (d, want), cOpS E loc o.op⟩
      | none => none
  else none

def cOpers (E : Env) (nt : Nat) (ops : Array Oper) (locs : List Nat) (i : Nat) : List Oper → Option (List AOper)
  | [] => some []
  | o :: r => match cOper E nt ops (locs.contains i) o, cOpers E nt ops locs (i + 1) r with
    | some a, some as => some (a :: as)
    | _, _ => none

/-- Operations that make an object; calls of functions whose numbers tell that they do. -/
def makes : AOp → Bool
  | .alloc _ _ | .box _ | .mkslice _ _ _ _ | .make _ _ _ _ _ | .append _ _ _ _ | .conv .bytes _ | .ext .mkmap _ | .ext .mkiter _ | .ext (.hstore _) _ | .ext (.mapupd _) _ | .ext (.delete _) _ => true
  | .callg g _ => decide (100000 ≤ g)
  | _ => false

/-- Operations on memory that change at most one object; calls. -/
def ExtOp.soft : ExtOp → Bool
  | .entry => false
  | _ => true

def soft : AOp → Bool
  | .lalloc _ | .lbox _ | .store _ _ _ | .copy _ _ _ => false
  | .ext k _ => k.soft
  | _ => true

/-- For a part in which objects are made: which operations of it each waits for. -/
def softMasks (bef : List Nat) (p : Nat) (ops : List AOper) : List Nat :=
  if ops.any fun o => makes o.op then (List.range ops.length).map fun x => bef.getD (p + x) 0 >>> p else []

def splitSegs (bef : List Nat) : Nat → List (Bool × Nat) → List AOper → Option (List Seg)
  | _, [], [] => some []
  | _, [], _ :: _ => none
  | p, (q, n) :: r, ops => if n ≤ ops.length then (splitSegs bef (p + n) r (ops.drop n)).map (⟨q, if q then softMasks bef p (ops.take n) else [], ops.take n⟩ :: ·) else none

/-- Operations that change no variable of the frame. -/
def calm : AOp → Bool
  | .lalloc _ | .lbox _ | .store _ _ _ | .copy _ _ _ => false
  | .ext k _ => k.soft
  | _ => true

/-- For each operation those before it (as bits), in the order of the text. -/
def maskOf (acc : List Nat) (o : Oper) : Nat := o.after.toList.foldl (fun s e => if Region.binds .any e then s ||| 2 ^ e.on ||| acc.getD e.on 0 else s) 0
def befs : List Oper → List Nat → List Nat
  | [], acc => acc
  | o :: r, acc => befs r (acc ++ [maskOf acc o])

/-- From p on each operation waits for all before p. -/
def waits (bef : List Nat) (p : Nat) : Bool :=
  (List.range bef.length).all fun j => j < p || (List.range p).all fun i => (bef.getD j 0).testBit i

/-- Two operations of a quiet part: what one sets, the other neither sets nor looks at, unless one waits for the other. -/
def apart (bef : List Nat) (i j : Nat) (oi oj : AOper) : Bool :=
  match oj.dst with
  | some d =>
    (i == j || oi.dst != some d) &&
    (i == j || !(oi.reads.contains d) || (j < i && (bef.getD i 0).testBit j) || (i < j && (bef.getD j 0).testBit i))
  | none => true

/-- As apart, in a part that makes variables: two may set one slot, if one waits for the other. -/
def apartV (V : List Nat) (bef : List Nat) (i j : Nat) (oi oj : AOper) : Bool :=
  match oj.sets V with
  | some d => i == j || ((oi.sets V != some d) && !(oi.reads.contains d)) || (j < i && (bef.getD i 0).testBit j) || (i < j && (bef.getD j 0).testBit i)
  | none => true

/-- What may stand in a part that makes variables. -/
def quietV (V : List Nat) (o : AOper) : Bool := match o.op with
  | .lalloc _ => true
  | .store _ (.tmp t) _ => V.contains t
  | _ => calm o.op

def quietSeg (bef : List Nat) (p n : Nat) (as : List AOper) : Bool :=
  if newVars ((as.drop p).take n) = [] then
    ((List.range n).all fun x => (List.range n).all fun y =>
      match as[p + x]?, as[p + y]? with
      | some oi, some oj => apart bef (p + x) (p + y) oi oj
      | _, _ => false) &&
    ((List.range n).all fun x => match as[p + x]? with | some o => calm o.op && (softMasks bef p ((as.drop p).take n) == [] || soft o.op) | none => false)
  else
    softMasks bef p ((as.drop p).take n) == [] &&
    ((List.range n).all fun x => (List.range n).all fun y =>
      match as[p + x]?, as[p + y]? with
      | some oi, some oj => apartV (newVars ((as.drop p).take n)) bef (p + x) (p + y) oi oj
      | _, _ => false) &&
    ((List.range n).all fun x => match as[p + x]? with | some o => quietV (newVars ((as.drop p).take n)) o | none => false)

/-- The parts of a statement whose order is open: those of a quiet part may come in any order; else each waits for all before it. -/
def segsOk (as : List AOper) (bef : List Nat) : Nat → List (Bool × Nat) → Bool
  | p, [] => p == as.length
  | p, (true, n) :: r =>
    waits bef p && decide (p + n ≤ as.length) && quietSeg bef p n as &&
    segsOk as bef (p + n) r
  | p, (false, n) :: r => decide (p + n ≤ as.length) && ((List.range n).all fun x => waits bef (p + x)) && segsOk as bef (p + n) r

def edgesBack (ops : Array Oper) : Bool :=
  (List.range ops.size).all fun i => match ops[i]? with
    | some o => o.after.all fun e => !Region.binds .any e || e.on < i
    | none => true

def cRegion (E : Env) (nt : Nat) (segs : List (Bool × Nat)) (locs : List Nat) (ops : Array Oper) (draw : Bool) : Option (List Seg) :=
  match cOpers E nt ops locs 0 ops.toList with
  | some as =>
    if draw then
      if edgesBack ops && segsOk as (befs ops.toList []) 0 segs then splitSegs (befs ops.toList []) 0 segs as else none
    else some [⟨false, [], as⟩]
  | none => none

/-- inR: in a round of a loop over a function: there none stands. -/
def cCode (E : Env) (nt : Nat) (inR : Bool) : Hint → Code → Option ACode
  | .stuck, _ => some (.cond (.const (.str [])) .skip .skip)
  | .leaf, .skip => some .skip
  | .leaf, .exit id => some (.exit id)
  | .leaf, .ret => some .ret
  | .reg segs locs, .region _ ops draw => (cRegion E nt segs locs ops draw).map .region
  | .seq a b, .seq x y => match cCode E nt inR a x, cCode E nt inR b y with
    | some x, some y => some (.seq x y)
    | _, _ => none
  | .cond a b, .cond c x y => match cOpd E c, cCode E nt inR a x, cCode E nt inR b y with
    | some c, some x, some y => some (.cond c x y)
    | _, _, _ => none
  | .block a, .block id x => (cCode E nt inR a x).map (.block id)
  | .loop a, .loop x => (cCode E nt inR a x).map .loop
  | .rangeFunc g caps a b, .rangeFunc f ps x y => match cOpd E f, cCode E nt true a x, cCode E nt true b y with
    | some f, some x, some y => if inR = false ∧ (ps.all fun t => decide (t < nt)) = true then some (.rangeFunc f g caps ps.toList x y) else none
    | _, _, _ => none
  | .next, .region _ ops draw => match ops.toList, draw with
    | ⟨dst, .next it false, _, _, _, none⟩ :: rest, false => if (dst.all fun d => decide (d < nt)) = true then match cOpd E it, cOpers E nt ops [] 1 rest with
        | some x, some as => some (.seq (.next dst x) (.region [⟨false, [], as⟩]))
        | _, _ => none
      else none
    | _, _ => none
  | .live l a, x => (cCode E nt inR a x).map (.live l)
  | .after a l, x => (cCode E nt inR a x).map (.after · l)
  | _, _ => none

def cRes (P : Program) : ResultVar → Option ARes
  | .tmp t => some (.tmp t)
  | .cell t ty => (partT P ty).map (.cell t)

def cRess (P : Program) : List ResultVar → Option (List ARes)
  | [] => some []
  | x :: r => match cRes P x, cRess P r with
    | some a, some as => some (a :: as)
    | _, _ => none

def cFunc (E : Env) (closed : Bool) (h : Hint) (f : Func) : Option AFunc :=
  match f.body with
  | some c => match cCode E f.ntmps false h c, cRess E.P f.results.toList with
    | some a, some rs =>
      if f.params.size + f.nfree ≤ f.ntmps ∧ f.name ≠ "runtime.NumGoroutine" then some ⟨closed, a.wild, f.params.size + f.nfree, f.ntmps, rs, a, none⟩ else none
    | _, _ => none
  | none => none

end Go.Abs

/-
  How a state of the abstract machine and a world of the model belong together.
-/
namespace Go.Abs

/-- Where an object lies: its block, the place in it at which it begins, how many cells the block has, of how many cells an element is. -/
structure M where
  blk : Nat
  base : Nat
  size : Nat
  esz : Nat

abbrev MM := List (Option M)

def ARel (μ : MM) (i o : Nat) (a : Addr) : Prop := ∃ x, μ[i]? = some x ∧ ∀ m, x = some m → a = ⟨m.blk, m.base + o, none⟩

mutual
def VRel (E : Env) (μ : MM) : AVal → Value → Prop
  | .bool b, v => v = .bool b
  | .int k n, v => v = .int k n
  | .str s, v => v = .string ⟨s.toArray⟩
  | .ptr none, v => v = .pointer none
  | .ptr (some (i, o)), v => ∃ a, v = .pointer (some a) ∧ ARel μ i o a
  | .slice none n c, v => n = 0 ∧ c = some 0 ∧ v = .slice none 0 0
  | .slice (some (i, o)) n c, v => ∃ a cap, v = .slice (some a) n cap ∧ i < μ.length ∧ (0 < cap → ARel μ i o a) ∧ (∀ k, c = some k → cap = k) ∧ n ≤ cap ∧
      (∀ m, μ[i]? = some (some m) → m.base + o + cap * m.esz ≤ m.size)
  | .map none, v => v = .map none
  | .map (some i), v => ∃ b x, v = .map (some b) ∧ μ[i]? = some x ∧ ∀ m, x = some m → b = m.blk
  | .func g f c, v => ∃ fid f' c', v = .func (.func fid) f' c' ∧ E.gid fid = some g ∧ VRels E μ f f'.toList ∧ VRels E μ c c'.toList
  | .nilFunc, v => v = .nilFunc
  | .iface _ _, _ => False
  | .nilIface, v => v = .nilIface
  | .agg cs, v => ∃ cs', v = .agg cs' ∧ VRels E μ cs cs'.toList ∧ ∀ x ∈ cs, x.isOne = true
  | .tuple vs, v => ∃ vs', v = .tuple vs' ∧ VRels E μ vs vs'.toList
  | .yield i, v => ∃ l x, v = .func (.yield l) #[] #[] ∧ μ[i]? = some x ∧ ∀ m, x = some m → l = m.blk
def VRels (E : Env) (μ : MM) : List AVal → List Value → Prop
  | [], l => l = []
  | a :: as, l => ∃ v r, l = v :: r ∧ VRel E μ a v ∧ VRels E μ as r
end

section
variable {E : Env} {μ μ' : MM}

theorem VRels.length : ∀ {as : List AVal} {l : List Value}, VRels E μ as l → as.length = l.length
  | [], l, h => by simp only [VRels] at h; subst h; rfl
  | a :: as, l, h => by
    simp only [VRels] at h
    obtain ⟨v, r, rfl, _, h2⟩ := h
    simp [VRels.length h2]

theorem VRels.get : ∀ {as : List AVal} {l : List Value}, VRels E μ as l → ∀ {k : Nat} {a : AVal}, as[k]? = some a → ∃ v, l[k]? = some v ∧ VRel E μ a v
  | [], l, _, k, a, hk => by simp at hk
  | x :: as, l, h, 0, a, hk => by
    simp only [VRels] at h
    obtain ⟨v, r, rfl, h1, _⟩ := h
    simp at hk; subst hk
    exact ⟨v, rfl, h1⟩
  | x :: as, l, h, k + 1, a, hk => by
    simp only [VRels] at h
    obtain ⟨v, r, rfl, _, h2⟩ := h
    simp at hk
    obtain ⟨u, hu, hr⟩ := VRels.get h2 hk
    exact ⟨u, by simpa using hu, hr⟩

theorem VRels.of : ∀ {as : List AVal} {l : List Value}, as.length = l.length → (∀ (k : Nat) (a : AVal), as[k]? = some a → ∃ v : Value, l[k]? = some v ∧ VRel E μ a v) → VRels E μ as l
  | [], l, h, _ => by
    simp only [VRels]
    exact List.eq_nil_of_length_eq_zero (by simpa using h.symm)
  | a :: as, [], h, _ => by simp at h
  | a :: as, v :: l, h, hk => by
    simp only [VRels]
    refine ⟨v, l, rfl, ?_, VRels.of (by simpa using h) fun k a' hka => ?_⟩
    · obtain ⟨u, hu, hr⟩ := hk 0 a rfl
      simp at hu; subst hu; exact hr
    · obtain ⟨u, hu, hr⟩ := hk (k + 1) a' (by simpa using hka)
      exact ⟨u, by simpa using hu, hr⟩

theorem VRels.append {as bs : List AVal} {l r : List Value} (h1 : VRels E μ as l) (h2 : VRels E μ bs r) : VRels E μ (as ++ bs) (l ++ r) := by
  induction as generalizing l with
  | nil => simp only [VRels] at h1; subst h1; simpa using h2
  | cons a as ih =>
    simp only [VRels] at h1
    obtain ⟨v, t, rfl, hv, ht⟩ := h1
    simp only [List.cons_append, VRels]
    exact ⟨v, t ++ r, rfl, hv, ih ht⟩

/-- What was known of an object stays known, or the object is gone. -/
structure Later (μ μ' : MM) : Prop where
  len : μ.length ≤ μ'.length
  old : ∀ i, i < μ.length → μ'[i]? = μ[i]? ∨ μ'[i]? = some none

theorem Later.refl (μ : MM) : Later μ μ := ⟨Nat.le_refl _, fun _ _ => .inl rfl⟩
theorem Later.trans {a b c : MM} (h : Later a b) (k : Later b c) : Later a c :=
  ⟨Nat.le_trans h.len k.len, fun i hi => by
    rcases k.old i (Nat.lt_of_lt_of_le hi h.len) with h1 | h1
    · rcases h.old i hi with h2 | h2
      · exact .inl (h1.trans h2)
      · exact .inr (h1.trans h2)
    · exact .inr h1⟩

theorem lt_of_get {α : Type} {l : List α} {i : Nat} {x : α} (h : l[i]? = some x) : i < l.length := by
  rcases Nat.lt_or_ge i l.length with h1 | h1
  · exact h1
  · rw [List.getElem?_eq_none h1] at h; cases h

theorem Later.get (h : Later μ μ') {i : Nat} {x : Option M} (hi : μ[i]? = some x) : μ'[i]? = some x ∨ μ'[i]? = some none := by
  rcases h.old i (lt_of_get hi) with h1 | h1
  · exact .inl (h1.trans hi)
  · exact .inr h1

theorem Later.back (h : Later μ μ') {i : Nat} {m : M} (hl : i < μ.length) (hi : μ'[i]? = some (some m)) : μ[i]? = some (some m) := by
  rcases h.old i hl with h1 | h1
  · exact h1.symm.trans hi
  · rw [hi] at h1; cases h1

theorem ARel.later (h : Later μ μ') {i o : Nat} {a : Addr} (ha : ARel μ i o a) : ARel μ' i o a := by
  obtain ⟨x, hx, hm⟩ := ha
  rcases h.get hx with h1 | h1
  · exact ⟨x, h1, hm⟩
  · exact ⟨none, h1, fun m hm => by cases hm⟩

mutual
theorem VRel.later (h : Later μ μ') : ∀ {a : AVal} {v : Value}, VRel E μ a v → VRel E μ' a v
  | .bool b, v, hv => by simpa only [VRel] using hv
  | .int k n, v, hv => by simpa only [VRel] using hv
  | .str s, v, hv => by simpa only [VRel] using hv
  | .ptr none, v, hv => by simpa only [VRel] using hv
  | .ptr (some (i, o)), v, hv => by
    simp only [VRel] at hv ⊢
    obtain ⟨a, ha, hr⟩ := hv
    exact ⟨a, ha, hr.later h⟩
  | .slice none n c, v, hv => by simpa only [VRel] using hv
  | .slice (some (i, o)) n c, v, hv => by
    simp only [VRel] at hv ⊢
    obtain ⟨a, cap, ha, hi, hr, h1, h2, h3⟩ := hv
    exact ⟨a, cap, ha, Nat.lt_of_lt_of_le hi h.len, fun hc => (hr hc).later h, h1, h2, fun m hm => h3 m (h.back hi hm)⟩
  | .map none, v, hv => by simpa only [VRel] using hv
  | .map (some i), v, hv => by
    simp only [VRel] at hv ⊢
    obtain ⟨b, x, ha, hx, hm⟩ := hv
    rcases h.get hx with h1 | h1
    · exact ⟨b, x, ha, h1, hm⟩
    · exact ⟨b, none, ha, h1, fun m hm => by cases hm⟩
  | .func g f c, v, hv => by
    simp only [VRel] at hv ⊢
    obtain ⟨fid, f', c', e, hg, h1, h2⟩ := hv
    exact ⟨fid, f', c', e, hg, VRels.later h h1, VRels.later h h2⟩
  | .nilFunc, v, hv => by simpa only [VRel] using hv
  | .iface _ _, v, hv => by simp only [VRel] at hv
  | .nilIface, v, hv => by simpa only [VRel] using hv
  | .agg cs, v, hv => by
    simp only [VRel] at hv ⊢
    obtain ⟨cs', e, h1, h2⟩ := hv
    exact ⟨cs', e, VRels.later h h1, h2⟩
  | .tuple vs, v, hv => by
    simp only [VRel] at hv ⊢
    obtain ⟨cs', e, h1⟩ := hv
    exact ⟨cs', e, VRels.later h h1⟩
  | .yield i, v, hv => by
    simp only [VRel] at hv ⊢
    obtain ⟨b, x, ha, hx, hm⟩ := hv
    rcases h.get hx with h1 | h1
    · exact ⟨b, x, ha, h1, hm⟩
    · exact ⟨b, none, ha, h1, fun m hm => by cases hm⟩
theorem VRels.later (h : Later μ μ') : ∀ {as : List AVal} {l : List Value}, VRels E μ as l → VRels E μ' as l
  | [], l, hl => by simpa only [VRels] using hl
  | a :: as, l, hl => by
    simp only [VRels] at hl ⊢
    obtain ⟨v, r, e, h1, h2⟩ := hl
    exact ⟨v, r, e, VRel.later h h1, VRels.later h h2⟩
end

theorem toA1_rel {v : Value} {a : AVal} (h : toA1 v = some a) (μ : MM) : VRel E μ a v ∧ a.isOne = true := by
  unfold toA1 at h
  split at h <;> cases h <;> simp [VRel, AVal.isOne]

theorem toAs_rel : ∀ {l : List Value} {as : List AVal}, toAs l = some as → ∀ μ : MM, VRels E μ as l ∧ ∀ x ∈ as, x.isOne = true
  | [], as, h, μ => by simp only [toAs] at h; cases h; simp [VRels]
  | v :: r, as, h, μ => by
    simp only [toAs] at h
    split at h
    · rename_i a as' h1 h2
      cases h
      obtain ⟨k1, k2⟩ := toA1_rel (E := E) h1 μ
      obtain ⟨k3, k4⟩ := toAs_rel h2 μ
      refine ⟨?_, ?_⟩
      · simp only [VRels]; exact ⟨v, r, rfl, k1, k3⟩
      · intro x hx
        rcases List.mem_cons.1 hx with rfl | hx
        · exact k2
        · exact k4 x hx
    · simp at h

theorem toA_rel {v : Value} {a : AVal} (h : toA v = some a) (μ : MM) : VRel E μ a v := by
  unfold toA at h
  split at h
  · rename_i cs
    rw [Option.map_eq_some_iff] at h
    obtain ⟨as, h1, rfl⟩ := h
    obtain ⟨k1, k2⟩ := toAs_rel (E := E) h1 μ
    simp only [VRel]
    exact ⟨cs, rfl, k1, k2⟩
  · exact (toA1_rel h μ).1

/-- A value's cells. -/
theorem cells_rel {a : AVal} {v : Value} {as : List AVal} (h : VRel E μ a v) (hc : a.cells? = some as) :
    VRels E μ as v.cells.toList ∧ ∀ x ∈ as, x.isOne = true := by
  have one : ∀ {a : AVal} {v : Value}, a.isOne = true → v.cells = #[v] → VRel E μ a v → VRels E μ [a] v.cells.toList ∧ ∀ x ∈ [a], x.isOne = true := by
    intro a v h1 h2 h3
    rw [h2]
    refine ⟨?_, ?_⟩
    · simp only [VRels]; exact ⟨v, [], rfl, h3, rfl⟩
    · intro x hx; rw [List.mem_singleton] at hx; subst hx; exact h1
  cases a with
  | agg cs =>
    simp only [AVal.cells?] at hc; cases hc
    simp only [VRel] at h
    obtain ⟨cs', rfl, h1, h2⟩ := h
    exact ⟨h1, h2⟩
  | tuple vs => simp [AVal.cells?] at hc
  | iface t x => simp only [VRel] at h
  | bool b => simp only [AVal.cells?] at hc; cases hc; exact one rfl (by simp only [VRel] at h; subst h; rfl) h
  | int k n => simp only [AVal.cells?] at hc; cases hc; exact one rfl (by simp only [VRel] at h; subst h; rfl) h
  | str s => simp only [AVal.cells?] at hc; cases hc; exact one rfl (by simp only [VRel] at h; subst h; rfl) h
  | yield i => simp only [AVal.cells?] at hc; cases hc; exact one rfl (by simp only [VRel] at h; obtain ⟨_, _, rfl, _⟩ := h; rfl) h
  | nilFunc => simp only [AVal.cells?] at hc; cases hc; exact one rfl (by simp only [VRel] at h; subst h; rfl) h
  | nilIface => simp only [AVal.cells?] at hc; cases hc; exact one rfl (by simp only [VRel] at h; subst h; rfl) h
  | ptr a =>
    simp only [AVal.cells?] at hc; cases hc
    refine one rfl ?_ h
    cases a with
    | none => simp only [VRel] at h; subst h; rfl
    | some p => simp only [VRel] at h; obtain ⟨_, rfl, _⟩ := h; rfl
  | slice a n c =>
    simp only [AVal.cells?] at hc; cases hc
    refine one rfl ?_ h
    cases a with
    | none => simp only [VRel] at h; obtain ⟨_, _, rfl⟩ := h; rfl
    | some p => simp only [VRel] at h; obtain ⟨_, _, rfl, _⟩ := h; rfl
  | map a =>
    simp only [AVal.cells?] at hc; cases hc
    refine one rfl ?_ h
    cases a with
    | none => simp only [VRel] at h; subst h; rfl
    | some p => simp only [VRel] at h; obtain ⟨_, _, rfl, _⟩ := h; rfl
  | func g f c =>
    simp only [AVal.cells?] at hc; cases hc
    refine one rfl ?_ h
    simp only [VRel] at h; obtain ⟨_, _, _, rfl, _⟩ := h; rfl

/-- A value of one cell is the model's, too. -/
theorem one_rel {a : AVal} {v : Value} (h : VRel E μ a v) (hc : a.isOne = true) : ¬ (∃ x, v = .agg x) ∧ ¬ (∃ x, v = .tuple x) := by
  cases a with
  | agg cs => simp [AVal.isOne] at hc
  | tuple vs => simp [AVal.isOne] at hc
  | iface t x => simp only [VRel] at h
  | ptr a => cases a <;> simp only [VRel] at h <;> (first | (subst h; simp) | (obtain ⟨_, rfl, _⟩ := h; simp))
  | slice a n c => cases a <;> simp only [VRel] at h <;> (first | (obtain ⟨_, _, rfl⟩ := h; simp) | (obtain ⟨_, _, rfl, _⟩ := h; simp))
  | map a => cases a <;> simp only [VRel] at h <;> (first | (subst h; simp) | (obtain ⟨_, _, rfl, _⟩ := h; simp))
  | func g f c => simp only [VRel] at h; obtain ⟨_, _, _, rfl, _⟩ := h; simp
  | yield i => simp only [VRel] at h; obtain ⟨_, _, rfl, _⟩ := h; simp
  | _ => simp only [VRel] at h; subst h; simp

end

/-! ## Memory -/

/-- Cells of a block, from 'base' on. -/
def CRel (E : Env) (μ : MM) (cs : List AVal) (c : Array Value) (base : Nat) : Prop :=
  ∀ (k : Nat) (v : AVal), cs[k]? = some v → v.isOne = true ∧ ∃ v' : Value, c[base + k]? = some v' ∧ VRel E μ v v'

def Free (fr : Nat × Nat) (n : Nat) : Prop := ∀ off, off < n → ¬ (fr.1 ≤ off ∧ off < fr.2)

def LoopSt.is : LoopSt → LoopState → Prop
  | .ready, s => s = .ready
  | .busy, s => s = .busy
  | .done, s => s = .done

def AExit.code : AExit → Code
  | .normal => .skip
  | .exit id => .exit id
  | .ret => .ret

/-- The record of a loop over a function. -/
structure LoopRel (E : Env) (μ : MM) (g : Nat) (st : LoopSt) (p : Option AExit) (sl : List (Nat × AVal)) (r : Loop) : Prop where
  code : ∃ (ar : ARound) (ha hb : Hint), E.rnd g = some ar ∧ r.params.toList = ar.params ∧ (∀ t ∈ ar.params, t < r.tmps.size) ∧ cCode E r.tmps.size true ha r.assign = some ar.assign ∧ cCode E r.tmps.size true hb r.body = some ar.body
  st : st.is r.state
  pend : r.pending = p.map AExit.code
  slots : ∀ (k : Nat) (x : Nat × AVal), sl[k]? = some x → ∃ v', r.tmps[x.1]? = some v' ∧ VRel E μ x.2 v'

theorem LoopRel.later {E : Env} {μ μ' : MM} {g : Nat} {st : LoopSt} {p : Option AExit} {sl : List (Nat × AVal)} {r : Loop} (hl : Later μ μ') (h : LoopRel E μ g st p sl r) : LoopRel E μ' g st p sl r :=
  ⟨h.code, h.st, h.pend, fun k x hk => by obtain ⟨v', h1, h2⟩ := h.slots k x hk; exact ⟨v', h1, h2.later hl⟩⟩

def ORel (E : Env) (μ : MM) (b : Nat) (i : Nat) (w : World) : AObj → Prop
  | .dead => μ[i]? = some none
  | .cells esz cs => ∃ (m : M) (c : Array Value) (e : TypeId) (fr : Nat × Nat), μ[i]? = some (some m) ∧ m.esz = esz ∧ w.heap[m.blk]? = some (.cells c e fr) ∧ c.size = m.size ∧ m.base + cs.length ≤ m.size ∧
      CRel E μ cs c m.base ∧ (b ≤ i → Free fr m.size)
  | .map es clock => ∃ (m : M) (es' : Array MapEntry), μ[i]? = some (some m) ∧ w.heap[m.blk]? = some (.map es' clock) ∧ es'.size = es.length ∧
      ∀ (k : Nat) (x : AVal × AVal × Nat), es[k]? = some x → ∃ y : MapEntry, es'[k]? = some y ∧ VRel E μ x.1 y.key ∧ VRel E μ x.2.1 y.val ∧ y.born = x.2.2
  | .iter s pos => ∃ m : M, μ[i]? = some (some m) ∧ w.heap[m.blk]? = some (.stringIter ⟨s.toArray⟩ pos)
  | .mapIter r since seen last => ∃ (m : M) (r' : Option Nat), (μ[i]? = some (some m) ∧ m.base = 0) ∧ w.heap[m.blk]? = some (.mapIter r' since seen.toArray last) ∧ VRel E μ (.map r) (.map r')
  | .loop g st p sl => ∃ (m : M) (r : Loop), μ[i]? = some (some m) ∧ w.heap[m.blk]? = some (.loop r) ∧ LoopRel E μ g st p sl r

structure Rel (E : Env) (μ : MM) (h : Heap) (w : World) : Prop where
  len : μ.length = h.objs.length
  bs : h.base ≤ h.objs.length
  obj : ∀ (i : Nat) (o : AObj), h.objs[i]? = some o → ORel E μ h.base i w o
  sep : ∀ (i j : Nat) (mi mj : M), i ≠ j → h.base ≤ i → μ[i]? = some (some mi) → μ[j]? = some (some mj) → mi.blk ≠ mj.blk
  lt : ∀ (i : Nat) (m : M), μ[i]? = some (some m) → m.blk < w.heap.size

/-- What a part of a run may have done: X: blocks of the frame's own; from 'wm' on: objects that were written. -/
structure Step (X : Nat → Prop) (wm : Nat) (μ : MM) (w : World) (μ' : MM) (w' : World) : Prop where
  os : w'.os = w.os
  tape : w'.tape = w.tape
  output : w'.output = w.output
  size : w.heap.size ≤ w'.heap.size
  block : ∀ k, k < w.heap.size → ¬ X k → (∀ i m, wm ≤ i → μ[i]? = some (some m) → m.blk ≠ k) → w'.heap[k]? = w.heap[k]?
  len : μ.length ≤ μ'.length
  old : ∀ i, i < μ.length → μ'[i]? = μ[i]? ∨ (wm ≤ i ∧ μ'[i]? = some none)
  new : ∀ i m, μ.length ≤ i → μ'[i]? = some (some m) → w.heap.size ≤ m.blk ∨ ∃ r m0, wm ≤ r ∧ μ[r]? = some (some m0) ∧ m0.blk = m.blk

section
variable {E : Env} {X Y : Nat → Prop} {wm wm' : Nat} {μ μ' μ'' : MM} {w w' w'' : World}

theorem Step.refl (X : Nat → Prop) (wm : Nat) (μ : MM) (w : World) : Step X wm μ w μ w :=
  ⟨rfl, rfl, rfl, Nat.le_refl _, fun _ _ _ _ => rfl, Nat.le_refl _, fun _ _ => .inl rfl, fun i m h hm => absurd (lt_of_get hm) (by omega)⟩

theorem Step.later (h : Step X wm μ w μ' w') : Later μ μ' := ⟨h.len, fun i hi => (h.old i hi).imp id And.right⟩

theorem Step.trans (h : Step X wm μ w μ' w') (k : Step X wm' μ' w' μ'' w'') (hw : wm' ≤ wm) : Step X wm' μ w μ'' w'' where
  os := k.os.trans h.os
  tape := k.tape.trans h.tape
  output := k.output.trans h.output
  size := Nat.le_trans h.size k.size
  block := fun b hb hx hn => by
    have h1 : w'.heap[b]? = w.heap[b]? := h.block b hb hx fun i m hi hm => hn i m (Nat.le_trans hw hi) hm
    rw [← h1]
    refine k.block b (Nat.lt_of_lt_of_le hb h.size) hx fun i m hi hm => ?_
    rcases Nat.lt_or_ge i μ.length with hl | hl
    · exact hn i m hi (h.later.back hl hm)
    · rcases h.new i m hl hm with h2 | ⟨r, m0, hr, hm0, e⟩
      · omega
      · rw [← e]; exact hn r m0 (Nat.le_trans hw hr) hm0
  len := Nat.le_trans h.len k.len
  old := fun i hi => by
    rcases k.old i (Nat.lt_of_lt_of_le hi h.len) with h1 | ⟨h1, h2⟩
    · rcases h.old i hi with h3 | ⟨h3, h4⟩
      · exact .inl (h1.trans h3)
      · exact .inr ⟨Nat.le_trans hw h3, h1.trans h4⟩
    · exact .inr ⟨h1, h2⟩
  new := fun i m hl hm => by
    rcases Nat.lt_or_ge i μ'.length with h1 | h1
    · have h2 : μ'[i]? = some (some m) := k.later.back h1 hm
      rcases h.new i m hl h2 with h3 | ⟨r, m0, hr, hm0, e⟩
      · exact .inl h3
      · exact .inr ⟨r, m0, Nat.le_trans hw hr, hm0, e⟩
    · rcases k.new i m h1 hm with h3 | ⟨r, m0, hr, hm0, e⟩
      · exact .inl (Nat.le_trans h.size h3)
      · rcases Nat.lt_or_ge r μ.length with h4 | h4
        · exact .inr ⟨r, m0, hr, h.later.back h4 hm0, e⟩
        · rcases h.new r m0 h4 hm0 with h5 | ⟨r', m1, hr', hm1, e'⟩
          · exact .inl (by rw [← e]; exact h5)
          · exact .inr ⟨r', m1, Nat.le_trans hw hr', hm1, e'.trans e⟩

/-- Weaker: more may have been written, more blocks are the frame's own. -/
theorem Step.weaken (h : Step X wm μ w μ' w') (hw : wm' ≤ wm) (hX : ∀ b, X b → b < w.heap.size → Y b) : Step Y wm' μ w μ' w' where
  os := h.os
  tape := h.tape
  output := h.output
  size := h.size
  block := fun b hb hx hn => h.block b hb (fun hxb => hx (hX b hxb hb)) fun i m hi hm => hn i m (Nat.le_trans hw hi) hm
  len := h.len
  old := fun i hi => (h.old i hi).imp id fun ⟨a, b⟩ => ⟨Nat.le_trans hw a, b⟩
  new := fun i m hl hm => (h.new i m hl hm).imp id fun ⟨r, m0, hr, x⟩ => ⟨r, m0, Nat.le_trans hw hr, x⟩

/-- Nothing that was there was written: then from whatever number on. -/
theorem Step.fresh (h : Step X μ.length μ w μ' w') (wm' : Nat) : Step X wm' μ w μ' w' where
  os := h.os
  tape := h.tape
  output := h.output
  size := h.size
  block := fun b hb hx _ => h.block b hb hx fun i m hi hm => absurd (lt_of_get hm) (by omega)
  len := h.len
  old := fun i hi => .inl ((h.old i hi).resolve_right fun ⟨a, _⟩ => by omega)
  new := fun i m hl hm => (h.new i m hl hm).imp id fun ⟨r, m0, hr, hm0, _⟩ => absurd (lt_of_get hm0) (by omega)

theorem CRel.later {cs : List AVal} {c : Array Value} {b : Nat} (hl : Later μ μ') (h : CRel E μ cs c b) : CRel E μ' cs c b := fun k v hk => by
  obtain ⟨h1, v', h2, h3⟩ := h k v hk
  exact ⟨h1, v', h2, h3.later hl⟩

/-- An object's relation, carried to a later world in which its block is as it was. -/
theorem ORel.keep {b i : Nat} {o : AObj} (hl : Later μ μ') (h : ORel E μ b i w o) (hm : ∀ m, μ[i]? = some (some m) → μ'[i]? = some (some m) ∧ w'.heap[m.blk]? = w.heap[m.blk]?) :
    ORel E μ' b i w' o := by
  cases o with
  | dead =>
    rcases hl.get h with h1 | h1 <;> exact h1
  | cells esz cs =>
    obtain ⟨m, c, e, fr, h1, h2, h3, h4, h5, h6, h7⟩ := h
    obtain ⟨k1, k2⟩ := hm m h1
    exact ⟨m, c, e, fr, k1, h2, k2.trans h3, h4, h5, h6.later hl, h7⟩
  | map es clock =>
    obtain ⟨m, es', h1, h2, h3, h4⟩ := h
    obtain ⟨k1, k2⟩ := hm m h1
    refine ⟨m, es', k1, k2.trans h2, h3, fun k x hk => ?_⟩
    obtain ⟨y, y1, y2, y3, y4⟩ := h4 k x hk
    exact ⟨y, y1, y2.later hl, y3.later hl, y4⟩
  | iter s pos =>
    obtain ⟨m, h1, h2⟩ := h
    obtain ⟨k1, k2⟩ := hm m h1
    exact ⟨m, k1, k2.trans h2⟩
  | mapIter r a b c =>
    obtain ⟨m, r', ⟨h1, h0⟩, h2, h3⟩ := h
    obtain ⟨k1, k2⟩ := hm m h1
    exact ⟨m, r', ⟨k1, h0⟩, k2.trans h2, h3.later hl⟩
  | loop g st p sl =>
    obtain ⟨m, r, h1, h2, h3⟩ := h
    obtain ⟨k1, k2⟩ := hm m h1
    exact ⟨m, r, k1, k2.trans h2, h3.later hl⟩
end

/-! ## Slots -/

abbrev SlotFn := Nat → Option Slot

/-- Where the frame's variables lie; the blocks that its loops over functions have laid for deferred calls. -/
structure Fr where
  v : Nat → Nat
  ds : List Nat

instance : CoeFun Fr (fun _ => Nat → Nat) := ⟨Fr.v⟩

/-- The frame's slots: values; variables of its own, each in a block of its own, from block 'lo' on; ways into those. -/
structure FRel (E : Env) (lo : Nat) (ν : Fr) (μ : MM) (g : SlotFn) (tmps : Array Value) (w : World) : Prop where
  val : ∀ (t : Nat) (v : AVal), g t = some (.val v) → ∃ v' : Value, tmps[t]? = some v' ∧ VRel E μ v v'
  undef : ∀ t : Nat, g t = some .undef → tmps[t]? = some Go.undef
  var : ∀ (t : Nat) (cs : List AVal), g t = some (.var cs) → tmps[t]? = some (.pointer (some ⟨ν t, 0, none⟩)) ∧ lo ≤ ν t ∧
    ∃ (c : Array Value) (e : TypeId) (fr : Nat × Nat), w.heap[ν t]? = some (.cells c e fr) ∧ c.size = cs.length ∧ CRel E μ cs c 0 ∧ Free fr c.size
  loc : ∀ (t t' o : Nat) (cs : List AVal), g t = some (.loc t' o) → g t' = some (.var cs) → tmps[t]? = some (.pointer (some ⟨ν t', o, none⟩))
  sepv : ∀ (t t' : Nat) (cs cs' : List AVal), t ≠ t' → g t = some (.var cs) → g t' = some (.var cs') → ν t ≠ ν t'
  sepm : ∀ (t : Nat) (cs : List AVal) (i : Nat) (m : M), g t = some (.var cs) → μ[i]? = some (some m) → m.blk ≠ ν t
  ds : ∀ r ∈ ν.ds, lo ≤ r ∧ w.heap[r]? = some (.deferred (some []))
  sepd : ∀ r ∈ ν.ds, (∀ (i : Nat) (m : M), μ[i]? = some (some m) → m.blk ≠ r) ∧ ∀ (t : Nat) (cs : List AVal), g t = some (.var cs) → ν t ≠ r
  nodup : ν.ds.Nodup

theorem FRel.congr {E : Env} {lo : Nat} {ν : Fr} {μ : MM} {g g' : SlotFn} {tmps : Array Value} {w : World} (h : FRel E lo ν μ g tmps w) (hg : ∀ t, g' t = g t) : FRel E lo ν μ g' tmps w := by
  have : g' = g := funext hg
  rw [this]; exact h

/-- Fewer slots. -/
theorem FRel.less {E : Env} {lo : Nat} {ν : Fr} {μ : MM} {g g' : SlotFn} {tmps : Array Value} {w : World} (h : FRel E lo ν μ g tmps w) (hg : ∀ t x, g' t = some x → g t = some x) : FRel E lo ν μ g' tmps w where
  val := fun t v hv => h.val t v (hg _ _ hv)
  undef := fun t hv => h.undef t (hg _ _ hv)
  var := fun t cs hv => h.var t cs (hg _ _ hv)
  loc := fun t t' o cs hv hv' => h.loc t t' o cs (hg _ _ hv) (hg _ _ hv')
  sepv := fun t t' cs cs' hn hv hv' => h.sepv t t' cs cs' hn (hg _ _ hv) (hg _ _ hv')
  sepm := fun t cs i m hv hm => h.sepm t cs i m (hg _ _ hv) hm
  ds := h.ds
  sepd := fun r hr => ⟨(h.sepd r hr).1, fun t cs hv => (h.sepd r hr).2 t cs (hg _ _ hv)⟩
  nodup := h.nodup

section
variable {E : Env} {lo : Nat} {ν : Fr} {μ μ' : MM} {g : SlotFn} {tmps : Array Value} {w w' : World}

/-- The slots' relation, carried over a step that leaves the frame's own blocks alone. -/
theorem FRel.keep (h : FRel E lo ν μ g tmps w) (hl : Later μ μ') (hb : ∀ t cs, g t = some (.var cs) → w'.heap[ν t]? = w.heap[ν t]?)
    (hm : ∀ (t : Nat) (cs : List AVal) (i : Nat) (m : M), g t = some (.var cs) → μ.length ≤ i → μ'[i]? = some (some m) → m.blk ≠ ν t)
    (hd : ∀ r ∈ ν.ds, w'.heap[r]? = w.heap[r]? ∧ ∀ (i : Nat) (m : M), μ.length ≤ i → μ'[i]? = some (some m) → m.blk ≠ r) : FRel E lo ν μ' g tmps w' where
  val := fun t v hv => by
    obtain ⟨v', h1, h2⟩ := h.val t v hv
    exact ⟨v', h1, h2.later hl⟩
  undef := h.undef
  var := fun t cs hv => by
    obtain ⟨h1, h2, c, e, fr, h3, h4, h5, h6⟩ := h.var t cs hv
    exact ⟨h1, h2, c, e, fr, (hb t cs hv).trans h3, h4, h5.later hl, h6⟩
  loc := h.loc
  sepv := h.sepv
  sepm := fun t cs i m hv him => by
    rcases Nat.lt_or_ge i μ.length with h1 | h1
    · exact h.sepm t cs i m hv (hl.back h1 him)
    · exact hm t cs i m hv h1 him
  ds := fun r hr => ⟨(h.ds r hr).1, (hd r hr).1.trans (h.ds r hr).2⟩
  sepd := fun r hr => ⟨fun i m him => by
    rcases Nat.lt_or_ge i μ.length with h1 | h1
    · exact (h.sepd r hr).1 i m (hl.back h1 him)
    · exact (hd r hr).2 i m h1 him, (h.sepd r hr).2⟩
  nodup := h.nodup

theorem FRel.lt_ds (h : FRel E lo ν μ g tmps w) {r : Nat} (hr : r ∈ ν.ds) : r < w.heap.size := lt_of_get (l := w.heap.toList) (by simpa using (h.ds r hr).2)

theorem FRel.lt (h : FRel E lo ν μ g tmps w) {t : Nat} {cs : List AVal} (hv : g t = some (.var cs)) : ν t < w.heap.size := by
  obtain ⟨_, _, c, e, fr, h3, _⟩ := h.var t cs hv
  exact lt_of_get (l := w.heap.toList) (by simpa using h3)

/-- A callee's step: the frame's own blocks are no object's. -/
theorem FRel.step {X : Nat → Prop} {wm : Nat} (h : FRel E lo ν μ g tmps w) (hs : Step X wm μ w μ' w') (hX : ∀ b, b < w.heap.size → ¬ X b) : FRel E lo ν μ' g tmps w' := by
  refine h.keep hs.later (fun t cs hv => hs.block _ (h.lt hv) (hX _ (h.lt hv)) fun i m _ hm => h.sepm t cs i m hv hm) (fun t cs i m hv hi hm => ?_) fun r hr => ?_
  · rcases hs.new i m hi hm with h1 | ⟨r, m0, _, hm0, e⟩
    · have := h.lt hv; omega
    · rw [← e]; exact h.sepm t cs r m0 hv hm0
  · refine ⟨hs.block r (h.lt_ds hr) (hX r (h.lt_ds hr)) fun i m _ hm => (h.sepd r hr).1 i m hm, fun i m hi hm => ?_⟩
    rcases hs.new i m hi hm with h1 | ⟨r', m0, _, hm0, e⟩
    · have := h.lt_ds hr; omega
    · rw [← e]; exact (h.sepd r hr).1 r' m0 hm0

def putT (tmps : Array Value) (d : Option Nat) (v : Value) : Array Value :=
  match d with
  | some x => tmps.setIfInBounds x v
  | none => tmps

def put1 (g : SlotFn) (d : Option Nat) (x : Slot) : SlotFn := fun t => if d = some t then some x else g t

theorem sget_setSlot (d : Option Nat) (x : Slot) (s : Slots) (t : Nat) : sget (setSlot d x s) t = put1 (sget s) d x t := by
  cases d with
  | none => simp [setSlot, put1]
  | some d => simp [setSlot, put1, sget]

/-- A slot is set to a value. -/
theorem FRel.setVal (h : FRel E lo ν μ g tmps w) {d : Option Nat} {v : AVal} {v' : Value} (hd : ∀ x, d = some x → x < tmps.size) (hv : VRel E μ v v') :
    FRel E lo ν μ (put1 g d (.val v)) (putT tmps d v') w := by
  cases d with
  | none => exact h.congr fun t => by simp [put1]
  | some d =>
    have hd := hd d rfl
    show FRel E lo ν μ _ (tmps.setIfInBounds d _) w
    have key : ∀ t, d ≠ t → (tmps.setIfInBounds d v')[t]? = tmps[t]? := fun t ht => Array.getElem?_setIfInBounds_ne ht
    refine ⟨fun t u hu => ?_, fun t hu => ?_, fun t cs hu => ?_, fun t t' o cs hu hu' => ?_, fun t t' cs cs' hn hu hu' => ?_, fun t cs i m hu hm => ?_, h.ds, fun r hr => ⟨(h.sepd r hr).1, fun t cs hu => ?_⟩, h.nodup⟩
    · by_cases e : d = t
      · subst e
        simp [put1] at hu; subst hu
        exact ⟨v', by simp [hd], hv⟩
      · simp [put1, e] at hu; rw [key t e]; exact h.val t u hu
    · by_cases e : d = t
      · subst e; simp [put1] at hu
      · simp [put1, e] at hu; rw [key t e]; exact h.undef t hu
    · by_cases e : d = t
      · subst e; simp [put1] at hu
      · simp [put1, e] at hu; rw [key t e]; exact h.var t cs hu
    · by_cases e : d = t
      · subst e; simp [put1] at hu
      · by_cases e' : d = t'
        · subst e'; simp [put1] at hu'
        · simp [put1, e] at hu; simp [put1, e'] at hu'; rw [key t e]; exact h.loc t t' o cs hu hu'
    · by_cases e : d = t
      · subst e; simp [put1] at hu
      · by_cases e' : d = t'
        · subst e'; simp [put1] at hu'
        · simp [put1, e] at hu; simp [put1, e'] at hu'; exact h.sepv t t' cs cs' hn hu hu'
    · by_cases e : d = t
      · subst e; simp [put1] at hu
      · simp [put1, e] at hu; exact h.sepm t cs i m hu hm
    · by_cases e : d = t
      · subst e; simp [put1] at hu
      · simp [put1, e] at hu; exact (h.sepd r hr).2 t cs hu

theorem FRel.setUndef (h : FRel E lo ν μ g tmps w) {d : Option Nat} (hd : ∀ x, d = some x → x < tmps.size) :
    FRel E lo ν μ (put1 g d .undef) (putT tmps d Go.undef) w := by
  cases d with
  | none => exact h.congr fun t => by simp [put1]
  | some d =>
    have hd := hd d rfl
    show FRel E lo ν μ _ (tmps.setIfInBounds d _) w
    have key : ∀ t, d ≠ t → (tmps.setIfInBounds d Go.undef)[t]? = tmps[t]? := fun t ht => Array.getElem?_setIfInBounds_ne ht
    refine ⟨fun t u hu => ?_, fun t hu => ?_, fun t cs hu => ?_, fun t t' o cs hu hu' => ?_, fun t t' cs cs' hn hu hu' => ?_, fun t cs i m hu hm => ?_, h.ds, fun r hr => ⟨(h.sepd r hr).1, fun t cs hu => ?_⟩, h.nodup⟩
    · by_cases e : d = t
      · subst e; simp [put1] at hu
      · simp [put1, e] at hu; rw [key t e]; exact h.val t u hu
    · by_cases e : d = t
      · subst e; simp [hd]
      · simp [put1, e] at hu; rw [key t e]; exact h.undef t hu
    · by_cases e : d = t
      · subst e; simp [put1] at hu
      · simp [put1, e] at hu; rw [key t e]; exact h.var t cs hu
    · by_cases e : d = t
      · subst e; simp [put1] at hu
      · by_cases e' : d = t'
        · subst e'; simp [put1] at hu'
        · simp [put1, e] at hu; simp [put1, e'] at hu'; rw [key t e]; exact h.loc t t' o cs hu hu'
    · by_cases e : d = t
      · subst e; simp [put1] at hu
      · by_cases e' : d = t'
        · subst e'; simp [put1] at hu'
        · simp [put1, e] at hu; simp [put1, e'] at hu'; exact h.sepv t t' cs cs' hn hu hu'
    · by_cases e : d = t
      · subst e; simp [put1] at hu
      · simp [put1, e] at hu; exact h.sepm t cs i m hu hm
    · by_cases e : d = t
      · subst e; simp [put1] at hu
      · simp [put1, e] at hu; exact (h.sepd r hr).2 t cs hu

/-- A slot is set to a way into a variable. -/
theorem FRel.setLoc (h : FRel E lo ν μ g tmps w) {d u o : Nat} (hd : d < tmps.size) :
    FRel E lo ν μ (put1 g (some d) (.loc u o)) (tmps.setIfInBounds d (.pointer (some ⟨ν u, o, none⟩))) w := by
  have key : ∀ t, d ≠ t → (tmps.setIfInBounds d (.pointer (some ⟨ν u, o, none⟩)))[t]? = tmps[t]? := fun t ht => Array.getElem?_setIfInBounds_ne ht
  refine ⟨fun t x hx => ?_, fun t hx => ?_, fun t cs hx => ?_, fun t t' o' cs hx hx' => ?_, fun t t' cs cs' hn hx hx' => ?_, fun t cs i m hx hm => ?_, h.ds, fun r hr => ⟨(h.sepd r hr).1, fun t cs hx => ?_⟩, h.nodup⟩
  · by_cases e : d = t
    · subst e; simp [put1] at hx
    · simp [put1, e] at hx; rw [key t e]; exact h.val t x hx
  · by_cases e : d = t
    · subst e; simp [put1] at hx
    · simp [put1, e] at hx; rw [key t e]; exact h.undef t hx
  · by_cases e : d = t
    · subst e; simp [put1] at hx
    · simp [put1, e] at hx; rw [key t e]; exact h.var t cs hx
  · by_cases e : d = t
    · subst e; simp [put1] at hx; obtain ⟨rfl, rfl⟩ := hx; simp [hd]
    · by_cases e' : d = t'
      · subst e'; simp [put1] at hx'
      · simp [put1, e] at hx; simp [put1, e'] at hx'; rw [key t e]; exact h.loc t t' o' cs hx hx'
  · by_cases e : d = t
    · subst e; simp [put1] at hx
    · by_cases e' : d = t'
      · subst e'; simp [put1] at hx'
      · simp [put1, e] at hx; simp [put1, e'] at hx'; exact h.sepv t t' cs cs' hn hx hx'
  · by_cases e : d = t
    · subst e; simp [put1] at hx
    · simp [put1, e] at hx; exact h.sepm t cs i m hx hm
  · by_cases e : d = t
    · subst e; simp [put1] at hx
    · simp [put1, e] at hx; exact (h.sepd r hr).2 t cs hx

end
end Go.Abs

/-
  What the machine does to memory, on both sides: a new object, a store, an object that takes another's place.
-/
namespace Go.Abs

section
variable {E : Env} {μ : MM} {h : Heap} {w : World}

/-- The world with another thing in one block. -/
def withBlock (w : World) (b : Nat) (o : Obj) : World := { w with heap := w.heap.setIfInBounds b o }

theorem withBlock_same {w : World} {b : Nat} {o : Obj} (hb : b < w.heap.size) : (withBlock w b o).heap[b]? = some o := by
  simp [withBlock, hb]
theorem withBlock_other {w : World} {b k : Nat} {o : Obj} (hb : b ≠ k) : (withBlock w b o).heap[k]? = w.heap[k]? := by
  simp [withBlock, Array.getElem?_setIfInBounds_ne hb]

theorem lt_heap {w : World} {b : Nat} {o : Obj} (h : w.heap[b]? = some o) : b < w.heap.size := lt_of_get (l := w.heap.toList) (by simpa using h)

/-- Rel speaks of the heap alone, of the abstract heap's objects and base alone. -/
theorem Rel.same (hr : Rel E μ h w) {h' : Heap} {w' : World} (ho : h'.objs = h.objs) (hb : h'.base = h.base) (hw : w'.heap = w.heap) : Rel E μ h' w' := by
  refine ⟨by rw [ho]; exact hr.len, by rw [ho, hb]; exact hr.bs, fun i o hi => ?_, fun i j mi mj hn hi => ?_, fun i m hm => by rw [hw]; exact hr.lt i m hm⟩
  · rw [hb]; rw [ho] at hi
    exact (hr.obj i o hi).keep (Later.refl _) fun m hm => ⟨hm, by rw [hw]⟩
  · rw [hb] at hi; exact hr.sep i j mi mj hn hi

/-- Blocks that are no object's may change as they like. -/
theorem Rel.keep (hr : Rel E μ h w) {w' : World} (hs : w.heap.size ≤ w'.heap.size) (hk : ∀ (i : Nat) (m : M), μ[i]? = some (some m) → w'.heap[m.blk]? = w.heap[m.blk]?) : Rel E μ h w' :=
  ⟨hr.len, hr.bs, fun i o hi => (hr.obj i o hi).keep (Later.refl _) fun m hm => ⟨hm, hk i m hm⟩, hr.sep, fun i m hm => Nat.lt_of_lt_of_le (hr.lt i m hm) hs⟩

theorem later_push (μ : MM) (x : Option M) : Later μ (μ ++ [x]) :=
  ⟨by simp, fun i hi => .inl (by rw [List.getElem?_append_left hi])⟩

theorem get_push {μ : MM} {x : Option M} {i : Nat} {m : Option M} (hm : (μ ++ [x])[i]? = some m) : μ[i]? = some m ∨ (i = μ.length ∧ x = m) := by
  rcases Nat.lt_or_ge i μ.length with h1 | h1
  · rw [List.getElem?_append_left h1] at hm; exact .inl hm
  · rw [List.getElem?_append_right h1] at hm
    have : i - μ.length = 0 := by
      rcases Nat.eq_zero_or_pos (i - μ.length) with h2 | h2
      · exact h2
      · rw [List.getElem?_eq_none (by simp; omega)] at hm; cases hm
    rw [this] at hm; simp at hm
    exact .inr ⟨by omega, hm⟩

/-- A new object in a new block. -/
theorem Rel.push (hr : Rel E μ h w) (o : AObj) (B : Obj) (m : M) (hm : m.blk = w.heap.size)
    (ho : ORel E (μ ++ [some m]) h.base μ.length { w with heap := w.heap.push B } o) :
    Rel E (μ ++ [some m]) (h.push o) { w with heap := w.heap.push B } := by
  have hblk : ∀ k, k < w.heap.size → (w.heap.push B)[k]? = w.heap[k]? := fun k hk => by
    rw [Array.getElem?_push, if_neg (by omega)]
  refine ⟨by simp [Heap.push, hr.len], by have := hr.bs; simp [Heap.push]; omega, fun i o' hi => ?_, fun i j mi mj hn hi h1 h2 => ?_, fun i m' hm' => ?_⟩
  · simp only [Heap.push] at hi ⊢
    rcases Nat.lt_or_ge i h.objs.length with h1 | h1
    · rw [List.getElem?_append_left h1] at hi
      exact (hr.obj i o' hi).keep (later_push μ _) fun m' hm' => ⟨by rw [List.getElem?_append_left (lt_of_get hm')]; exact hm', hblk _ (hr.lt i m' hm')⟩
    · rw [List.getElem?_append_right h1] at hi
      have h2 : i - h.objs.length = 0 := by
        rcases Nat.eq_zero_or_pos (i - h.objs.length) with h2 | h2
        · exact h2
        · rw [List.getElem?_eq_none (by simp; omega)] at hi; cases hi
      rw [h2] at hi; simp at hi; subst hi
      have : i = μ.length := by rw [hr.len]; omega
      subst this; exact ho
  · rcases get_push h1 with a | ⟨rfl, a⟩ <;> rcases get_push h2 with b | ⟨rfl, b⟩
    · exact hr.sep i j mi mj hn hi a b
    · cases b; have := hr.lt i mi a; omega
    · cases a; have := hr.lt j mj b; omega
    · exact absurd rfl hn
  · rcases get_push hm' with a | ⟨rfl, a⟩
    · have := hr.lt i m' a; simp; omega
    · cases a; simp [hm]

theorem Step.push {X : Nat → Prop} (wm : Nat) (μ : MM) (w : World) (B : Obj) (m : M) (hm : w.heap.size ≤ m.blk) : Step X wm μ w (μ ++ [some m]) { w with heap := w.heap.push B } where
  os := rfl
  tape := rfl
  output := rfl
  size := by simp
  block := fun k hk _ _ => by
    show (w.heap.push B)[k]? = _
    rw [Array.getElem?_push, if_neg (by omega)]
  len := by simp
  old := fun i hi => .inl (by rw [List.getElem?_append_left hi])
  new := fun i m' hi hm' => by
    rcases get_push hm' with a | ⟨_, a⟩
    · exact absurd (lt_of_get a) (by omega)
    · cases a; exact .inl hm

/-- A draw, and what else is told of no block. -/
theorem Step.heap {X : Nat → Prop} {wm : Nat} {μ μ' : MM} {w w' w1 : World} (h : Step X wm μ w μ' w') (e1 : w1.heap = w'.heap) (e2 : w1.os = w'.os) (e3 : w1.tape = w'.tape) (e4 : w1.output = w'.output) : Step X wm μ w μ' w1 :=
  ⟨e2.trans h.os, e3.trans h.tape, e4.trans h.output, by rw [e1]; exact h.size, fun k hk hx hn => by rw [e1]; exact h.block k hk hx hn, h.len, h.old, h.new⟩

theorem get_set {μ : MM} {i j : Nat} {x : Option M} : (μ.set i x)[j]? = if i = j then (if j < μ.length then some x else none) else μ[j]? := by
  by_cases e : i = j
  · subst e; simp [List.getElem?_set_self']; split <;> simp_all
  · simp [e]

/-- A store into an object's block: the object is another one. -/
theorem Rel.put (hr : Rel E μ h w) {i : Nat} {m : M} {o : AObj} {B : Obj} (hi : h.base ≤ i) (hm : μ[i]? = some (some m))
    (ho : ORel E μ h.base i (withBlock w m.blk B) o) : Rel E μ (h.put i o) (withBlock w m.blk B) := by
  have hlt := hr.lt i m hm
  refine ⟨by simp [Heap.put, hr.len], by simpa [Heap.put] using hr.bs, fun j o' hj => ?_, hr.sep, fun j m' hm' => by simp [withBlock]; exact hr.lt j m' hm'⟩
  simp only [Heap.put] at hj ⊢
  by_cases e : i = j
  · subst e
    have : i < h.objs.length := by rw [← hr.len]; exact lt_of_get hm
    simp [this] at hj; subst hj; exact ho
  · rw [List.getElem?_set_ne e] at hj
    exact (hr.obj j o' hj).keep (Later.refl _) fun m' hm' => ⟨hm', withBlock_other (hr.sep i j m m' e hi hm hm')⟩

theorem Step.put {X : Nat → Prop} {wm : Nat} {i : Nat} {m : M} (hm : μ[i]? = some (some m)) (hw : wm ≤ i) (B : Obj) : Step X wm μ w μ (withBlock w m.blk B) where
  os := rfl
  tape := rfl
  output := rfl
  size := by simp [withBlock]
  block := fun k _ _ hn => withBlock_other (hn i m hw hm)
  len := Nat.le_refl _
  old := fun _ _ => .inl rfl
  new := fun j m' hj hm' => absurd (lt_of_get hm') (by omega)

theorem later_set (μ : MM) (i : Nat) : Later μ (μ.set i none) :=
  ⟨by simp, fun j hj => by
    rw [get_set]
    by_cases e : i = j
    · right; subst e; simp [hj]
    · left; simp [e]⟩

/-- An object goes (nothing of the world changes). -/
theorem Rel.kill (hr : Rel E μ h w) (i : Nat) : Rel E (μ.set i none) (h.put i .dead) w := by
  refine ⟨by simp [Heap.put, hr.len], by simpa [Heap.put] using hr.bs, fun j o hj => ?_, fun j k mj mk hn hj h1 h2 => ?_, fun j m hm => ?_⟩
  · simp only [Heap.put] at hj ⊢
    by_cases e : i = j
    · subst e
      rw [List.getElem?_set_self'] at hj
      cases hx : h.objs[i]? with
      | none => rw [hx] at hj; simp at hj
      | some y =>
        rw [hx] at hj; simp at hj; subst hj
        simp only [ORel]
        rw [get_set, if_pos rfl, if_pos (by rw [hr.len]; exact lt_of_get hx)]
    · rw [List.getElem?_set_ne e] at hj
      exact (hr.obj j o hj).keep (later_set μ i) fun m hm => ⟨by rw [get_set, if_neg e]; exact hm, rfl⟩
  · rw [get_set] at h1 h2
    simp only [Heap.put] at hj
    have e1 : i ≠ j := by
      intro e; rw [if_pos e] at h1
      split at h1 <;> cases h1
    have e2 : i ≠ k := by
      intro e; rw [if_pos e] at h2
      split at h2 <;> cases h2
    rw [if_neg e1] at h1; rw [if_neg e2] at h2
    exact hr.sep j k mj mk hn hj h1 h2
  · rw [get_set] at hm
    split at hm
    · split at hm <;> cases hm
    · exact hr.lt j m hm

theorem Step.kill {X : Nat → Prop} {wm : Nat} (μ : MM) (w : World) {i : Nat} (hw : wm ≤ i) : Step X wm μ w (μ.set i none) w where
  os := rfl
  tape := rfl
  output := rfl
  size := Nat.le_refl _
  block := fun _ _ _ _ => rfl
  len := by simp
  old := fun j hj => by
    rw [get_set]
    by_cases e : i = j
    · right; subst e; simp [hj, hw]
    · left; simp [e]
  new := fun j m hj hm => absurd (lt_of_get hm) (by simp; omega)

/-- An object takes the block of one that has gone: it is a new object in an old block. -/
theorem Rel.take (hr : Rel E μ h w) {i : Nat} {m m' : M} {o : AObj} {B : Obj} (hi : h.base ≤ i) (hm : μ[i]? = some (some m)) (hb : m'.blk = m.blk)
    (ho : ORel E (μ.set i none ++ [some m']) h.base μ.length (withBlock w m.blk B) o) :
    Rel E (μ.set i none ++ [some m']) ((h.put i .dead).push o) (withBlock w m.blk B) := by
  have hk := hr.kill i
  have hlen : (μ.set i none).length = μ.length := by simp
  have hne : ∀ (j : Nat) (mj : M), (μ.set i none)[j]? = some (some mj) → mj.blk ≠ m.blk := by
    intro j mj hj
    rw [get_set] at hj
    by_cases e : i = j
    · rw [if_pos e] at hj; split at hj <;> cases hj
    · rw [if_neg e] at hj; exact fun e' => hr.sep i j m mj e hi hm hj e'.symm
  refine ⟨by simp [Heap.push, Heap.put, hr.len], by have := hr.bs; simp [Heap.push, Heap.put]; omega, fun j o' hj => ?_, fun j k mj mk hn hj h1 h2 => ?_, fun j mj hmj => ?_⟩
  · simp only [Heap.push] at hj
    rcases Nat.lt_or_ge j (h.put i .dead).objs.length with h1 | h1
    · rw [List.getElem?_append_left h1] at hj
      exact (hk.obj j o' hj).keep (later_push _ _) fun mj hmj => ⟨by rw [List.getElem?_append_left (lt_of_get hmj)]; exact hmj, withBlock_other (hne j mj hmj).symm⟩
    · rw [List.getElem?_append_right h1] at hj
      have h2 : j - (h.put i .dead).objs.length = 0 := by
        rcases Nat.eq_zero_or_pos (j - (h.put i .dead).objs.length) with h2 | h2
        · exact h2
        · rw [List.getElem?_eq_none (by simp; omega)] at hj; cases hj
      rw [h2] at hj; simp at hj; subst hj
      have : j = μ.length := by rw [hr.len]; simp [Heap.put] at h1 h2; omega
      subst this; exact ho
  · rcases get_push h1 with a | ⟨e1, a⟩ <;> rcases get_push h2 with b | ⟨e2, b⟩
    · exact hk.sep j k mj mk hn hj a b
    · cases b; rw [hb]; exact hne j mj a
    · cases a; rw [hb]; exact fun e => hne k mk b e.symm
    · exact absurd (e1.trans e2.symm) hn
  · rcases get_push hmj with a | ⟨e, a⟩
    · have := hk.lt j mj a; simpa [withBlock] using this
    · cases a; rw [hb]; simpa [withBlock] using hr.lt i m hm

theorem Step.take {X : Nat → Prop} {wm : Nat} {i : Nat} {m m' : M} (B : Obj) (hm : μ[i]? = some (some m)) (hb : m'.blk = m.blk) (hw : wm ≤ i) :
    Step X wm μ w (μ.set i none ++ [some m']) (withBlock w m.blk B) where
  os := rfl
  tape := rfl
  output := rfl
  size := by simp [withBlock]
  block := fun k _ _ hn => withBlock_other (hn i m hw hm)
  len := by simp
  old := fun j hj => by
    rw [List.getElem?_append_left (by simpa using hj)]
    exact (Step.kill (X := X) μ w hw).old j hj
  new := fun j mj hj hmj => by
    rcases get_push hmj with a | ⟨_, a⟩
    · exact absurd (lt_of_get a) (by simp; omega)
    · cases a; exact .inr ⟨i, m, hw, hm, hb.symm⟩

end

/-! ## Loads and stores -/

def one? : Value → Bool
  | .agg _ | .tuple _ => false
  | _ => true

section
variable {P : Program} {w : World}

theorem cell_of_block {w : World} {b o : Nat} {c : Array Value} {e : TypeId} {fr : Nat × Nat} (hb : w.heap[b]? = some (.cells c e fr)) : w.cell? ⟨b, o, none⟩ = c[o]? := by
  simp [World.cell?, hb]

theorem frozen_of_block {w : World} {b o : Nat} {c : Array Value} {e : TypeId} {fr : Nat × Nat} (hb : w.heap[b]? = some (.cells c e fr)) : w.frozen? ⟨b, o, none⟩ = decide (fr.1 ≤ o ∧ o < fr.2) := by
  obtain ⟨lo, hi⟩ := fr
  simp [World.frozen?, hb]

theorem setCell_block {w : World} {b o : Nat} {c : Array Value} {e0 : TypeId} {fr : Nat × Nat} (v : Value) (hb : w.heap[b]? = some (.cells c e0 fr)) :
    w.setCell ⟨b, o, none⟩ v = withBlock w b (.cells (c.setIfInBounds o v) e0 fr) := by
  have hl := lt_heap hb
  simp only [World.setCell, withBlock]
  congr 1
  apply Array.ext_getElem?
  intro k
  rw [Array.getElem?_modify, Array.getElem?_setIfInBounds]
  by_cases e : b = k
  · subst e
    have hb' : w.heap[b] = .cells c e0 fr := by rw [Array.getElem?_eq_getElem hl] at hb; exact Option.some.inj hb
    simp [hl, hb']
  · simp [e]

theorem withBlock_twice (w : World) (b : Nat) (o o' : Obj) : withBlock (withBlock w b o) b o' = withBlock w b o' := by
  simp [withBlock]

def spliceA (c : Array Value) (off : Nat) (vs : List Value) : Array Value :=
  match vs with
  | [] => c
  | v :: r => spliceA (c.setIfInBounds off v) (off + 1) r

theorem spliceA_size : ∀ (vs : List Value) (c : Array Value) (off : Nat), (spliceA c off vs).size = c.size
  | [], _, _ => rfl
  | v :: r, c, off => by simp [spliceA, spliceA_size r]

theorem spliceA_get : ∀ (vs : List Value) (c : Array Value) (off k : Nat), off + vs.length ≤ c.size →
    (spliceA c off vs)[k]? = if off ≤ k ∧ k < off + vs.length then vs[k - off]? else c[k]?
  | [], c, off, k, _ => by
    simp only [spliceA, List.length_nil, Nat.add_zero]
    rw [if_neg (by omega)]
  | v :: r, c, off, k, h => by
    simp only [List.length_cons] at h
    simp only [spliceA]
    rw [spliceA_get r _ (off + 1) k (by simp; omega)]
    by_cases h1 : off = k
    · subst h1
      have h3 : off < c.size := by omega
      rw [if_neg (by omega), if_pos (by simp)]
      simp [h3]
    · by_cases h2 : off ≤ k ∧ k < off + (v :: r).length
      · rw [if_pos h2, if_pos (by simp at h2; omega)]
        have : k - off = (k - (off + 1)) + 1 := by omega
        rw [this]; simp
      · rw [if_neg h2, if_neg (by simp at h2; omega), Array.getElem?_setIfInBounds_ne h1]

theorem run_storeCells {b : Nat} {e : TypeId} {fr : Nat × Nat} {a : Addr} (ha : a.block = b) (hs : a.spot = none) : ∀ (vs : List Value) (i : Nat) (c : Array Value) (w : World),
    w.heap[b]? = some (.cells c e fr) → a.off + i + vs.length ≤ c.size → (∀ off, off < c.size → ¬ (fr.1 ≤ off ∧ off < fr.2)) → (∀ v ∈ vs, one? v = true) →
    (storeCells a vs i).run P w = .ok () (withBlock w b (.cells (spliceA c (a.off + i) vs) e fr))
  | [], i, c, w, hb, _, _, _ => by
    simp only [storeCells, spliceA]
    show Result.ok () w = _
    congr 1
    simp only [withBlock]
    have hl := lt_heap hb
    have : w.heap.setIfInBounds b (.cells c e fr) = w.heap := by
      apply Array.ext_getElem?
      intro k
      by_cases e : b = k
      · subst e; simp [hl]
        simpa [hl] using hb.symm
      · simp [Array.getElem?_setIfInBounds_ne e]
    rw [this]
  | v :: r, i, c, w, hb, hl, hf, h1 => by
    have hadd : a.add i = ⟨b, a.off + i, none⟩ := by
      unfold Addr.add
      split
      · rename_i h0; subst h0; cases a; simp at ha hs; subst ha; subst hs; simp
      · cases a; simp at ha; subst ha; rfl
    have hv : one? v = true := h1 v (List.mem_cons_self ..)
    have hi : a.off + i < c.size := by simp at hl; omega
    have hcell : w.cell? (a.add i) = some c[a.off + i] := by rw [hadd, cell_of_block hb]; simp [hi]
    have hfz : w.frozen? (a.add i) = false := by rw [hadd, frozen_of_block hb]; simpa using hf _ hi
    have hstore : (store (a.add i) v).run P w = .ok () (w.setCell (a.add i) v) := by
      cases v <;> simp only [one?, Bool.false_eq_true] at hv <;> simp [store, Sem.run, hcell, hfz]
    simp only [storeCells, Sem.run_bind, hstore, Result.andThen_ok]
    rw [hadd, setCell_block v hb]
    have hb' : (withBlock w b (.cells (c.setIfInBounds (a.off + i) v) e fr)).heap[b]? = some (.cells (c.setIfInBounds (a.off + i) v) e fr) := withBlock_same (lt_heap hb)
    rw [run_storeCells ha hs r (i + 1) _ _ hb' (by simp at hl ⊢; omega) (by simpa using hf) (fun x hx => h1 x (List.mem_cons_of_mem _ hx)), withBlock_twice]
    rfl

theorem oneCell_of {E : Env} {μ : MM} {a : AVal} {v : Value} (h : VRel E μ a v) (hc : a.isOne = true) : one? v = true := by
  obtain ⟨h1, h2⟩ := one_rel h hc
  cases v <;> first | rfl | (exact absurd ⟨_, rfl⟩ h1) | (exact absurd ⟨_, rfl⟩ h2)

theorem oneCell_all {E : Env} {μ : MM} {as : List AVal} {l : List Value} (h : VRels E μ as l) (hc : ∀ x ∈ as, x.isOne = true) : ∀ v ∈ l, one? v = true := by
  induction as generalizing l with
  | nil => simp only [VRels] at h; subst h; simp
  | cons a as ih =>
    simp only [VRels] at h
    obtain ⟨v, r, rfl, h1, h2⟩ := h
    intro x hx
    rcases List.mem_cons.1 hx with rfl | hx
    · exact oneCell_of h1 (hc a (List.mem_cons_self ..))
    · exact ih h2 (fun y hy => hc y (List.mem_cons_of_mem _ hy)) x hx

/-- Cells behind a splice, on both sides. -/
theorem CRel.splice {E : Env} {μ : MM} {cs xs : List AVal} {c : Array Value} {l : List Value} {b o : Nat} (h : CRel E μ cs c b) (hx : VRels E μ xs l) (h1 : ∀ x ∈ xs, x.isOne = true)
    (ho : o + xs.length ≤ cs.length) (hs : b + cs.length ≤ c.size) : CRel E μ (Abs.splice cs o xs) (spliceA c (b + o) l) b := by
  have hl := hx.length
  intro k v hk
  rw [spliceA_get l c (b + o) (b + k) (by omega)]
  simp only [Abs.splice] at hk
  by_cases h2 : k < o
  · rw [List.append_assoc, List.getElem?_append_left (by simp; omega), List.getElem?_take_of_lt h2] at hk
    rw [if_neg (by omega)]
    exact h k v hk
  · by_cases h3 : k < o + xs.length
    · rw [List.append_assoc, List.getElem?_append_right (by simp; omega), List.getElem?_append_left (by simp; omega)] at hk
      have : k - (List.take o cs).length = k - o := by simp; omega
      rw [this] at hk
      obtain ⟨v', hv', hr⟩ := hx.get hk
      rw [if_pos (by omega)]
      refine ⟨h1 v (List.mem_of_getElem? hk), v', ?_, hr⟩
      rw [← hv']; congr 1; omega
    · rw [List.getElem?_append_right (by simp; omega)] at hk
      rw [List.getElem?_drop] at hk
      have : o + xs.length + (k - (List.take o cs ++ xs).length) = k := by simp; omega
      rw [this] at hk
      rw [if_neg (by omega)]
      exact h k v hk

theorem splice_length (cs : List AVal) (o : Nat) (xs : List AVal) (h : o + xs.length ≤ cs.length) : (splice cs o xs).length = cs.length := by
  simp [splice]; omega

end
end Go.Abs

/-
  Slots: operands and addresses; a new variable of the frame; a store into one.
-/
namespace Go.Abs

section
variable {E : Env} {lo : Nat} {ν : Fr} {μ : MM} {s : Slots} {a : Act} {w : World}

theorem sget_unloc (d : Nat) : ∀ (s : Slots) (t : Nat), sget (unloc d s) t = match sget s t with
    | some (.loc t' o) => if t' = d then some .gone else some (.loc t' o)
    | x => x
  | [], t => rfl
  | (u, x) :: r, t => by
    have ih := sget_unloc d r t
    cases x with
    | loc t' o =>
      simp only [unloc, sget]
      by_cases e : u = t
      · simp [e]; split <;> rfl
      · simp [e, ih]
    | _ =>
      simp only [unloc, sget]
      by_cases e : u = t
      · simp [e]
      · simp [e, ih]

theorem sget_keep (l : List Nat) (s : Slots) (t : Nat) (x : Slot) (h : sget (keep l s) t = some x) : sget s t = some x := by
  unfold keep at h
  induction l with
  | nil => simp [sget] at h
  | cons u r ih =>
    simp only [List.filterMap_cons] at h
    split at h
    · exact ih h
    · rename_i y hy
      have : y.1 = u ∧ sget s u = some y.2 := by
        cases hs : sget s u with
        | none => rw [hs] at hy; simp at hy
        | some z => rw [hs] at hy; cases z <;> simp at hy <;> subst hy <;> simp
      obtain ⟨e1, e2⟩ := this
      obtain ⟨y1, y2⟩ := y
      simp only at e1 e2
      subst e1
      simp only [sget] at h
      split at h
      · rename_i e; subst e; cases h; exact e2
      · exact ih h

theorem eval_tmp {t : Nat} {v : Value} (h : a.tmps[t]? = some v) : a.eval (.tmp t) = v := by
  simp [Act.eval, h]

theorem opd_rel (hf : FRel E lo ν μ (sget s) a.tmps w) {x : Operand} {y : Opd} {v : AVal} (hc : cOpd E x = some y) (he : y.ev s = some v) : VRel E μ v (a.eval x) := by
  cases x with
  | tmp t =>
    simp only [cOpd] at hc; cases hc
    simp only [Opd.ev] at he
    split at he
    · rename_i v' hs
      cases he
      obtain ⟨u, hu, hr⟩ := hf.val t _ hs
      rw [eval_tmp hu]; exact hr
    · simp at he
  | const c =>
    simp only [cOpd] at hc
    rw [Option.map_eq_some_iff] at hc
    obtain ⟨b, hb, rfl⟩ := hc
    simp only [Opd.ev] at he; cases he
    exact toA_rel hb μ
  | func f =>
    simp only [cOpd] at hc
    rw [Option.map_eq_some_iff] at hc
    obtain ⟨g, hg, rfl⟩ := hc
    simp only [Opd.ev] at he; cases he
    simp only [VRel, Act.eval]
    exact ⟨f, #[], #[], rfl, hg, by simp [VRels], by simp [VRels]⟩
  | global g => simp [cOpd] at hc

theorem opds_rel (hf : FRel E lo ν μ (sget s) a.tmps w) : ∀ {xs : List Operand} {ys : List Opd} {vs : List AVal}, cOpds E xs = some ys → evs s ys = some vs → VRels E μ vs (xs.map a.eval)
  | [], ys, vs, hc, he => by
    simp only [cOpds] at hc; cases hc
    simp only [evs] at he; cases he
    simp [VRels]
  | x :: xs, ys, vs, hc, he => by
    simp only [cOpds] at hc
    split at hc
    · rename_i y ys' h1 h2
      cases hc
      simp only [evs] at he
      split at he
      · rename_i v vs' h3 h4
        cases he
        simp only [VRels, List.map_cons]
        exact ⟨_, _, rfl, opd_rel hf h1 h3, opds_rel hf h2 h4⟩
      · simp at he
    · simp at hc

theorem adr_glob (hf : FRel E lo ν μ (sget s) a.tmps w) {x : Operand} {y : Opd} {i o : Nat} (hc : cOpd E x = some y) (he : y.adr s = some (.glob i o)) :
    ∃ ad, a.eval x = .pointer (some ad) ∧ ARel μ i o ad := by
  cases x with
  | tmp t =>
    simp only [cOpd] at hc; cases hc
    simp only [Opd.adr] at he
    split at he
    · rename_i i' o' hs
      cases he
      obtain ⟨u, hu, hr⟩ := hf.val t _ hs
      simp only [VRel] at hr
      obtain ⟨ad, rfl, hr⟩ := hr
      exact ⟨ad, eval_tmp hu, hr⟩
    · cases he
    · cases he
    · simp at he
  | const c => simp only [cOpd] at hc; rw [Option.map_eq_some_iff] at hc; obtain ⟨b, _, rfl⟩ := hc; simp [Opd.adr] at he
  | func f => simp only [cOpd] at hc; rw [Option.map_eq_some_iff] at hc; obtain ⟨b, _, rfl⟩ := hc; simp [Opd.adr] at he
  | global g => simp [cOpd] at hc

theorem adr_loc (hf : FRel E lo ν μ (sget s) a.tmps w) {x : Operand} {y : Opd} {t o : Nat} {cs : List AVal} (hc : cOpd E x = some y) (he : y.adr s = some (.loc t o)) (hv : sget s t = some (.var cs)) :
    a.eval x = .pointer (some ⟨ν t, o, none⟩) := by
  cases x with
  | tmp u =>
    simp only [cOpd] at hc; cases hc
    simp only [Opd.adr] at he
    split at he
    · cases he
    · rename_i cs' hs
      cases he
      exact eval_tmp (hf.var _ _ hs).1
    · rename_i t' o' hs
      cases he
      exact eval_tmp (hf.loc _ _ _ _ hs hv)
    · simp at he
  | const c => simp only [cOpd] at hc; rw [Option.map_eq_some_iff] at hc; obtain ⟨b, _, rfl⟩ := hc; simp [Opd.adr] at he
  | func f => simp only [cOpd] at hc; rw [Option.map_eq_some_iff] at hc; obtain ⟨b, _, rfl⟩ := hc; simp [Opd.adr] at he
  | global g => simp [cOpd] at hc

/-- A new variable of the frame's own, in a new block. -/
theorem FRel.setVar {d : Nat} {tmps : Array Value} (hf : FRel E lo ν μ (sget s) tmps w) (hm : ∀ (i : Nat) (m : M), μ[i]? = some (some m) → m.blk < w.heap.size) (hlo : lo ≤ w.heap.size) (hd : d < tmps.size)
    {cs : List AVal} {c : Array Value} (e : TypeId) (hc : VRels E μ cs c.toList) (h1 : ∀ x ∈ cs, x.isOne = true) :
    FRel E lo ⟨fun t => if t = d then w.heap.size else ν t, ν.ds⟩ μ (put1 (sget (unloc d s)) (some d) (.var cs)) (tmps.setIfInBounds d (.pointer (some ⟨w.heap.size, 0, none⟩)))
      { w with heap := w.heap.push (.cells c e (0, 0)) } := by
  have key : ∀ t, d ≠ t → (tmps.setIfInBounds d (.pointer (some ⟨w.heap.size, 0, none⟩)))[t]? = tmps[t]? := fun t ht => Array.getElem?_setIfInBounds_ne ht
  have old : ∀ {t : Nat} {x : Slot}, d ≠ t → put1 (sget (unloc d s)) (some d) (.var cs) t = some x → x ≠ .gone → sget s t = some x ∧ ∀ t' o, x = .loc t' o → t' ≠ d := by
    intro t x ht hx hg
    have ht' : ¬ (d = t) := ht
    simp only [put1, Option.some.injEq, ht', if_false] at hx
    rw [sget_unloc] at hx
    split at hx
    · rename_i t' o hs
      split at hx
      · cases hx; exact absurd rfl hg
      · rename_i hne; cases hx; exact ⟨hs, fun t'' o' e => by cases e; exact hne⟩
    · rename_i hne
      exact ⟨hx, fun t' o e => by subst e; exact absurd hx (hne t' o)⟩
  have blk : ∀ k, k < w.heap.size → (w.heap.push (.cells c e (0, 0)))[k]? = w.heap[k]? := fun k hk => by rw [Array.getElem?_push, if_neg (by omega)]
  refine ⟨fun t u hu => ?_, fun t hu => ?_, fun t cs' hu => ?_, fun t t' o cs' hu hu' => ?_, fun t t' cs1 cs2 hn hu hu' => ?_, fun t cs' i m hu him => ?_, fun r hr => ?_, fun r hr => ⟨fun i m him => (hf.sepd r hr).1 i m him, fun t cs' hu => ?_⟩, hf.nodup⟩
  · by_cases ht : d = t
    · subst ht; simp [put1] at hu
    · rw [key t ht]; exact hf.val t u (old ht hu (by simp)).1
  · by_cases ht : d = t
    · subst ht; simp [put1] at hu
    · rw [key t ht]; exact hf.undef t (old ht hu (by simp)).1
  · by_cases ht : d = t
    · subst ht
      simp [put1] at hu; subst hu
      refine ⟨by simp [hd], by simp [hlo], c, e, (0, 0), by simp, by rw [hc.length]; simp, fun k v hk => ?_, fun off _ => by simp⟩
      obtain ⟨v', hv', hr⟩ := hc.get hk
      exact ⟨h1 v (List.mem_of_getElem? hk), v', by simpa using hv', hr⟩
    · obtain ⟨k1, k2, c', e', fr, k3, k4, k5, k6⟩ := hf.var t cs' (old ht hu (by simp)).1
      have ht' : ¬ (t = d) := fun e => ht e.symm
      simp only [ht', if_false]
      exact ⟨by rw [key t ht]; exact k1, k2, c', e', fr, by rw [blk _ (lt_heap k3)]; exact k3, k4, k5, k6⟩
  · by_cases ht : d = t
    · subst ht; simp [put1] at hu
    · obtain ⟨k1, k2⟩ := old ht hu (by simp)
      have ht' : t' ≠ d := k2 t' o rfl
      have ht'' : d ≠ t' := fun e => ht' e.symm
      obtain ⟨k3, _⟩ := old ht'' hu' (by simp)
      rw [key t ht]
      simp only [ht', if_false]
      exact hf.loc t t' o cs' k1 k3
  · by_cases ht : d = t
    · subst ht
      have k2 := (old hn hu' (by simp)).1
      have hn' : ¬ (t' = d) := fun e => hn e.symm
      simp only [if_true, hn', if_false]
      have := hf.lt k2
      omega
    · have k1 := (old ht hu (by simp)).1
      have ht' : ¬ (t = d) := fun e => ht e.symm
      by_cases ht2 : d = t'
      · subst ht2
        simp only [if_true, ht', if_false]
        have := hf.lt k1
        omega
      · have k2 := (old ht2 hu' (by simp)).1
        have ht2' : ¬ (t' = d) := fun e => ht2 e.symm
        simp only [ht', ht2', if_false]
        exact hf.sepv t t' cs1 cs2 hn k1 k2
  · by_cases ht : d = t
    · subst ht
      simp only [if_true]
      have := hm i m him
      omega
    · have k1 := (old ht hu (by simp)).1
      have ht' : ¬ (t = d) := fun e => ht e.symm
      simp only [ht', if_false]
      exact hf.sepm t cs' i m k1 him
  · obtain ⟨k1, k2⟩ := hf.ds r hr
    exact ⟨k1, by rw [blk _ (lt_heap k2)]; exact k2⟩
  · by_cases ht : d = t
    · subst ht
      have := lt_heap (hf.ds r hr).2
      simp only [if_true]
      omega
    · have k1 := (old ht hu (by simp)).1
      have ht' : ¬ (t = d) := fun e => ht e.symm
      simp only [ht', if_false]
      exact (hf.sepd r hr).2 t cs' k1

/-- A store into a variable of the frame's own. -/
theorem FRel.putVar {t : Nat} {tmps : Array Value} (hf : FRel E lo ν μ (sget s) tmps w) {cs cs' : List AVal} {c' : Array Value} {e : TypeId} {fr : Nat × Nat}
    (ht : sget s t = some (.var cs)) (hs : c'.size = cs'.length) (hc : CRel E μ cs' c' 0) (hfr : Free fr c'.size) :
    FRel E lo ν μ (sget ((t, .var cs') :: s)) tmps (withBlock w (ν t) (.cells c' e fr)) := by
  have hlt := hf.lt ht
  have old : ∀ {u : Nat} {x : Slot}, t ≠ u → sget ((t, .var cs') :: s) u = some x → sget s u = some x := by
    intro u x hu hx
    have hu' : ¬ (t = u) := hu
    simpa [sget, hu'] using hx
  have isvar : ∀ {u : Nat} {cs1 : List AVal}, sget ((t, .var cs') :: s) u = some (.var cs1) → ∃ cs2, sget s u = some (.var cs2) := by
    intro u cs1 hu
    by_cases e : t = u
    · subst e; exact ⟨cs, ht⟩
    · exact ⟨cs1, old e hu⟩
  refine ⟨fun u v hu => ?_, fun u hu => ?_, fun u cs1 hu => ?_, fun u u' o cs1 hu hu' => ?_, fun u u' cs1 cs2 hn hu hu' => ?_, fun u cs1 i m hu him => ?_, fun r hr => ?_, fun r hr => ⟨(hf.sepd r hr).1, fun u cs1 hu => ?_⟩, hf.nodup⟩
  · by_cases e : t = u
    · subst e; simp [sget] at hu
    · exact hf.val u v (old e hu)
  · by_cases e : t = u
    · subst e; simp [sget] at hu
    · exact hf.undef u (old e hu)
  · by_cases e' : t = u
    · subst e'
      simp [sget] at hu; subst hu
      obtain ⟨k1, k2, _⟩ := hf.var t cs ht
      exact ⟨k1, k2, c', e, fr, withBlock_same hlt, hs, hc, hfr⟩
    · have ho := old e' hu
      obtain ⟨k1, k2, c1, e1, fr1, k3, k4, k5, k6⟩ := hf.var u cs1 ho
      exact ⟨k1, k2, c1, e1, fr1, by rw [withBlock_other (hf.sepv t u cs cs1 e' ht ho)]; exact k3, k4, k5, k6⟩
  · by_cases e : t = u
    · subst e; simp [sget] at hu
    · obtain ⟨cs2, h2⟩ := isvar hu'
      exact hf.loc u u' o cs2 (old e hu) h2
  · obtain ⟨a1, h1⟩ := isvar hu
    obtain ⟨a2, h2⟩ := isvar hu'
    exact hf.sepv u u' a1 a2 hn h1 h2
  · obtain ⟨a1, h1⟩ := isvar hu
    exact hf.sepm u a1 i m h1 him
  · obtain ⟨k1, k2⟩ := hf.ds r hr
    exact ⟨k1, by rw [withBlock_other ((hf.sepd r hr).2 t cs ht)]; exact k2⟩
  · obtain ⟨a1, h1⟩ := isvar hu
    exact (hf.sepd r hr).2 u a1 h1

end
end Go.Abs

/-
  Each operation: what the abstract machine gives, the model's operation does. First those that change nothing but their slot.
-/
namespace Go.Abs

/-- What stands in a slot: a value, or 'undef', or a way into a variable. -/
def SRel (E : Env) (ν : Fr) (μ : MM) (x : Slot) (v : Value) : Prop :=
  match x with
  | .val a => VRel E μ a v
  | .undef => v = Go.undef
  | .loc t o => v = .pointer (some ⟨ν t, o, none⟩)
  | _ => False

section
variable {E : Env} {lo : Nat} {ν : Fr} {μ : MM} {s : Slots} {h : Heap} {a : Act} {w : World} {call : CallSem} {d : Nat}

theorem ok1_some {v : Option AVal} {x : Slot} {s' : Slots} {h' : Heap} (e : ok1 s h v = some (x, s', h')) : ∃ u, v = some u ∧ x = .val u ∧ s' = s ∧ h' = h := by
  unfold ok1 at e
  rw [Option.map_eq_some_iff] at e
  obtain ⟨u, hu, e⟩ := e
  cases e
  exact ⟨u, hu, rfl, rfl, rfl⟩

theorem bytesLess_eq : ∀ (a b : List UInt8), aBytesLess a b = Op.bytesLess a b
  | [], [] => rfl
  | [], _ :: _ => rfl
  | _ :: _, [] => rfl
  | x :: a, y :: b => by simp [aBytesLess, Op.bytesLess, bytesLess_eq a b]

theorem beq_decide {α : Type} [BEq α] [LawfulBEq α] [DecidableEq α] (a b : α) : (a == b) = decide (a = b) := by
  rw [Bool.eq_iff_iff]; simp

theorem mk_append (a b : List UInt8) : (⟨a.toArray⟩ : ByteArray) ++ ⟨b.toArray⟩ = ⟨(a ++ b).toArray⟩ := by
  apply ByteArray.ext
  simp

theorem mk_size (a : List UInt8) : (⟨a.toArray⟩ : ByteArray).size = a.length := by simp [ByteArray.size]

theorem run_bin_int {P : Program} {op : BinOp} {t : TypeId} {k k' : IntKind} {x y : Int} {r : AVal} (w : World) (h : aBin op (.int k x) (.int k' y) = some r) :
    ∃ v, (binOp op t (.int k x) (.int k' y)).run P w = .ok v w ∧ VRel E μ r v := by
  cases op
  case shl =>
    simp only [aBin] at h
    split at h
    · cases h
    · rename_i hn
      cases h
      exact ⟨_, by simp [binOp, Op.shift, hn]; rfl, by simp [VRel]⟩
  case shr =>
    simp only [aBin] at h
    split at h
    · cases h
    · rename_i hn
      cases h
      exact ⟨_, by simp [binOp, Op.shift, hn]; rfl, by simp [VRel]⟩
  all_goals
    simp only [aBin] at h
    split at h
    case isFalse => cases h
    rename_i hk
    subst hk
  case quo =>
    split at h
    · cases h
    · rename_i hn
      cases h
      exact ⟨_, by simp [binOp, Op.intDiv, hn]; rfl, by simp [VRel]⟩
  case rem =>
    split at h
    · cases h
    · rename_i hn
      cases h
      exact ⟨_, by simp [binOp, Op.intDiv, hn]; rfl, by simp [VRel]⟩
  case add => cases h; exact ⟨_, by simp [binOp, Op.intArith]; rfl, by simp [VRel]⟩
  case sub => cases h; exact ⟨_, by simp [binOp, Op.intArith]; rfl, by simp [VRel]⟩
  case mul => cases h; exact ⟨_, by simp [binOp, Op.intArith]; rfl, by simp [VRel]⟩
  case and => simp only [aBits] at h; cases h; exact ⟨_, by simp [binOp, Op.intBits]; rfl, by simp [VRel]⟩
  case or => simp only [aBits] at h; cases h; exact ⟨_, by simp [binOp, Op.intBits]; rfl, by simp [VRel]⟩
  case xor => simp only [aBits] at h; cases h; exact ⟨_, by simp [binOp, Op.intBits]; rfl, by simp [VRel]⟩
  case andNot => simp only [aBits] at h; cases h; exact ⟨_, by simp [binOp, Op.intBits]; rfl, by simp [VRel]⟩
  case eql => cases h; exact ⟨.bool (x == y), by simp [binOp, Op.intCmp], by simp [VRel, beq_decide]⟩
  case neq => cases h; exact ⟨.bool (x != y), by simp [binOp, Op.intCmp], by simp [VRel, bne, beq_decide]⟩
  case lss => cases h; exact ⟨_, by simp [binOp, Op.intCmp]; rfl, by simp [VRel]⟩
  case leq => cases h; exact ⟨_, by simp [binOp, Op.intCmp]; rfl, by simp [VRel]⟩
  case gtr => cases h; exact ⟨_, by simp [binOp, Op.intCmp]; rfl, by simp [VRel]⟩
  case geq => cases h; exact ⟨_, by simp [binOp, Op.intCmp]; rfl, by simp [VRel]⟩

theorem run_bin_str {P : Program} {op : BinOp} {t : TypeId} {x y : List UInt8} {r : AVal} (w : World) (h : aBin op (.str x) (.str y) = some r) :
    ∃ v, (binOp op t (.string ⟨x.toArray⟩) (.string ⟨y.toArray⟩)).run P w = .ok v w ∧ VRel E μ r v := by
  cases op <;> simp only [aBin] at h
  case add =>
    split at h
    · rename_i hl
      cases h
      have hn : ¬ (((x.length + y.length : Nat) : Int) > IntKind.i64.max) := by simp [IntKind.max, IntKind.signed, IntKind.bits]; omega
      refine ⟨.string ⟨(x ++ y).toArray⟩, ?_, by simp [VRel]⟩
      simp only [binOp, Op.stringOp, mk_size]
      rw [if_neg hn, mk_append]; rfl
    · cases h
  case eql => cases h; exact ⟨_, by simp [binOp, Op.stringOp]; rfl, by simp [VRel, beq_decide]⟩
  case neq => cases h; exact ⟨_, by simp [binOp, Op.stringOp]; rfl, by simp [VRel, beq_decide]⟩
  case lss => cases h; exact ⟨_, by simp [binOp, Op.stringOp]; rfl, by simp [VRel, bytesLess_eq]⟩
  case leq => cases h; exact ⟨_, by simp [binOp, Op.stringOp]; rfl, by simp [VRel, bytesLess_eq, beq_decide]⟩
  case gtr => cases h; exact ⟨_, by simp [binOp, Op.stringOp]; rfl, by simp [VRel, bytesLess_eq, beq_decide]⟩
  case geq => cases h; exact ⟨_, by simp [binOp, Op.stringOp]; rfl, by simp [VRel, bytesLess_eq]⟩
  all_goals cases h

theorem run_eqGuard {P : Program} (op : BinOp) (t : TypeId) (x y : Operand) (u v : Value) (w : World) (h1 : ∀ c, u ≠ .agg c) (h2 : u ≠ .nilIface) : (eqGuard op t x y u v).run P w = .ok () w := by
  unfold eqGuard
  cases op <;> (try rfl) <;> (cases u <;> first | rfl | (exact absurd rfl h2) | (exact absurd rfl (h1 _)) | (cases v <;> rfl))

theorem un_rel {P : Program} {op : UnOp} {x r : AVal} {u : Value} (w : World) (hx : VRel E μ x u) (h : aUn op x = some r) : ∃ v, (Op.unary op u).run P w = .ok v w ∧ VRel E μ r v := by
  cases x <;> simp only [aUn] at h <;> (try cases h)
  case int k n =>
    simp only [VRel] at hx; subst hx
    cases op <;> simp only [aBits] at h <;> cases h
    · exact ⟨_, by simp [Op.unary, Op.intArith]; rfl, by simp [VRel]⟩
    · exact ⟨_, by simp [Op.unary, Op.intBits]; rfl, by simp [VRel]⟩
  case bool b =>
    simp only [VRel] at hx; subst hx
    cases op <;> simp at h
    subst h
    exact ⟨_, by simp [Op.unary]; rfl, by simp [VRel]⟩

theorem min2_rel {P : Program} {mx : Bool} {x y r : AVal} {u v : Value} (w : World) (hx : VRel E μ x u) (hy : VRel E μ y v) (h : aMin2 mx x y = some r) :
    ∃ z, (if mx then Builtin.max2 u v else Builtin.min2 u v).run P w = .ok z w ∧ VRel E μ r z := by
  cases x <;> cases y <;> simp only [aMin2] at h <;> (try cases h)
  case int.int k n k' m =>
    simp only [VRel] at hx hy; subst hx; subst hy
    split at h
    · rename_i e; subst e; cases h
      cases mx
      · exact ⟨_, by simp [Builtin.min2]; rfl, by simp [VRel]⟩
      · exact ⟨_, by simp [Builtin.max2]; rfl, by simp [VRel]⟩
    · cases h

theorem mins_rel {P : Program} {mx : Bool} (w : World) : ∀ {l : List AVal} {x r : AVal} {u : Value} {vs : List Value}, VRel E μ x u → VRels E μ l vs → aMins mx x l = some r →
    ∃ z, (vs.foldlM (fun a b => if mx then Builtin.max2 a b else Builtin.min2 a b) u : Sem Value).run P w = .ok z w ∧ VRel E μ r z
  | [], x, r, u, vs, hx, hl, h => by
    simp only [VRels] at hl; subst hl
    simp only [aMins] at h; cases h
    exact ⟨u, rfl, hx⟩
  | y :: l, x, r, u, vs, hx, hl, h => by
    simp only [VRels] at hl
    obtain ⟨v, t, rfl, hv, ht⟩ := hl
    simp only [aMins] at h
    split at h
    · rename_i z hz
      obtain ⟨z', h1, h2⟩ := min2_rel (P := P) w hx hv hz
      obtain ⟨r', h3, h4⟩ := mins_rel (P := P) w h2 ht h
      refine ⟨r', ?_, h4⟩
      simp only [List.foldlM_cons, Sem.run_bind, h1, Result.andThen_ok, h3]
    · cases h

/-! ## Parts of aggregates and of memory -/

theorem run_isAgg {P : Program} {t : TypeId} {n : Option Nat} (h : partT P t = some n) (w : World) : (isAgg t).run P w = .ok n.isSome w ∧ ∀ k, n = some k → (sizeOf t).run P w = .ok k w := by
  unfold partT at h
  cases hu : P.underlying t with
  | none => rw [hu] at h; simp at h
  | some d =>
    rw [hu] at h
    have hs : ∀ k, sizeT P t = some k → (sizeOf t).run P w = .ok k w := by
      intro k hk
      unfold sizeT at hk
      cases hi : P.info? t with
      | none => rw [hi] at hk; simp at hk
      | some i => rw [hi] at hk; simp at hk; subst hk; simp [sizeOf, typeInfo, hi]
    cases d <;> simp only [Option.some.injEq] at h <;> (first | (subst h; exact ⟨by simp [isAgg, run_underlying hu], fun k hk => by cases hk⟩) | skip)
    · cases hz : sizeT P t with
      | none => rw [hz] at h; simp at h
      | some k => rw [hz] at h; simp at h; subst h; exact ⟨by simp [isAgg, run_underlying hu], fun k' hk => by cases hk; exact hs k hz⟩
    · cases hz : sizeT P t with
      | none => rw [hz] at h; simp at h
      | some k => rw [hz] at h; simp at h; subst h; exact ⟨by simp [isAgg, run_underlying hu], fun k' hk => by cases hk; exact hs k hz⟩

theorem run_sizeOf {P : Program} {t : TypeId} {k : Nat} (h : sizeT P t = some k) (w : World) : (sizeOf t).run P w = .ok k w := by
  unfold sizeT at h
  cases hi : P.info? t with
  | none => rw [hi] at h; simp at h
  | some i => rw [hi] at h; simp at h; subst h; simp [sizeOf, typeInfo, hi]

theorem part_rel {P : Program} {t : TypeId} {n : Option Nat} {cs : List AVal} {c : Array Value} {o : Nat} {r : AVal} (w : World) (ht : partT P t = some n) (hc : VRels E μ cs c.toList) (h1 : ∀ x ∈ cs, x.isOne = true) (h : Abs.part cs o n = some r) :
    ∃ v, (Go.part t c o).run P w = .ok v w ∧ VRel E μ r v := by
  obtain ⟨ha, hs⟩ := run_isAgg ht w
  cases n with
  | none =>
    simp only [Abs.part] at h
    obtain ⟨v, hv, hr⟩ := hc.get h
    refine ⟨v, ?_, hr⟩
    have hv' : c[o]? = some v := by simpa using hv
    simp [Go.part, ha, hv']
  | some k =>
    simp only [Abs.part] at h
    split at h
    · rename_i hl
      cases h
      have hlen := hc.length
      refine ⟨.agg (c.extract o (o + k)), ?_, ?_⟩
      · simp [Go.part, ha, hs k rfl]
      · simp only [VRel]
        refine ⟨_, rfl, ?_, fun x hx => h1 x (List.mem_of_mem_drop (List.mem_of_mem_take hx))⟩
        apply VRels.of
        · simp at hlen ⊢; omega
        · intro j x hj
          have hjk : j < k := by
            rcases Nat.lt_or_ge j k with h2 | h2
            · exact h2
            · rw [List.getElem?_eq_none (by simp; omega)] at hj; cases hj
          rw [List.getElem?_take_of_lt hjk, List.getElem?_drop] at hj
          obtain ⟨v, hv, hr⟩ := hc.get hj
          refine ⟨v, ?_, hr⟩
          rw [← hv, Array.getElem?_toList, Array.getElem?_toList, Array.getElem?_extract, if_pos]
          simp at hlen
          omega
    · cases h

/-- Cells that an address leads to: in the world. -/
theorem cellsAt_rel (hf : FRel E lo ν μ (sget s) a.tmps w) (hr : Rel E μ h w) {x : Operand} {y : Opd} {ad : AAddr} {cs : List AVal} {o : Nat} (hc : cOpd E x = some y) (hy : y.adr s = some ad) (hcs : cellsAt s h ad = some (cs, o)) :
    ∃ b p c e fr, a.eval x = .pointer (some ⟨b, p + o, none⟩) ∧ w.heap[b]? = some (.cells c e fr) ∧ p + cs.length ≤ c.size ∧ CRel E μ cs c p := by
  cases ad with
  | glob i o' =>
    simp only [cellsAt] at hcs
    split at hcs
    · rename_i esz cs' hg
      cases hcs
      obtain ⟨m, c, e, fr, h1, _, h2, h3, h4, h5, _⟩ := hr.obj i _ hg
      obtain ⟨ad, h6, x', h7, h8⟩ := adr_glob hf hc hy
      rw [h1] at h7; cases h7
      have := h8 m rfl; subst this
      exact ⟨m.blk, m.base, c, e, fr, h6, h2, by omega, h5⟩
    · cases hcs
  | loc t o' =>
    simp only [cellsAt] at hcs
    split at hcs
    · rename_i cs' hg
      cases hcs
      obtain ⟨h1, h2, c, e, fr, h3, h4, h5, h6⟩ := hf.var t _ hg
      exact ⟨ν t, 0, c, e, fr, by rw [Nat.zero_add]; exact adr_loc hf hc hy hg, h3, by omega, h5⟩
    · cases hcs

theorem add_plain (b o n : Nat) : (⟨b, o, none⟩ : Addr).add n = ⟨b, o + n, none⟩ := by
  unfold Addr.add
  split
  · rename_i h; subst h; rfl
  · rfl

theorem run_loadCells' {P : Program} {w : World} {b o n : Nat} {l : List Value} (hl : l.length = n) (h : ∀ j v, l[j]? = some v → w.cell? ⟨b, o + j, none⟩ = some v) : (loadCells ⟨b, o, none⟩ n).run P w = .ok l.toArray w := by
  subst hl
  exact run_loadCells_list (P := P) (w := w) ⟨b, o, none⟩ l fun j v hj => by rw [add_plain]; exact h j v hj

theorem load_rel {P : Program} {t : TypeId} {n : Option Nat} {cs : List AVal} {o b p : Nat} {c : Array Value} {e : TypeId} {fr : Nat × Nat} {r : AVal}
    (ht : partT P t = some n) (hb : w.heap[b]? = some (.cells c e fr)) (hl : p + cs.length ≤ c.size) (hc : CRel E μ cs c p) (h : Abs.part cs o n = some r) :
    ∃ v, (loadVar t ⟨b, p + o, none⟩).run P w = .ok v w ∧ VRel E μ r v := by
  obtain ⟨ha, hs⟩ := run_isAgg ht w
  cases n with
  | none =>
    simp only [Abs.part] at h
    obtain ⟨_, v, hv, hr⟩ := hc o r h
    refine ⟨v, ?_, hr⟩
    simp [loadVar, ha, cell_of_block hb, hv]
  | some k =>
    simp only [Abs.part] at h
    split at h
    · rename_i hk
      cases h
      have hrun : (loadCells ⟨b, p + o, none⟩ k).run P w = .ok ((c.toList.drop (p + o)).take k).toArray w := by
        refine run_loadCells' (by simp; omega) fun j v hj => ?_
        rw [cell_of_block hb, ← hj]
        have hjk : j < k := by
          rcases Nat.lt_or_ge j k with h2 | h2
          · exact h2
          · rw [List.getElem?_eq_none (by simp; omega)] at hj; cases hj
        rw [List.getElem?_take_of_lt hjk, List.getElem?_drop]; simp
      refine ⟨.agg ((c.toList.drop (p + o)).take k).toArray, by simp [loadVar, ha, hs k rfl, hrun], ?_⟩
      simp only [VRel]
      refine ⟨_, rfl, ?_, fun x hx => ?_⟩
      · apply VRels.of
        · simp; omega
        · intro j x hj
          have hjk : j < k := by
            rcases Nat.lt_or_ge j k with h2 | h2
            · exact h2
            · rw [List.getElem?_eq_none (by simp; omega)] at hj; cases hj
          rw [List.getElem?_take_of_lt hjk, List.getElem?_drop] at hj
          obtain ⟨_, v, hv, hr⟩ := hc _ x hj
          refine ⟨v, ?_, hr⟩
          rw [← hv]
          simp only
          rw [List.getElem?_take_of_lt hjk, List.getElem?_drop]
          simp [Nat.add_assoc]
      · have hx' := List.mem_of_mem_drop (List.mem_of_mem_take hx)
        obtain ⟨j, hj⟩ := List.getElem?_of_mem hx'
        exact (hc j x hj).1
    · cases h

/-- A slice's elements, or a text's bytes: what append and conversions read. -/
theorem rowOf_rel (hr : Rel E μ h w) {esz : Nat} {x : AVal} {v : Value} {cs : List AVal} (hx : VRel E μ x v) (hc : rowOf esz h x = some cs) :
    ∃ l n, VRels E μ cs l ∧ (∀ y ∈ cs, y.isOne = true) ∧ (∀ P w', (Builtin.lenOf v).run P w' = .ok n w') ∧ l.length = n * esz ∧
      n = alen x ∧
      ∀ (P : Program) (w' : World), w'.heap = w.heap → (Builtin.firstCells esz n v).run P w' = .ok l.toArray w' := by
  cases x <;> simp only [rowOf] at hc <;> (try cases hc)
  case str t =>
    simp only [VRel] at hx; subst hx
    split at hc
    case isFalse => cases hc
    rename_i he1
    subst he1
    cases hc
    refine ⟨t.map fun b => .int .u8 b.toNat, t.length, ?_, ?_, ?_, by simp, rfl, ?_⟩
    · apply VRels.of
      · simp
      · intro k x hk
        simp only [List.getElem?_map, Option.map_eq_some_iff] at hk ⊢
        obtain ⟨b, hb, rfl⟩ := hk
        exact ⟨_, ⟨b, hb, rfl⟩, by simp [VRel]⟩
    · intro y hy
      obtain ⟨b, _, rfl⟩ := List.mem_map.1 hy
      rfl
    · intro P w'
      simp [Builtin.lenOf, mk_size]
    · intro P w' _
      have := firstCells_string (P := P) (⟨t.toArray⟩ : ByteArray) w'
      rw [mk_size] at this
      rw [this]; simp [byteCells]
  case slice ad n c =>
    cases ad with
    | none =>
      simp only at hc; cases hc
      simp only [VRel] at hx
      obtain ⟨rfl, rfl, rfl⟩ := hx
      exact ⟨[], 0, by simp [VRels], by simp, fun P w' => rfl, by simp, rfl, fun P w' _ => by simp [Builtin.firstCells]⟩
    | some io =>
      obtain ⟨i, o⟩ := io
      simp only at hc
      simp only [VRel] at hx
      obtain ⟨ad, cap, rfl, _, hA0, _, hcap, _⟩ := hx
      split at hc
      · rename_i h0
        subst h0; cases hc
        exact ⟨[], 0, by simp [VRels], by simp, fun P w' => rfl, by simp, rfl, fun P w' _ => by simp [Builtin.firstCells, loadCells, loadCellsFrom]⟩
      · rename_i h0
        split at hc
        · rename_i e' cs' hg
          split at hc
          · rename_i hh
            cases hc
            obtain ⟨rfl, hlen⟩ := hh
            obtain ⟨m, c', te, fr, h1, h2, h3, h4, h5, h6, _⟩ := hr.obj i _ hg
            obtain ⟨x', h7, h8⟩ := hA0 (by omega)
            rw [h1] at h7; cases h7
            have := h8 m rfl; subst this
            refine ⟨(c'.toList.drop (m.base + o)).take (n * e'), n, ?_, ?_, fun P w' => rfl, by simp; omega, rfl, ?_⟩
            · apply VRels.of
              · simp; omega
              · intro j x hj
                have hjk : j < n * e' := by
                  rcases Nat.lt_or_ge j (n * e') with h9 | h9
                  · exact h9
                  · rw [List.getElem?_eq_none (by simp; omega)] at hj; cases hj
                rw [List.getElem?_take_of_lt hjk, List.getElem?_drop] at hj
                obtain ⟨_, v, hv, hrr⟩ := h6 _ x hj
                refine ⟨v, ?_, hrr⟩
                rw [List.getElem?_take_of_lt hjk, List.getElem?_drop, ← hv]
                simp [Nat.add_assoc]
            · intro y hy
              obtain ⟨j, hj⟩ := List.getElem?_of_mem (List.mem_of_mem_drop (List.mem_of_mem_take hy))
              exact (h6 j y hj).1
            · intro P w' hw
              simp only [Builtin.firstCells]
              refine run_loadCells' (by simp; omega) fun j v hj => ?_
              have hjk : j < n * e' := by
                rcases Nat.lt_or_ge j (n * e') with h9 | h9
                · exact h9
                · rw [List.getElem?_eq_none (by simp; omega)] at hj; cases hj
              rw [cell_of_block (by rw [hw]; exact h3), ← hj, List.getElem?_take_of_lt hjk, List.getElem?_drop]
              simp
          · cases hc
        · cases hc

end
end Go.Abs

/-
  Each operation, going on: indexes, slices, aggregates, conversions; what makes memory, and what writes to it.
-/
namespace Go.Abs

section
variable {E : Env} {lo : Nat} {ν : Fr} {μ : MM} {s : Slots} {h : Heap} {a : Act} {w : World} {d : Nat}

/-! ## Indexes and bounds -/

theorem inBounds_rel {n k : Nat} {v : AVal} {u : Value} (hv : VRel E μ v u) (h : inBounds n v = some k) : ∃ kd i, u = .int kd i ∧ 0 ≤ i ∧ i < n ∧ k = i.toNat := by
  cases v <;> simp only [inBounds] at h <;> (try cases h)
  case int kd i =>
    split at h
    · rename_i hh; cases h
      simp only [VRel] at hv
      exact ⟨kd, i, hv, hh.1, hh.2, rfl⟩
    · cases h

theorem upTo_rel {P : Program} {n y k : Nat} {v : AVal} {u : Value} (hv : VRel E μ v u) (h : upTo n v = some k) (hn : n ≤ y) (code : BoundsCode) (w : World) :
    (Instr.sliceBound u y code).run P w = .ok k w ∧ k ≤ n := by
  cases v <;> simp only [upTo] at h <;> (try cases h)
  case int kd i =>
    split at h
    · rename_i hh; cases h
      simp only [VRel] at hv; subst hv
      refine ⟨?_, by omega⟩
      have : 0 ≤ i ∧ i ≤ y := ⟨hh.1, by omega⟩
      simp [Instr.sliceBound, asIntOf, this]
    · cases h

def OptRel (E : Env) (μ : MM) : Option AVal → Option Value → Prop
  | none, u => u = none
  | some v, u => ∃ x, u = some x ∧ VRel E μ v x

theorem opt_rel (hf : FRel E lo ν μ (sget s) a.tmps w) {x : Option Operand} {y : Option Opd} {v : Option AVal} (hc : cOpt E x = some y) (he : optEv s y = some v) : OptRel E μ v (x.map a.eval) := by
  cases x with
  | none =>
    simp only [cOpt] at hc; cases hc
    simp only [optEv] at he; cases he
    simp [OptRel]
  | some x =>
    simp only [cOpt] at hc
    rw [Option.map_eq_some_iff] at hc
    obtain ⟨y', hy, rfl⟩ := hc
    simp only [optEv] at he
    rw [Option.map_eq_some_iff] at he
    obtain ⟨v', hv, rfl⟩ := he
    exact ⟨_, rfl, opd_rel hf hy hv⟩

theorem low_rel {P : Program} {b a' : Nat} {l1 : Option AVal} {l2 : Option Value} (hl : OptRel E μ l1 l2) (h : lowB b l1 = some a') (code : BoundsCode) (w : World) :
    a' ≤ b ∧ ∀ (β : Type) (f : Nat → Sem β), (match l2 with
      | some v => Instr.sliceBound v b code >>= f
      | none => pure 0 >>= f).run P w = (f a').run P w := by
  cases l1 with
  | none =>
    simp only [OptRel] at hl; subst hl
    simp only [lowB] at h; cases h
    exact ⟨Nat.zero_le _, fun β f => rfl⟩
  | some l =>
    simp only [OptRel] at hl
    obtain ⟨x, rfl, hx⟩ := hl
    simp only [lowB] at h
    obtain ⟨k1, k2⟩ := upTo_rel (P := P) hx h (Nat.le_refl _) code w
    exact ⟨k2, fun β f => by simp only [Sem.run_bind, k1, Result.andThen_ok]⟩

theorem bounds_rel {P : Program} {n cap a' b : Nat} {c m : Option Nat} {l1 h1 m1 : Option AVal} {l2 h2 m2 : Option Value} (isS : Bool) (hl : OptRel E μ l1 l2) (hh : OptRel E μ h1 h2) (hm : OptRel E μ m1 m2)
    (hb : bounds n c l1 h1 m1 = some (a', b, m)) (hn : n ≤ cap) (hc : ∀ k, c = some k → cap = k) (w : World) :
    (Instr.sliceBounds isS n cap l2 h2 m2).run P w = .ok (a', b, m.getD cap) w ∧ a' ≤ b ∧ b ≤ m.getD cap ∧ m.getD cap ≤ cap := by
  have hcn : c.getD n ≤ cap := by
    cases c with
    | none => exact hn
    | some k => have := hc k rfl; simp; omega
  have hcc : c.getD cap = cap := by
    cases c with
    | none => rfl
    | some k => have := hc k rfl; simpa using this.symm
  unfold bounds at hb
  cases m1 with
  | some mv =>
    simp only [OptRel] at hm
    obtain ⟨mx, rfl, hmx⟩ := hm
    simp only at hb
    split at hb
    · rename_i m' hm'
      obtain ⟨k1, k2⟩ := upTo_rel (P := P) hmx hm' hcn (if isS then .slice3Acap else .slice3Alen) w
      cases h1 with
      | none => cases hb
      | some hv =>
        simp only [OptRel] at hh
        obtain ⟨hx, rfl, hhx⟩ := hh
        simp only at hb
        split at hb
        · rename_i b' hb'
          obtain ⟨k3, k4⟩ := upTo_rel (P := P) hhx hb' (Nat.le_refl _) .slice3B w
          rw [Option.map_eq_some_iff] at hb
          obtain ⟨a1, ha1, e⟩ := hb
          cases e
          obtain ⟨k5, k6⟩ := low_rel (P := P) hl ha1 .slice3C w
          refine ⟨?_, k5, by simpa using k4, by simp; omega⟩
          simp only [Instr.sliceBounds, Sem.run_bind, k1, Result.andThen_ok, k3, Option.isSome_some, if_true, Option.getD_some]
          exact k6 _ fun l => pure (l, b, m')
        · cases hb
    · cases hb
  | none =>
    simp only [OptRel] at hm; subst hm
    simp only at hb
    cases h1 with
    | none =>
      simp only [OptRel] at hh; subst hh
      simp only at hb
      rw [Option.map_eq_some_iff] at hb
      obtain ⟨a1, ha1, e⟩ := hb
      cases e
      obtain ⟨k5, k6⟩ := low_rel (P := P) hl ha1 .sliceB w
      refine ⟨?_, k5, by rw [hcc]; exact hn, by rw [hcc]; exact Nat.le_refl _⟩
      rw [hcc]
      simp only [Instr.sliceBounds, Sem.run_bind, Sem.run_pure, Result.andThen_ok, Option.isSome_none, Bool.false_eq_true, if_false]
      exact k6 _ fun l => pure (l, n, cap)
    | some hv =>
      simp only [OptRel] at hh
      obtain ⟨hx, rfl, hhx⟩ := hh
      simp only at hb
      split at hb
      · rename_i b' hb'
        obtain ⟨k3, k4⟩ := upTo_rel (P := P) hhx hb' hcn (if isS then .sliceAcap else .sliceAlen) w
        rw [Option.map_eq_some_iff] at hb
        obtain ⟨a1, ha1, e⟩ := hb
        cases e
        obtain ⟨k5, k6⟩ := low_rel (P := P) hl ha1 .sliceB w
        refine ⟨?_, k5, by rw [hcc]; omega, by rw [hcc]; exact Nat.le_refl _⟩
        rw [hcc]
        simp only [Instr.sliceBounds, Sem.run_bind, Sem.run_pure, Result.andThen_ok, k3, Option.isSome_none, Bool.false_eq_true, if_false]
        exact k6 _ fun l => pure (l, b, cap)
      · cases hb

theorem extract_mk (t : List UInt8) (a b : Nat) : (⟨t.toArray⟩ : ByteArray).extract a b = ⟨((t.drop a).take (b - a)).toArray⟩ := by
  apply ByteArray.ext
  apply Array.ext'
  simp [ByteArray.data_extract]

theorem row_slice {i o e cap a' b : Nat} {m : Option Nat} {ad : Addr} (hr : Rel E μ h w) (hi : i < μ.length) (hA : 0 < cap → ARel μ i o ad) (hs : ∀ m : M, μ[i]? = some (some m) → m.base + o + cap * m.esz ≤ m.size)
    (he : eszIs h i e = true) (h1 : a' ≤ b) (h2 : b ≤ m.getD cap) (h3 : m.getD cap ≤ cap) :
    VRel E μ (.slice (some (i, if m = some a' then o else o + a' * e)) (b - a') (m.map (· - a'))) (.slice (if m.getD cap = a' then some ad else (some ad).map (·.add (a' * e))) (b - a') (m.getD cap - a')) := by
  have hesz : ∀ m : M, μ[i]? = some (some m) → m.esz = e := by
    intro m hm
    unfold eszIs at he
    split at he
    · rename_i e' cs hg
      obtain ⟨m', c, te, fr, k1, k2, _⟩ := hr.obj i _ hg
      rw [hm] at k1; cases k1
      rw [k2]; simpa using he
    · rename_i hg
      have := hr.obj i _ hg
      simp only [ORel] at this
      rw [hm] at this; cases this
    · cases he
  have hmap : ∀ k, m.map (· - a') = some k → m.getD cap - a' = k := by
    intro k hk
    rw [Option.map_eq_some_iff] at hk
    obtain ⟨x, rfl, rfl⟩ := hk
    rfl
  simp only [VRel]
  by_cases hc : m.getD cap = a'
  · -- nothing is left: where it stands does not matter
    rw [if_pos hc]
    refine ⟨ad, m.getD cap - a', rfl, hi, fun h0 => absurd h0 (by omega), hmap, by omega, fun m' hm' => ?_⟩
    have k1 := hs m' hm'
    have k2 := hesz m' hm'
    have : m.getD cap - a' = 0 := by omega
    rw [this, Nat.zero_mul, Nat.add_zero]
    split
    · have := Nat.zero_le (cap * m'.esz); omega
    · rw [k2] at k1
      have : a' * e ≤ cap * e := Nat.mul_le_mul_right _ (by omega)
      omega
  · rw [if_neg hc]
    have hne : ¬ (m = some a') := by intro e'; rw [e'] at hc; simp at hc
    rw [if_neg hne]
    refine ⟨ad.add (a' * e), m.getD cap - a', rfl, hi, fun h0 => ?_, hmap, by omega, fun m' hm' => ?_⟩
    · obtain ⟨x, hx, hm⟩ := hA (by omega)
      refine ⟨x, hx, fun m' hm' => ?_⟩
      rw [hm m' hm', add_plain]
      congr 1
      omega
    · have k1 := hs m' hm'
      have k2 := hesz m' hm'
      rw [k2] at k1 ⊢
      have : a' * e + (m.getD cap - a') * e ≤ cap * e := by rw [← Nat.add_mul]; exact Nat.mul_le_mul_right _ (by omega)
      omega

theorem slice_rel (hf : FRel E lo ν μ (sget s) a.tmps w) (hr : Rel E μ h w) {t : TypeId} {x : Operand} {lo' hi' mx' : Option Operand} {ao : AOp} {k : SliceKind} {y : Opd} {l1 h1 m1 : Option Opd} {lv hv mv : Option AVal} {r : AVal}
    (hop : cOp E false (.slice t x lo' hi' mx') = some ao) (hao : ao = .slice k y l1 h1 m1) (hl : optEv s l1 = some lv) (hh : optEv s h1 = some hv) (hm : optEv s m1 = some mv) (he : aSlice k s h y lv hv mv = some r) :
    ∃ v, (Instr.sliceAt t (a.eval x) (lo'.map a.eval) (hi'.map a.eval) (mx'.map a.eval)).run E.P w = .ok v w ∧ VRel E μ r v := by
  subst hao
  simp only [cOp] at hop
  split at hop
  case h_2 => cases hop
  rename_i y' l1' h1' m1' cx cl ch cm
  split at hop
  · rename_i hu
    cases hop
    have rl := opt_rel hf cl hl
    have rh := opt_rel hf ch hh
    simp only [aSlice] at he
    split at he
    · rename_i t' hx
      have rx := opd_rel hf cx hx
      simp only [VRel] at rx
      split at he
      · have rm := opt_rel hf cm hm
        simp only [OptRel] at rm
        rw [Option.map_eq_some_iff] at he
        obtain ⟨⟨a', b, m⟩, hb, rfl⟩ := he
        obtain ⟨k1, k2, k3, k4⟩ := bounds_rel (P := E.P) false rl rh (by simp only [OptRel] : OptRel E μ none none) hb (Nat.le_refl _) (fun k hk => by cases hk; rfl) w
        refine ⟨.string ⟨((t'.drop a').take (b - a')).toArray⟩, ?_, by simp [VRel]⟩
        simp only [Instr.sliceAt, Sem.run_bind, run_underlying hu, Result.andThen_ok, Instr.slice, rx, rm, Option.isSome_none, Bool.false_eq_true, if_false, mk_size, k1, extract_mk]
        rfl
      · cases he
    · cases he
  · rename_i e hu
    rw [Option.map_eq_some_iff] at hop
    obtain ⟨n, hn, hop⟩ := hop
    cases hop
    have rl := opt_rel hf cl hl
    have rh := opt_rel hf ch hh
    have rm := opt_rel hf cm hm
    have hz := run_sizeOf (P := E.P) hn w
    simp only [aSlice] at he
    split at he
    · rename_i n' c' hx
      have rx := opd_rel hf cx hx
      simp only [VRel] at rx
      obtain ⟨e1, e2, rx⟩ := rx
      rw [Option.map_eq_some_iff] at he
      obtain ⟨⟨a', b, m⟩, hb, rfl⟩ := he
      obtain ⟨k1, k2, k3, k4⟩ := bounds_rel (P := E.P) true rl rh rm hb (Nat.le_refl _) (fun k hk => by cases hk; rfl) w
      have h0 : m.getD 0 = 0 := by omega
      have hb0 : b = 0 := by omega
      have ha0 : a' = 0 := by omega
      refine ⟨.slice none 0 0, ?_, by simp [VRel]⟩
      simp only [Instr.sliceAt, Sem.run_bind, run_underlying hu, Result.andThen_ok, Instr.slice, rx, k1, hz, h0, hb0, ha0]
      rfl
    · rename_i i o n' c' hx
      have rx := opd_rel hf cx hx
      simp only [VRel] at rx
      obtain ⟨ad, cap, rx, r1, r2, r3, r4, r5⟩ := rx
      split at he
      · rename_i hes
        rw [Option.map_eq_some_iff] at he
        obtain ⟨⟨a', b, m⟩, hb, rfl⟩ := he
        obtain ⟨k1, k2, k3, k4⟩ := bounds_rel (P := E.P) true rl rh rm hb r4 r3 w
        refine ⟨_, ?_, row_slice hr r1 r2 r5 hes k2 k3 k4⟩
        simp only [Instr.sliceAt, Sem.run_bind, run_underlying hu, Result.andThen_ok, Instr.slice, rx, k1, hz]
        rfl
      · cases he
    · cases he
  · rename_i n e hu
    rw [Option.map_eq_some_iff] at hop
    obtain ⟨k, hk, hop⟩ := hop
    cases hop
    have rl := opt_rel hf cl hl
    have rh := opt_rel hf ch hh
    have rm := opt_rel hf cm hm
    have hz := run_sizeOf (P := E.P) hk w
    simp only [aSlice] at he
    split at he
    · rename_i i o hx
      obtain ⟨ad, rx, rA⟩ := adr_glob hf cx hx
      split at he
      · rename_i e' cs hg
        split at he
        · rename_i hh'
          obtain ⟨rfl, hlen⟩ := hh'
          rw [Option.map_eq_some_iff] at he
          obtain ⟨⟨a', b, m⟩, hb, rfl⟩ := he
          obtain ⟨k1, k2, k3, k4⟩ := bounds_rel (P := E.P) false rl rh rm hb (Nat.le_refl _) (fun k hk => by cases hk; rfl) w
          obtain ⟨m0, c, te, fr, j1, j2, j3, j4, j5, j6, _⟩ := hr.obj i _ hg
          have := row_slice (e := e') (m := m) (cap := n) hr (lt_of_get j1) (fun _ => rA) (fun m' hm' => by rw [j1] at hm'; cases hm'; rw [j2]; omega) (by simp [eszIs, hg]) k2 k3 k4
          refine ⟨_, ?_, this⟩
          simp only [Instr.sliceAt, Sem.run_bind, run_underlying hu, Result.andThen_ok, rx, Instr.sureAddr, Sem.run_pure, k1, hz]
          congr 1
          split <;> rfl
        · cases he
      · cases he
    · cases he
  · cases hop

theorem string_get (t : List UInt8) (j : Nat) : (⟨t.toArray⟩ : ByteArray)[j]? = t[j]? := by
  by_cases h : j < t.length
  · have h' : j < (⟨t.toArray⟩ : ByteArray).size := by rw [mk_size]; exact h
    rw [getElem?_pos (⟨t.toArray⟩ : ByteArray) j h', List.getElem?_eq_getElem h]; rfl
  · have h' : ¬ j < (⟨t.toArray⟩ : ByteArray).size := by rw [mk_size]; exact h
    rw [getElem?_neg (⟨t.toArray⟩ : ByteArray) j h', List.getElem?_eq_none (by omega)]

end
end Go.Abs

/-
  Each operation but a call: what the abstract machine gives, the model's operation does.
-/
namespace Go.Abs

/-- An operation is done: in the model it ends with a value (or with none: then 'undef'), and all belongs together as before. -/
def OpDone (E : Env) (lo : Nat) (D : List Nat) (μ : MM) (w : World) (a : Act) (dst : Option Tmp) (r : Result Next) (x : Slot) (s' : Slots) (h' : Heap) : Prop :=
  ∃ v w' μ' ν', ν'.ds = D ∧ (r = .ok (.value v) w' ∨ (v = Go.undef ∧ r = .ok .skip w')) ∧ Step (fun k => lo ≤ k) h'.wmin μ w μ' w' ∧ Rel E μ' h' w' ∧
    FRel E lo ν' μ' (put1 (sget s') dst x) (a.put dst v).tmps w'

section
variable {E : Env} {lo : Nat} {ν : Fr} {μ : MM} {s : Slots} {h : Heap} {a : Act} {w : World} {dst : Option Tmp} {r : Result Next}

theorem put_tmps (a : Act) (dst : Option Tmp) (v : Value) : (a.put dst v).tmps = putT a.tmps dst v := by
  cases dst <;> rfl

theorem FRel.heap {g : SlotFn} {tmps : Array Value} {w' : World} (hf : FRel E lo ν μ g tmps w) (hw : w'.heap = w.heap) : FRel E lo ν μ g tmps w' :=
  hf.keep (Later.refl _) (fun _ _ _ => by rw [hw]) (fun _ _ i m _ hi hm => absurd (lt_of_get hm) (by omega)) fun _ _ => ⟨by rw [hw], fun i m hi hm => absurd (lt_of_get hm) (by omega)⟩

/-- A value, and no change (but for what is drawn). -/
theorem done_val (hf : FRel E lo ν μ (sget s) a.tmps w) (hr : Rel E μ h w) (hd : ∀ x, dst = some x → x < a.tmps.size) {v : Value} {u : AVal} (hrun : r = .ok (.value v) w) (hv : VRel E μ u v) :
    OpDone E lo ν.ds μ w a dst r (.val u) s h := by
  refine ⟨v, w, μ, ν, rfl, .inl hrun, Step.refl _ _ _ _, hr, ?_⟩
  rw [put_tmps]
  exact hf.setVal hd hv

theorem done_loc (hf : FRel E lo ν μ (sget s) a.tmps w) (hr : Rel E μ h w) (hd : ∀ x, dst = some x → x < a.tmps.size) {t o : Nat} (hrun : r = .ok (.value (.pointer (some ⟨ν t, o, none⟩))) w) :
    OpDone E lo ν.ds μ w a dst r (.loc t o) s h := by
  refine ⟨_, w, μ, ν, rfl, .inl hrun, Step.refl _ _ _ _, hr, ?_⟩
  rw [put_tmps]
  cases dst with
  | none => exact hf.congr fun t => by simp [put1]
  | some d => exact hf.setLoc (hd d rfl)

/-- A new object: its address, or a slice of it, is the value. -/
theorem done_new (hf : FRel E lo ν μ (sget s) a.tmps w) (hr : Rel E μ h w) (hd : ∀ x, dst = some x → x < a.tmps.size) (o : AObj) (B : Obj) (m : M) (hm : m.blk = w.heap.size) {w1 : World} {v : Value} {u : AVal}
    (hrun : r = .ok (.value v) w1) (h1 : w1.heap = w.heap.push B) (h2 : w1.os = w.os) (h3 : w1.tape = w.tape) (h4 : w1.output = w.output)
    (ho : ORel E (μ ++ [some m]) h.base μ.length { w with heap := w.heap.push B } o) (hv : VRel E (μ ++ [some m]) u v) :
    OpDone E lo ν.ds μ w a dst r (.val u) s (h.push o) := by
  have hp := hr.push o B m hm ho
  have hs : Step (fun k => lo ≤ k) (h.push o).wmin μ w (μ ++ [some m]) { w with heap := w.heap.push B } := Step.push _ μ w B m (by omega)
  refine ⟨v, w1, μ ++ [some m], ν, rfl, .inl hrun, hs.heap h1 h2 h3 h4, hp.same rfl rfl h1, ?_⟩
  have hf1 : FRel E lo ν (μ ++ [some m]) (sget s) a.tmps { w with heap := w.heap.push B } := by
    refine hf.keep (later_push μ _) (fun t cs hv => ?_) (fun t cs i m' hv hi hm' => ?_) fun r hr => ⟨?_, fun i m' hi hm' => ?_⟩
    · have := hf.lt hv
      show (w.heap.push B)[ν t]? = _
      rw [Array.getElem?_push, if_neg (by omega)]
    · rcases get_push hm' with b | ⟨_, b⟩
      · exact absurd (lt_of_get b) (by omega)
      · cases b; have := hf.lt hv; omega
    · have := hf.lt_ds hr
      show (w.heap.push B)[r]? = _
      rw [Array.getElem?_push, if_neg (by omega)]
    · rcases get_push hm' with b | ⟨_, b⟩
      · exact absurd (lt_of_get b) (by omega)
      · cases b; have := hf.lt_ds hr; omega
  rw [put_tmps]
  exact (hf1.setVal hd hv).heap h1

/-- A new variable of the frame's own. -/
theorem done_var (hf : FRel E lo ν μ (sget s) a.tmps w) (hr : Rel E μ h w) (hlo : lo ≤ w.heap.size) {d : Nat} (hd : d < a.tmps.size) {cs : List AVal} {c : Array Value} (e : TypeId)
    (hc : VRels E μ cs c.toList) (h1 : ∀ x ∈ cs, x.isOne = true) (hrun : r = .ok (.value (.pointer (some ⟨w.heap.size, 0, none⟩))) { w with heap := w.heap.push (.cells c e (0, 0)) }) :
    OpDone E lo ν.ds μ w a (some d) r (.var cs) (unloc d s) h := by
  refine ⟨_, _, μ, ⟨fun t => if t = d then w.heap.size else ν t, ν.ds⟩, rfl, .inl hrun, ?_, hr.keep (by simp) fun i m hm => ?_, ?_⟩
  · exact ⟨rfl, rfl, rfl, by simp, fun k hk _ _ => by
      show (w.heap.push _)[k]? = _
      rw [Array.getElem?_push, if_neg (by omega)], Nat.le_refl _, fun _ _ => .inl rfl, fun i m hi hm => absurd (lt_of_get hm) (by omega)⟩
  · have := hr.lt i m hm
    show (w.heap.push _)[m.blk]? = _
    rw [Array.getElem?_push, if_neg (by omega)]
  · rw [put_tmps]
    exact hf.setVar hr.lt hlo hd e hc h1

theorem run_zero {P : Program} {t : TypeId} {z : List AVal} (hz : zeroOf P t = some z) (μ : MM) (w : World) : ∃ v, (zeroValue t).run P w = .ok v w ∧ VRels E μ z v.cells.toList ∧ ∀ x ∈ z, x.isOne = true := by
  unfold zeroOf at hz
  split at hz
  · rename_i i hi
    split at hz
    · rename_i v hv
      obtain ⟨k1, k2⟩ := toAs_rel (E := E) hz μ
      exact ⟨v, by simp [zeroValue, typeInfo, hi, hv], k1, k2⟩
    · cases hz
  · cases hz

theorem info_zero {P : Program} {t : TypeId} {z : List AVal} (hz : zeroOf P t = some z) : ∃ i v, P.info? t = some i ∧ i.zero = some v ∧ toAs v.cells.toList = some z := by
  unfold zeroOf at hz
  split at hz
  · rename_i i hi
    split at hz
    · rename_i v hv
      exact ⟨i, v, hi, hv, hz⟩
    · cases hz
  · cases hz

/-- A fresh block's cells. -/
theorem new_cells {cs : List AVal} {c : Array Value} {e : TypeId} {esz b : Nat} {m : M} (hc : VRels E μ cs c.toList) (h1 : ∀ x ∈ cs, x.isOne = true) (hm : m = ⟨w.heap.size, 0, c.size, esz⟩) :
    ORel E (μ ++ [some m]) b μ.length { w with heap := w.heap.push (.cells c e (0, 0)) } (.cells esz cs) := by
  subst hm
  have hl := hc.length
  refine ⟨⟨w.heap.size, 0, c.size, esz⟩, c, e, (0, 0), by simp, rfl, by simp, rfl, by simp at hl ⊢; omega, fun k v hk => ?_, fun _ off _ => by simp⟩
  obtain ⟨v', hv', hr⟩ := hc.get hk
  exact ⟨h1 v (List.mem_of_getElem? hk), v', by simpa using hv', hr.later (later_push μ _)⟩

theorem ptr_new {m : M} (hm : m.base = 0) : VRel E (μ ++ [some m]) (.ptr (some (μ.length, 0))) (.pointer (some ⟨m.blk, 0, none⟩)) := by
  simp only [VRel]
  exact ⟨_, rfl, some m, by simp, fun m' h => by cases h; rw [hm]⟩

theorem slice_new {m : M} {n cap : Nat} {c : Option Nat} (hm : m.base = 0) (hn : n ≤ cap) (hc : ∀ k, c = some k → cap = k) (hs : cap * m.esz ≤ m.size) :
    VRel E (μ ++ [some m]) (.slice (some (μ.length, 0)) n c) (.slice (some ⟨m.blk, 0, none⟩) n cap) := by
  simp only [VRel]
  refine ⟨_, cap, rfl, by simp, fun _ => ⟨some m, by simp, fun m' h => by cases h; rw [hm]⟩, hc, hn, fun m' h => ?_⟩
  simp at h; subst h; omega

/-! ## Aggregates that are built -/

theorem fold_splice : ∀ (xs : List Value) (cs : Array Value) (off j : Nat), (xs.zipIdx j).foldl (fun (cs : Array Value) (x : Value × Nat) => cs.setIfInBounds (off + x.2) x.1) cs = spliceA cs (off + j) xs
  | [], _, _, _ => rfl
  | x :: xs, cs, off, j => by
    simp only [List.zipIdx_cons, List.foldl_cons, spliceA]
    exact fold_splice xs _ off (j + 1)

theorem fill_rel (hf : FRel E lo ν μ (sget s) a.tmps w) {place : Nat → Option (Nat × Nat)} : ∀ {ps : List (Nat × Operand)} {qs : List (Nat × Nat × Opd)} {cs cs' : List AVal} {c : Array Value},
    cParts E place ps = some qs → Abs.fill s cs qs = some cs' → VRels E μ cs c.toList → (∀ x ∈ cs, x.isOne = true) →
    ∃ c' : Array Value, Instr.fill place c (ps.map fun p => (p.1, a.eval p.2)) = some c' ∧ VRels E μ cs' c'.toList ∧ (∀ x ∈ cs', x.isOne = true) ∧ c'.size = c.size
  | [], qs, cs, cs', c, hq, he, hc, h1 => by
    simp only [cParts] at hq; cases hq
    simp only [Abs.fill] at he; cases he
    exact ⟨c, rfl, hc, h1, rfl⟩
  | (i, x) :: ps, qs, cs, cs', c, hq, he, hc, h1 => by
    simp only [cParts] at hq
    split at hq
    · rename_i o n y qs' hp hx hps
      cases hq
      simp only [Abs.fill] at he
      split at he
      · rename_i xs hxs
        split at he
        · rename_i hh
          obtain ⟨hn, hlen⟩ := hh
          cases hev : y.ev s with
          | none => rw [hev] at hxs; simp at hxs
          | some v =>
            rw [hev] at hxs
            simp only [Option.bind_some] at hxs
            have hv := opd_rel hf hx hev
            obtain ⟨k1, k2⟩ := cells_rel hv hxs
            have k3 := k1.length
            have hlc := hc.length
            have hcr : CRel E μ cs c 0 := fun k v' hk => by
              obtain ⟨u, hu, hr⟩ := hc.get hk
              exact ⟨h1 v' (List.mem_of_getElem? hk), u, by simpa using hu, hr⟩
            have hsp := hcr.splice k1 k2 (o := o) (by omega) (by simp at hlc; omega)
            have hl2 := splice_length cs o xs (by omega)
            have hsz := spliceA_size (a.eval x).cells.toList c (0 + o)
            have hrel : VRels E μ (Abs.splice cs o xs) (spliceA c (0 + o) (a.eval x).cells.toList).toList := by
              apply VRels.of
              · simp [hl2, spliceA_size]; simpa using hlc
              · intro k v' hk
                obtain ⟨_, u, hu, hr⟩ := hsp k v' hk
                exact ⟨u, by simpa using hu, hr⟩
            have hone : ∀ x' ∈ Abs.splice cs o xs, x'.isOne = true := fun x' hx' => by
              obtain ⟨k, hk⟩ := List.getElem?_of_mem hx'
              exact (hsp k x' hk).1
            obtain ⟨c', j1, j2, j3, j4⟩ := fill_rel hf hps he hrel hone
            refine ⟨c', ?_, j2, j3, by rw [j4, hsz]⟩
            simp only [List.map_cons, Instr.fill, hp]
            have e1 : ((a.eval x).cells.size ≠ n || o + (a.eval x).cells.size > c.size) = false := by
              simp at k3 hlc
              simp; omega
            rw [if_neg (by simp only [e1]; exact Bool.false_ne_true)]
            have e2 : ((a.eval x).cells.zipIdx.foldl (fun (cs : Array Value) (x : Value × Nat) => cs.setIfInBounds (o + x.2) x.1) c) = spliceA c (0 + o) (a.eval x).cells.toList := by
              have := fold_splice (a.eval x).cells.toList c o 0
              rw [← Array.foldl_toList, Array.toList_zipIdx, this]
              congr 1; omega
            rw [e2]; exact j1
        · cases he
      · cases he
    · cases hq

theorem places_rel {P : Program} (w : World) : ∀ {fs : List Field} {pl : List (Nat × Nat)}, fieldPlaces P fs = some pl → (fs.mapM fun f => (Functor.map (Prod.mk f.offset) (sizeOf f.type) : Sem (Nat × Nat))).run P w = .ok pl w
  | [], pl, h => by simp only [fieldPlaces] at h; cases h; rfl
  | f :: fs, pl, h => by
    simp only [fieldPlaces] at h
    split at h
    · rename_i n l hn hl
      cases h
      have ih := places_rel w hl
      simp only [List.mapM_cons, Sem.run_bind, Sem.run_map, run_sizeOf hn, Result.andThen_ok, Sem.run_pure, ih]
    · cases h

end
end Go.Abs

/-
  Each operation but a call, all together.
-/
namespace Go.Abs

section
variable {E : Env} {lo : Nat} {ν : Fr} {μ : MM} {s : Slots} {h : Heap} {a : Act} {w : World}

theorem rep_get {α : Type} (l : List α) (k : Nat) (hk : l.length = k) (h0 : 0 < k) : ∀ (n i : Nat), i < n * k → ((List.replicate n l).flatten)[i]? = l[i % k]?
  | 0, i, h => by omega
  | n + 1, i, h => by
    rw [List.replicate_succ, List.flatten_cons]
    by_cases hi : i < k
    · rw [List.getElem?_append_left (by omega), Nat.mod_eq_of_lt hi]
    · rw [List.getElem?_append_right (by omega), hk, rep_get l k hk h0 n (i - k) (by rw [Nat.add_mul] at h; omega)]
      congr 1
      rw [Nat.mod_eq_sub_mod (a := i) (by omega)]

theorem rep_length {α : Type} (l : List α) (k : Nat) (hk : l.length = k) : ∀ n, ((List.replicate n l).flatten).length = n * k
  | 0 => by simp
  | n + 1 => by rw [List.replicate_succ, List.flatten_cons, List.length_append, hk, rep_length l k hk n, Nat.add_mul]; omega

theorem rep_rel {z : List AVal} {zero : Array Value} {k n : Nat} (hz : VRels E μ z zero.toList) (h1 : ∀ x ∈ z, x.isOne = true) (hk : z.length = k) (h0 : 0 < k) :
    VRels E μ (rep n z) ((Array.range (n * k)).map fun i => zero[i % zero.size]!).toList ∧ (∀ x ∈ rep n z, x.isOne = true) := by
  have hl := hz.length
  simp at hl
  constructor
  · apply VRels.of
    · rw [rep, rep_length z k hk]; simp
    · intro i x hx
      have hi : i < n * k := by
        have := lt_of_get hx
        rw [rep, rep_length z k hk] at this; exact this
      rw [rep, rep_get z k hk h0 n i hi] at hx
      obtain ⟨v, hv, hr⟩ := hz.get hx
      refine ⟨v, ?_, hr⟩
      have hm : i % zero.size < zero.size := Nat.mod_lt _ (by omega)
      have e : zero.size = k := by omega
      simp [hi]
      rw [e] at hm ⊢
      rw [Array.getElem?_toList] at hv
      rw [getElem!_pos zero _ (by omega)]
      rw [Array.getElem?_eq_getElem (by omega)] at hv
      simpa using hv
  · intro x hx
    unfold rep at hx
    rw [List.mem_flatten] at hx
    obtain ⟨l, hl1, hl2⟩ := hx
    rw [List.mem_replicate] at hl1
    rw [hl1.2] at hl2
    exact h1 x hl2

theorem bytesOf_rel : ∀ {cs : List AVal} {t : List UInt8} {l : List Value}, bytesOf cs = some t → VRels E μ cs l → ∃ ns : List Int, l = ns.map (Value.int .u8) ∧ t = ns.map fun n => UInt8.ofNat n.toNat
  | [], t, l, h, hl => by
    simp only [bytesOf] at h; cases h
    simp only [VRels] at hl; subst hl
    exact ⟨[], rfl, rfl⟩
  | c :: cs, t, l, h, hl => by
    simp only [VRels] at hl
    obtain ⟨v, r, rfl, hv, hr⟩ := hl
    unfold bytesOf at h
    split at h
    · rename_i h0; cases h0
    · rename_i n r' h0
      cases h0
      rw [Option.map_eq_some_iff] at h
      obtain ⟨t', ht, rfl⟩ := h
      simp only [VRel] at hv; subst hv
      obtain ⟨ns, e1, e2⟩ := bytesOf_rel ht hr
      exact ⟨n :: ns, by simp [e1], by simp [e2]⟩
    · cases h

theorem foldl_push : ∀ (ns : List Int) (r : ByteArray), ns.foldl (fun r n => r.push (UInt8.ofNat n.toNat)) r = ⟨(r.data.toList ++ ns.map fun n => UInt8.ofNat n.toNat).toArray⟩
  | [], r => by simp
  | n :: ns, r => by
    rw [List.foldl_cons, foldl_push ns]
    simp

theorem done_store (hf : FRel E lo ν μ (sget s) a.tmps w) (hr : Rel E μ h w) {dst : Option Tmp} {r : Result Next} (hd : ∀ x, dst = some x → x < a.tmps.size) {x : Operand} {y : Opd} {ad : AAddr} {xs : List AVal} {l : List Value} {s' : Slots} {h' : Heap}
    (hc : cOpd E x = some y) (hy : y.adr s = some ad) (hxs : VRels E μ xs l) (h1 : ∀ v ∈ xs, v.isOne = true) (hst : storeAt s h ad xs = some (s', h'))
    (hrun : ∀ adr, a.eval x = .pointer (some adr) → r = ((storeCells adr l).run E.P w).andThen fun _ w' => .ok .skip w') :
    OpDone E lo ν.ds μ w a dst r .undef s' h' := by
  have hlen := hxs.length
  have hone := oneCell_all hxs h1
  cases ad with
  | glob i o =>
    simp only [storeAt] at hst
    split at hst
    · rename_i esz cs hg
      split at hst
      · rename_i hh
        cases hst
        obtain ⟨hb, hl⟩ := hh
        obtain ⟨m, c, e, fr, k1, k2, k3, k4, k5, k6, k7⟩ := hr.obj i _ hg
        obtain ⟨adr, k8, x', k9, k10⟩ := adr_glob hf hc hy
        rw [k1] at k9; cases k9
        have := k10 m rfl; subst this
        have hrs := run_storeCells (P := E.P) (b := m.blk) (e := e) (fr := fr) (a := ⟨m.blk, m.base + o, none⟩) rfl rfl l 0 c w k3 (by simp; omega) (by rw [k4]; exact k7 hb) hone
        have hsp := k6.splice hxs h1 hl (by omega)
        refine ⟨Go.undef, _, μ, ν, rfl, .inr ⟨rfl, by rw [hrun _ k8, hrs]; rfl⟩, Step.put k1 (Nat.min_le_right _ _) _, hr.put hb k1 ?_, ?_⟩
        · exact ⟨m, _, e, fr, k1, k2, withBlock_same (hr.lt i m k1), by rw [spliceA_size]; exact k4, by rw [splice_length _ _ _ hl]; exact k5, hsp, k7⟩
        · rw [put_tmps]
          refine FRel.setUndef ?_ hd
          exact hf.keep (Later.refl _) (fun t cs' hv => withBlock_other (hf.sepm t cs' i m hv k1)) (fun t cs' j m' _ hj hm => absurd (lt_of_get hm) (by omega)) fun q hq => ⟨withBlock_other ((hf.sepd q hq).1 i m k1), fun j m' hj hm => absurd (lt_of_get hm) (by omega)⟩
      · cases hst
    · cases hst
  | loc t o =>
    simp only [storeAt] at hst
    split at hst
    · rename_i cs hg
      split at hst
      · rename_i hl
        cases hst
        obtain ⟨_, k2, c, e, fr, k3, k4, k5, k6⟩ := hf.var t _ hg
        have k8 := adr_loc hf hc hy hg
        have hrs := run_storeCells (P := E.P) (b := ν t) (e := e) (fr := fr) (a := ⟨ν t, o, none⟩) rfl rfl l 0 c w k3 (by simp; omega) k6 hone
        have hsp := k5.splice hxs h1 hl (by omega)
        have hsz := spliceA_size l c (0 + o)
        simp only [Nat.zero_add] at hsp hsz
        refine ⟨Go.undef, _, μ, ν, rfl, .inr ⟨rfl, by rw [hrun _ k8, hrs]; rfl⟩, ?_, hr.keep (by simp [withBlock]) fun i m hm => withBlock_other (fun e => hf.sepm t _ i m hg hm e.symm), ?_⟩
        · exact ⟨rfl, rfl, rfl, by simp [withBlock], fun k hk hx _ => withBlock_other (fun e => hx (by rw [← e]; exact k2)), Nat.le_refl _, fun _ _ => .inl rfl, fun i m hi hm => absurd (lt_of_get hm) (by omega)⟩
        · rw [put_tmps]
          refine FRel.setUndef ?_ hd
          simp only [Nat.add_zero]
          exact hf.putVar hg (by rw [hsz, splice_length _ _ _ hl]; exact k4) hsp (by rw [hsz]; exact k6)
      · cases hst
    · cases hst

/-- A store into an object. -/
theorem done_hstore (hf : FRel E lo ν μ (sget s) a.tmps w) (hr : Rel E μ h w) {dst : Option Tmp} {r : Result Next} (hd : ∀ x, dst = some x → x < a.tmps.size) {i o esz : Nat} {xs cs : List AVal} {l : List Value} {u : Value}
    (hu : VRel E μ (.ptr (some (i, o))) u) (hxs : VRels E μ xs l) (h1 : ∀ v ∈ xs, v.isOne = true) (hg : h.get i = some (.cells esz cs)) (hb : h.base ≤ i) (hl : o + xs.length ≤ cs.length)
    (hrun : ∀ adr, u = .pointer (some adr) → r = ((storeCells adr l).run E.P w).andThen fun _ w' => .ok .skip w') :
    OpDone E lo ν.ds μ w a dst r (.val (.tuple [])) s (h.put i (.cells esz (splice cs o xs))) := by
  have hlen := hxs.length
  have hone := oneCell_all hxs h1
  obtain ⟨m, c, e, fr, k1, k2, k3, k4, k5, k6, k7⟩ := hr.obj i _ hg
  simp only [VRel] at hu
  obtain ⟨adr, k8, x', k9, k10⟩ := hu
  rw [k1] at k9; cases k9
  have := k10 m rfl; subst this
  have hrs := run_storeCells (P := E.P) (b := m.blk) (e := e) (fr := fr) (a := ⟨m.blk, m.base + o, none⟩) rfl rfl l 0 c w k3 (by simp; omega) (by rw [k4]; exact k7 hb) hone
  have hsp := k6.splice hxs h1 hl (by omega)
  refine ⟨Go.undef, _, μ, ν, rfl, .inr ⟨rfl, by rw [hrun _ k8, hrs]; rfl⟩, Step.put k1 (Nat.min_le_right _ _) _, hr.put hb k1 ?_, ?_⟩
  · exact ⟨m, _, e, fr, k1, k2, withBlock_same (hr.lt i m k1), by rw [spliceA_size]; exact k4, by rw [splice_length _ _ _ hl]; exact k5, hsp, k7⟩
  · rw [put_tmps]
    refine FRel.setVal ?_ hd (by simp only [VRel]; exact ⟨#[], rfl, by simp [VRels]⟩)
    exact hf.keep (Later.refl _) (fun t cs' hv => withBlock_other (hf.sepm t cs' i m hv k1)) (fun t cs' j m' _ hj hm => absurd (lt_of_get hm) (by omega)) fun q hq => ⟨withBlock_other ((hf.sepd q hq).1 i m k1), fun j m' hj hm => absurd (lt_of_get hm) (by omega)⟩

theorem le_grown (w : World) (need old : Nat) (e : TypeId) : need ≤ grownCap w need old e := by
  simp [grownCap, Question.cut]

theorem append_done (hf : FRel E lo ν μ (sget s) a.tmps w) (hr : Rel E μ h w) {dst : Option Tmp} {r : Result Next} (hd : ∀ x, dst = some x → x < a.tmps.size)
    {t u ty e : TypeId} {i : TypeInfo} {z : Value} {x y v : AVal} {vx vy : Value} {h' : Heap} (ht : E.P.underlying t = some (.slice e)) (hu : (∃ e', E.P.underlying u = some (.slice e')) ∨ E.P.underlying u = some .string) (hi : E.P.info? e = some i) (hz : i.zero = some z) (hzs : z.cells.size = i.size)
    (hx : VRel E μ x vx) (hy : VRel E μ y vy) (he : aAppend i.size i.bytes h x y = some (v, h'))
    (hrun : r = ((Builtin.append_ #[t, u] ty #[vx, vy]).run E.P w).andThen fun v w' => .ok (.value v) w') :
    OpDone E lo ν.ds μ w a dst r (.val v) s h' := by
  unfold aAppend at he
  cases x with
  | slice ao n0 c => ?_
  | _ => cases he
  simp only at he
  split at he
  case h_2 => cases he
  rename_i old new ho hn
  unfold aApp at he
  have hk := hu
  obtain ⟨lo1, n1, o1, o2, o3, o4, o5, o6⟩ := rowOf_rel hr hx ho
  obtain ⟨ln, n2, p1, p2, p3, p4, p5, p6⟩ := rowOf_rel hr hy hn
  simp only [alen] at o5
  subst o5
  rw [← p5] at he
  have hsrc : Src E.P i.size u vy n2 ln w := ⟨hk, fun w' => p3 E.P w', p6 E.P w rfl, p6 E.P w.drew rfl, p4, fun v hv => by
    have := oneCell_all p1 p2 v hv
    cases v <;> simp_all [one?, Value.oneCell']⟩
  split at he
  · -- nothing is appended
    rename_i h0
    cases he
    subst h0
    have hl0 : ln = [] := List.eq_nil_of_length_eq_zero (by simpa using p4)
    subst hl0
    have : ∃ b cap, vx = .slice b n1 cap ∧ n1 ≤ cap := by
      cases ao with
      | none => simp only [VRel] at hx; obtain ⟨e1, _, e2⟩ := hx; exact ⟨none, 0, by rw [e2, e1], by omega⟩
      | some io => simp only [VRel] at hx; obtain ⟨ad, cap, e1, _, _, _, e2, _⟩ := hx; exact ⟨some ad, cap, e1, e2⟩
    obtain ⟨b, cap, rfl, hcap⟩ := this
    refine done_val hf hr hd ?_ hx
    rw [hrun]
    rcases hk with ⟨e', hk⟩ | hk <;> (cases b <;> simp [Builtin.append_, run_underlying ht, run_underlying hk, sizeOf, typeInfo, hi, p3, hcap, p6, storeCells])
  · rename_i h0
    split at he
    · rename_i hh
      obtain ⟨hb, h63⟩ := hh
      have hcat := o1.append p1
      have hcl : ∀ (k : Nat) (v' : AVal), (old ++ new)[k]? = some v' → v'.isOne = true := by
        intro k v' hk
        rcases List.mem_append.1 (List.mem_of_getElem? hk) with hm' | hm'
        · exact o2 _ hm'
        · exact p2 _ hm'
      -- a new row, whatever its room
      have grow : ∀ (b : Option Addr) (cap : Nat) (h1 : Heap) (μ1 : MM), vx = .slice b n1 cap → cap < n1 + n2 → Later μ μ1 → Rel E μ1 h1 w → FRel E lo ν μ1 (sget s) a.tmps w →
          OpDone E lo ν.ds μ1 w a dst r (.val (.slice (some (h1.size, 0)) (n1 + n2) none)) s (h1.push (.cells i.size (old ++ new))) := by
        intro b cap h1 μ1 hvx hcap hl1 hr1 hf1
        have hfit := growslice_fits (need := n1 + n2) (old := cap) (bytes := i.bytes) hcap hb
        have hgr := run_append_grow_src (P := E.P) w t u ty e i z ht hi hz b n1 cap lo1 (by rw [← hvx]; exact o6 E.P w.drew rfl) vy n2 ln hsrc hcap (by omega) hfit
        rw [hvx, hgr] at hrun
        have hg := le_grown w (n1 + n2) cap e
        generalize hcell : (lo1 ++ ln).toArray ++ Builtin.zeroCells z.cells (grownCap w (n1 + n2) cap e - (n1 + n2)) = C at hrun
        have hC : C.size = grownCap w (n1 + n2) cap e * i.size := by
          rw [← hcell]
          simp [Builtin.zeroCells, o4, p4, hzs]
          rw [← Nat.add_mul, ← Nat.add_mul]; congr 1; omega
        have hlen : h1.size = μ1.length := hr1.len.symm
        rw [hlen]
        refine done_new hf1 hr1 hd (.cells i.size (old ++ new)) (.cells C e) ⟨w.heap.size, 0, C.size, i.size⟩ rfl (w1 := w.drew.alloc (.cells C e)) hrun rfl rfl rfl rfl ?_ ?_
        · refine ⟨⟨w.heap.size, 0, C.size, i.size⟩, C, e, (0, 0), by simp, rfl, by simp, rfl, ?_, fun k v' hk => ?_, fun _ off _ => by simp⟩
          · have e1 := o1.length
            have e2 := p1.length
            simp only [List.length_append, Nat.zero_add, e1, e2, o4, p4, hC, ← Nat.add_mul]
            exact Nat.mul_le_mul_right _ hg
          · obtain ⟨u, hu', hr'⟩ := hcat.get hk
            refine ⟨hcl k v' hk, u, ?_, (hr'.later hl1).later (later_push μ1 _)⟩
            rw [Nat.zero_add, ← hcell, Array.getElem?_append_left (by simpa using lt_of_get hu')]
            simpa using hu'
        · exact slice_new rfl hg (fun k hk => by cases hk) (by simp [hC])
      split at he
      · -- nil
        cases he
        simp only [VRel] at hx
        obtain ⟨e1, _, e2⟩ := hx
        exact grow none 0 h μ (by rw [e2, e1]) (by omega) (Later.refl _) hr hf
      · rename_i j o
        simp only [VRel] at hx
        obtain ⟨ad, cap, hvx, hj, hA, hck, hcap, hsz⟩ := hx
        split at he
        · -- full
          rename_i hc
          cases he
          exact grow (some ad) cap h μ hvx (by have := hck _ hc; omega) (Later.refl _) hr hf
        · split at he
          · rename_i hbr
            cases he
            obtain ⟨hbase, hrow⟩ := hbr
            unfold rowIs at hrow
            split at hrow
            case h_2 => cases hrow
            rename_i e' cs hg
            have he' : e' = i.size := by simpa using hrow
            subst he'
            obtain ⟨m, cc, te, fr, k1, k2, k3, k4, k5, k6, k7⟩ := hr.obj j _ hg
            by_cases hroom : n1 + n2 ≤ cap
            · -- there is room: in its place
              obtain ⟨x', k8, k9⟩ := hA (by omega)
              rw [k1] at k8; cases k8
              have := k9 m rfl; subst this
              have hs := hsz m k1
              rw [k2] at hs
              have hle : m.base + o + n1 * i.size + ln.length ≤ cc.size := by
                rw [p4, k4, Nat.add_assoc, ← Nat.add_mul]
                exact Nat.le_trans (Nat.add_le_add_left (Nat.mul_le_mul_right _ hroom) _) hs
              have hone := oneCell_all p1 p2
              have hrs := run_storeCells (P := E.P) (b := m.blk) (e := te) (fr := fr) (a := ⟨m.blk, m.base + o + n1 * i.size, none⟩) rfl rfl ln 0 cc w k3 (by simpa using hle) (by rw [k4]; exact k7 hbase) hone
              have hrun' : r = .ok (.value (.slice (some ⟨m.blk, m.base + o, none⟩) (n1 + n2) cap)) (withBlock w m.blk (.cells (spliceA cc (m.base + o + n1 * i.size) ln) te fr)) := by
                rw [hrun, hvx]
                have e1 : (⟨m.blk, m.base + o, none⟩ : Addr).add (n1 * i.size) = ⟨m.blk, m.base + o + n1 * i.size, none⟩ := add_plain _ _ _
                rcases hk with ⟨e'', hk⟩ | hk <;> (simp [Builtin.append_, run_underlying ht, run_underlying hk, sizeOf, typeInfo, hi, p3, hroom, p6, e1, hrs])
              have hnew : ORel E (μ.set j none ++ [some ⟨m.blk, m.base + o, m.size, m.esz⟩]) h.base μ.length (withBlock w m.blk (.cells (spliceA cc (m.base + o + n1 * i.size) ln) te fr)) (.cells i.size (old ++ new)) := by
                have hold : ∀ (k : Nat) (v' : AVal), old[k]? = some v' → ∃ u, cc[m.base + o + k]? = some u ∧ VRel E μ v' u := by
                  intro k v' hk'
                  have hn0 : n1 ≠ 0 := by
                    intro h0'; subst h0'
                    have := lt_of_get hk'
                    rw [o1.length, o4] at this; omega
                  simp only [rowOf] at ho
                  rw [if_neg hn0, hg] at ho
                  simp only at ho
                  split at ho
                  · cases ho
                    have hkk : k < n1 * i.size := by
                      have := lt_of_get hk'
                      simp at this; omega
                    rw [List.getElem?_take_of_lt hkk, List.getElem?_drop] at hk'
                    obtain ⟨_, u, hu1, hu2⟩ := k6 _ v' hk'
                    exact ⟨u, by rw [← hu1]; congr 1; omega, hu2⟩
                  · cases ho
                have hlo : old.length = n1 * i.size := by rw [o1.length, o4]
                have hln : new.length = n2 * i.size := by rw [p1.length, p4]
                refine ⟨⟨m.blk, m.base + o, m.size, m.esz⟩, _, te, fr, ?_, k2, withBlock_same (hr.lt j m k1), by rw [spliceA_size]; exact k4, ?_, fun k v' hk' => ⟨hcl k v' hk', ?_⟩, fun _ => k7 hbase⟩
                · rw [List.getElem?_append_right (by simp)]; simp
                · simp only [List.length_append, hlo, hln]
                  rw [p4, k4] at hle; omega
                · rw [spliceA_get ln cc _ _ hle]
                  by_cases hk2 : k < n1 * i.size
                  · rw [List.getElem?_append_left (by omega)] at hk'
                    obtain ⟨u, hu1, hu2⟩ := hold k v' hk'
                    rw [if_neg (by simp only; omega)]
                    exact ⟨u, hu1, (hu2.later (later_set μ j)).later (later_push _ _)⟩
                  · rw [List.getElem?_append_right (by omega), hlo] at hk'
                    obtain ⟨u, hu1, hu2⟩ := p1.get hk'
                    have := lt_of_get hu1
                    rw [if_pos (by simp only; omega)]
                    refine ⟨u, ?_, (hu2.later (later_set μ j)).later (later_push _ _)⟩
                    rw [← hu1]; congr 1; simp only; omega
              have ht1 := hr.take (m' := ⟨m.blk, m.base + o, m.size, m.esz⟩) hbase k1 rfl hnew
              have hwm : ((h.put j .dead).push (.cells i.size (old ++ new))).wmin ≤ j := Nat.min_le_right _ _
              have hst : Step (fun k => lo ≤ k) _ μ w _ (withBlock w m.blk (.cells (spliceA cc (m.base + o + n1 * i.size) ln) te fr)) :=
                Step.take (X := fun k => lo ≤ k) (m' := ⟨m.blk, m.base + o, m.size, m.esz⟩) (.cells (spliceA cc (m.base + o + n1 * i.size) ln) te fr) k1 rfl hwm
              refine ⟨_, _, _, ν, rfl, .inl hrun', hst, ht1, ?_⟩
              rw [put_tmps]
              refine FRel.setVal ?_ hd ?_
              · refine hf.keep hst.later (fun t cs' hv => withBlock_other (hf.sepm t cs' j m hv k1)) (fun t cs' q m' hv hq hm' => ?_) fun r' hr' => ⟨withBlock_other ((hf.sepd r' hr').1 j m k1), fun q m' hq hm' => ?_⟩
                · rcases get_push hm' with b | ⟨_, b⟩
                  · exact absurd (lt_of_get b) (by simp; omega)
                  · cases b; exact hf.sepm t cs' j m hv k1
                · rcases get_push hm' with b | ⟨_, b⟩
                  · exact absurd (lt_of_get b) (by simp; omega)
                  · cases b; exact (hf.sepd r' hr').1 j m k1
              · have hlen : h.size = μ.length := hr.len.symm
                rw [hlen]
                simp only [VRel]
                refine ⟨_, cap, rfl, by simp, fun _ => ⟨some ⟨m.blk, m.base + o, m.size, m.esz⟩, by rw [List.getElem?_append_right (by simp)]; simp, fun m' hm' => by cases hm'; rfl⟩, (fun k hk => by cases hk), hroom, fun m' hm' => ?_⟩
                rw [List.getElem?_append_right (by simp)] at hm'
                simp at hm'; subst hm'
                simp only [k2, Nat.add_zero]
                exact hs
            · -- there is none
              have hk1 := hr.kill j
              have hfk : FRel E lo ν (μ.set j none) (sget s) a.tmps w := hf.keep (later_set μ j) (fun _ _ _ => rfl) (fun t cs' q m' _ hq hm' => absurd (lt_of_get hm') (by simp; omega)) fun _ _ => ⟨rfl, fun q m' hq hm' => absurd (lt_of_get hm') (by simp; omega)⟩
              obtain ⟨v', w', μ', ν', q0, q1, q2, q3, q4⟩ := grow (some ad) cap (h.put j .dead) (μ.set j none) hvx (by omega) (later_set μ j) hk1 hfk
              have hsz' : (h.put j .dead).size = h.size := by simp [Heap.put, Heap.size]
              rw [hsz'] at q4
              refine ⟨v', w', μ', ν', q0, q1, ?_, q3, q4⟩
              exact (Step.kill (X := fun k => lo ≤ k) (wm := j) μ w (Nat.le_refl _)).trans q2 (Nat.min_le_right _ _)
          · cases he
    · cases he

end
end Go.Abs
