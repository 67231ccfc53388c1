/-
  The abstract machine: values, memory, operations and code with all types resolved, and the evaluator. It is a function: what the model leaves open (the order inside a statement, an array's spare room) is not to be seen in it. AbsSound shows that what it gives is what the model's call gives.
-/
import GoSem.Dispatch
import Derived.Lib.Bytealg
namespace Go.Abs

/-- A value. Functions go by numbers of our own; a slice's capacity is known or not. -/
inductive AVal where
  | bool (b : Bool)
  | int (k : IntKind) (n : Int)
  | str (s : List UInt8)
  | ptr (a : Option (Nat × Nat))
  | slice (a : Option (Nat × Nat)) (len : Nat) (cap : Option Nat)
  | map (r : Option Nat)
  | func (g : Nat) (first caps : List AVal)
  | nilFunc
  | iface (t : Nat) (v : AVal)
  | nilIface
  | agg (cs : List AVal)
  | tuple (vs : List AVal)
  | yield (i : Nat)
  deriving Inhabited

inductive AExit where
  | normal
  | exit (id : Nat)
  | ret
  deriving DecidableEq

inductive LoopSt where
  | ready
  | busy
  | done
  deriving DecidableEq

inductive AObj where
  | dead
  | cells (esz : Nat) (cs : List AVal)
  | map (es : List (AVal × AVal × Nat)) (clock : Nat)
  | iter (s : List UInt8) (pos : Nat)
  | mapIter (m : Option Nat) (since : Nat) (seen : List Nat) (last : Nat)
  | loop (g : Nat) (st : LoopSt) (pend : Option AExit) (slots : List (Nat × AVal))
  deriving Inhabited

/-- Memory: objects by number. Those below 'base' are never written; of those that were there, none below 'wmin' has been written. -/
structure Heap where
  objs : List AObj
  base : Nat
  wmin : Nat

def Heap.size (h : Heap) : Nat := h.objs.length
def Heap.push (h : Heap) (o : AObj) : Heap := { h with objs := h.objs ++ [o] }
def Heap.get (h : Heap) (i : Nat) : Option AObj := h.objs[i]?
def Heap.put (h : Heap) (i : Nat) (o : AObj) : Heap := { h with objs := h.objs.set i o, wmin := min h.wmin i }

inductive Slot where
  | val (v : AVal)
  | undef
  | var (cs : List AVal)
  | loc (t off : Nat)
  | gone
  deriving Inhabited

abbrev Slots := List (Nat × Slot)

def sget : Slots → Nat → Option Slot
  | [], _ => none
  | (u, s) :: r, t => if u = t then some s else sget r t

/-- What stands behind slot t's variable is forgotten: a new variable comes. -/
def unloc (t : Nat) : Slots → Slots
  | [] => []
  | (u, .loc t' off) :: r => (u, if t' = t then .gone else .loc t' off) :: unloc t r
  | x :: r => x :: unloc t r

def keep (live : List Nat) (s : Slots) : Slots :=
  live.filterMap fun t => match sget s t with
    | some (.loc _ _) => none
    | some .gone => none
    | some x => some (t, x)
    | none => none

inductive Opd where
  | tmp (t : Nat)
  | const (v : AVal)

def Opd.ev (s : Slots) : Opd → Option AVal
  | .tmp t => match sget s t with
    | some (.val v) => some v
    | _ => none
  | .const v => some v

def evs (s : Slots) : List Opd → Option (List AVal)
  | [] => some []
  | x :: r => match x.ev s, evs s r with
    | some v, some vs => some (v :: vs)
    | _, _ => none

inductive AAddr where
  | glob (i off : Nat)
  | loc (t off : Nat)

def Opd.adr (s : Slots) : Opd → Option AAddr
  | .tmp t => match sget s t with
    | some (.val (.ptr (some (i, o)))) => some (.glob i o)
    | some (.var _) => some (.loc t 0)
    | some (.loc t' o) => some (.loc t' o)
    | _ => none
  | .const _ => none

def AVal.cells? : AVal → Option (List AVal)
  | .agg cs => some cs
  | .tuple _ => none
  | v => some [v]

def AVal.isOne : AVal → Bool
  | .agg _ | .tuple _ => false
  | _ => true

inductive ConvKind where
  | int (k : IntKind)
  | str
  | bytes
  | string

inductive SliceKind where
  | str
  | sl (esz : Nat)
  | arr (n esz : Nat)

inductive NilKind where
  | ptr
  | slice
  | map
  | func

inductive LenKind where
  | str
  | sl
  | map

/-- What a cell of a key is. -/
inductive CK where
  | b
  | i
  | s

/-- A key: one cell, or so many. -/
inductive KeyT where
  | one (c : CK)
  | agg (cs : List CK)

/-- Functions of the library for which the model stands in. -/
inductive PrimK where
  | indexByte
  | countByte

/-- Operations on values. -/
inductive PureOp where
  | eqcells (neg : Bool) (ks : List CK)
  | cap
  | prim (k : PrimK)

/-- Operations on values and memory that are asked of the operands' values alone. -/
inductive ExtOp where
  | mkmap
  | mkiter
  | lookup (kn : KeyT) (zero : AVal) (ok : Bool)
  | mapupd (kn : KeyT)
  | delete (kn : KeyT)
  | entry
  | pure (p : PureOp)

inductive AOp where
  | val (x : Opd)
  | pick (c a b : Opd)
  | alloc (esz : Nat) (zero : List AVal)
  | lalloc (zero : List AVal)
  | box (x : Opd)
  | lbox (x : Opd)
  | build (zero : List AVal) (parts : List (Nat × Nat × Opd))
  | mkslice (esz len : Nat) (zero : List AVal) (parts : List (Nat × Nat × Opd))
  | load (n : Option Nat) (a : Opd)
  | store (n : Nat) (a x : Opd)
  | bin (op : BinOp) (x y : Opd)
  | un (op : UnOp) (x : Opd)
  | conv (k : ConvKind) (x : Opd)
  | mkfunc (g : Nat) (first caps : List Opd)
  | make (esz bytes : Nat) (zero : List AVal) (len cap : Opd)
  | slice (k : SliceKind) (x : Opd) (lo hi mx : Option Opd)
  | faddr (x : Opd) (off : Nat)
  | field (x : Opd) (off : Nat) (n : Option Nat)
  | iaddr (esz : Nat) (x i : Opd)
  | aaddr (len esz : Nat) (x i : Opd)
  | index (x i : Opd)
  | aindex (len esz : Nat) (n : Option Nat) (x i : Opd)
  | extract (x : Opd) (i : Nat)
  | call (f : Opd) (args : List Opd)
  | callg (g : Nat) (args : List Opd)
  | len (k : LenKind) (x : Opd)
  | append (esz bytes : Nat) (x y : Opd)
  | copy (esz : Nat) (d s : Opd)
  | minmax (isMax : Bool) (xs : List Opd)
  | nilcheck (x : Opd)
  | eqnil (k : NilKind) (neg : Bool) (x y : Opd)
  | beq (neg : Bool) (x y : Opd)
  | ext (k : ExtOp) (xs : List Opd)
  | nextStr (x : Opd)

structure AOper where
  dst : Option Nat
  guard : Option (Nat × Bool)
  op : AOp

structure Seg where
  quiet : Bool
  soft : List Nat
  ops : List AOper

inductive ACode where
  | skip
  | region (segs : List Seg)
  | seq (a b : ACode)
  | cond (c : Opd) (t e : ACode)
  | block (id : Nat) (c : ACode)
  | loop (c : ACode)
  | exit (id : Nat)
  | ret
  | live (l : List Nat) (c : ACode)
  | after (c : ACode) (l : List Nat)
  | rangeFunc (f : Opd) (g : Nat) (caps : List Nat) (ps : List Nat) (a b : ACode)
  | next (d : Option Nat) (x : Opd)

inductive ARes where
  | tmp (t : Nat)
  | cell (t : Nat) (n : Option Nat)

/-- The body of a loop over a function: it runs as a call of its own. -/
structure ARound where
  params : List Nat
  assign : ACode
  body : ACode

/-- The loops over functions in a code. -/
def ACode.rounds : ACode → List (Nat × ARound)
  | .skip | .region _ | .exit _ | .ret | .next _ _ => []
  | .seq a b | .cond _ a b => a.rounds ++ b.rounds
  | .block _ c | .loop c | .live _ c | .after c _ => c.rounds
  | .rangeFunc _ g _ ps a b => [(g, ⟨ps, a, b⟩)]

/-- Does it step through a map? -/
def ACode.wild : ACode → Bool
  | .skip | .region _ | .exit _ | .ret | .rangeFunc _ _ _ _ _ _ => false
  | .seq a b | .cond _ a b => a.wild || b.wild
  | .block _ c | .loop c | .live _ c | .after c _ => c.wild
  | .next _ _ => true

/-- What isn't run as a code: the body of a loop over a function; a function of Go's library, by what it tells. -/
inductive ASpec where
  | round (r : ARound)
  | lib (f : List AVal → Heap → Option AVal)

structure AFunc where
  closed : Bool
  wild : Bool
  nargs : Nat
  ntmps : Nat
  results : List ARes
  body : ACode
  round : Option ASpec

/-! ## Numbers, texts -/

def aBits (op : BinOp) (k : IntKind) (x y : Int) : Option AVal :=
  match op with
  | .and => some (.int k (k.wrap (BitVec.ofInt k.bits x &&& BitVec.ofInt k.bits y).toNat))
  | .or => some (.int k (k.wrap (BitVec.ofInt k.bits x ||| BitVec.ofInt k.bits y).toNat))
  | .xor => some (.int k (k.wrap (BitVec.ofInt k.bits x ^^^ BitVec.ofInt k.bits y).toNat))
  | .andNot => some (.int k (k.wrap (BitVec.ofInt k.bits x &&& ~~~(BitVec.ofInt k.bits y)).toNat))
  | _ => none

def aBytesLess : List UInt8 → List UInt8 → Bool
  | _, [] => false
  | [], _ :: _ => true
  | a :: x, b :: y => a < b || (a == b && aBytesLess x y)

def aBin (op : BinOp) : AVal → AVal → Option AVal
  | .int k x, .int k' y =>
    match op with
    | .shl => if y < 0 then none else some (.int k (k.wrap (x * 2 ^ (min y.toNat k.bits))))
    | .shr => if y < 0 then none else some (.int k (x.fdiv (2 ^ (min y.toNat k.bits))))
    | _ => if k = k' then
        match op with
        | .add => some (.int k (k.wrap (x + y)))
        | .sub => some (.int k (k.wrap (x - y)))
        | .mul => some (.int k (k.wrap (x * y)))
        | .quo => if y = 0 then none else some (.int k (k.wrap (x.tdiv y)))
        | .rem => if y = 0 then none else some (.int k (x.tmod y))
        | .eql => some (.bool (decide (x = y)))
        | .neq => some (.bool (!decide (x = y)))
        | .lss => some (.bool (x < y))
        | .leq => some (.bool (x ≤ y))
        | .gtr => some (.bool (x > y))
        | .geq => some (.bool (x ≥ y))
        | op => aBits op k x y
      else none
  | .str a, .str b =>
    match op with
    | .add => if a.length + b.length ≤ 9223372036854775807 then some (.str (a ++ b)) else none
    | .eql => some (.bool (decide (a = b)))
    | .neq => some (.bool (!decide (a = b)))
    | .lss => some (.bool (aBytesLess a b))
    | .leq => some (.bool (aBytesLess a b || decide (a = b)))
    | .gtr => some (.bool !(aBytesLess a b || decide (a = b)))
    | .geq => some (.bool !(aBytesLess a b))
    | _ => none
  | _, _ => none

def aUn (op : UnOp) : AVal → Option AVal
  | .int k n => match op with
    | .neg => some (.int k (k.wrap (0 - n)))
    | .xor => aBits .xor k (if k.signed then -1 else k.max) n
    | _ => none
  | .bool b => match op with
    | .not => some (.bool !b)
    | _ => none
  | _ => none

def aMin2 (isMax : Bool) : AVal → AVal → Option AVal
  | .int k x, .int k' y => if k = k' then some (.int k (if isMax then (if x < y then y else x) else (if y < x then y else x))) else none
  | _, _ => none

def aMins (isMax : Bool) (v : AVal) : List AVal → Option AVal
  | [] => some v
  | x :: r => match aMin2 isMax v x with
    | some y => aMins isMax y r
    | none => none

/-- '==', one side being nil. -/
def aEqNil : NilKind → AVal → AVal → Option Bool
  | .ptr, .ptr none, .ptr b => some b.isNone
  | .ptr, .ptr (some _), .ptr none => some false
  | .slice, .slice none _ _, .slice b _ _ => some b.isNone
  | .slice, .slice (some _) _ _, .slice none _ _ => some false
  | .map, .map none, .map b => some b.isNone
  | .map, .map (some _), .map none => some false
  | .func, .nilFunc, .nilFunc => some true
  | .func, .nilFunc, .func _ _ _ => some false
  | .func, .func _ _ _, .nilFunc => some false
  | _, _, _ => none

/-! ## Parts of aggregates -/

/-- Cells from 'off' on, replaced. -/
def splice (cs : List AVal) (off : Nat) (xs : List AVal) : List AVal := cs.take off ++ xs ++ cs.drop (off + xs.length)

def fill (s : Slots) (cs : List AVal) : List (Nat × Nat × Opd) → Option (List AVal)
  | [] => some cs
  | (off, n, x) :: r =>
    match (x.ev s).bind AVal.cells? with
    | some xs => if xs.length = n ∧ off + n ≤ cs.length then fill s (splice cs off xs) r else none
    | none => none

/-- A part of an aggregate's cells: one cell, or n of them. -/
def part (cs : List AVal) (off : Nat) : Option Nat → Option AVal
  | none => cs[off]?
  | some n => if off + n ≤ cs.length then some (.agg ((cs.drop off).take n)) else none

/-! ## Memory -/

def cellsAt (s : Slots) (h : Heap) : AAddr → Option (List AVal × Nat)
  | .glob i o => match h.get i with
    | some (.cells _ cs) => some (cs, o)
    | _ => none
  | .loc t o => match sget s t with
    | some (.var cs) => some (cs, o)
    | _ => none

def loadAt (s : Slots) (h : Heap) (a : AAddr) (n : Option Nat) : Option AVal :=
  match cellsAt s h a with
  | some (cs, o) => part cs o n
  | none => none

def storeAt (s : Slots) (h : Heap) (a : AAddr) (xs : List AVal) : Option (Slots × Heap) :=
  match a with
  | .glob i o => match h.get i with
    | some (.cells e cs) => if h.base ≤ i ∧ o + xs.length ≤ cs.length then some (s, h.put i (.cells e (splice cs o xs))) else none
    | _ => none
  | .loc t o => match sget s t with
    | some (.var cs) => if o + xs.length ≤ cs.length then some ((t, .var (splice cs o xs)) :: s, h) else none
    | _ => none

/-- An index's number, if it lies in bounds. -/
def inBounds (n : Nat) : AVal → Option Nat
  | .int _ i => if 0 ≤ i ∧ i < n then some i.toNat else none
  | _ => none

/-- A bound's number, if it is at most n. -/
def upTo (n : Nat) : AVal → Option Nat
  | .int _ i => if 0 ≤ i ∧ i ≤ n then some i.toNat else none
  | _ => none

def optEv (s : Slots) : Option Opd → Option (Option AVal)
  | none => some none
  | some x => (x.ev s).map some

def lowB (b : Nat) : Option AVal → Option Nat
  | some l => upTo b l
  | none => some 0

/-- The three bounds of a slice expression: of a slice of length n whose capacity is 'cap'. -/
def bounds (n : Nat) (cap : Option Nat) (lo hi mx : Option AVal) : Option (Nat × Nat × Option Nat) :=
  match mx with
  | some m =>
    match upTo (cap.getD n) m with
    | some m =>
      match hi with
      | some hv => match upTo m hv with
        | some b => (lowB b lo).map fun a => (a, b, some m)
        | none => none
      | none => none
    | none => none
  | none =>
    match hi with
    | some hv => match upTo (cap.getD n) hv with
      | some b => (lowB b lo).map fun a => (a, b, cap)
      | none => none
    | none => (lowB n lo).map fun a => (a, n, cap)

/-- Are the elements of that row of so many cells? -/
def eszIs (h : Heap) (i e : Nat) : Bool :=
  match h.get i with
  | some (.cells e' _) => e' == e
  | some .dead => true
  | _ => false

def aSlice (k : SliceKind) (s : Slots) (h : Heap) (x : Opd) (lo hi mx : Option AVal) : Option AVal :=
  match k with
  | .str => match x.ev s with
    | some (.str t) => match mx with
      | none => (bounds t.length (some t.length) lo hi none).map fun (a, b, _) => .str ((t.drop a).take (b - a))
      | some _ => none
    | _ => none
  | .sl e => match x.ev s with
    | some (.slice none _ _) => (bounds 0 (some 0) lo hi mx).map fun _ => .slice none 0 (some 0)
    | some (.slice (some (i, o)) n c) => if eszIs h i e then (bounds n c lo hi mx).map fun (a, b, m) =>
        -- an empty rest of all that there is stays where it was
        .slice (some (i, if m = some a then o else o + a * e)) (b - a) (m.map (· - a))
      else none
    | _ => none
  | .arr n e => match x.adr s with
    | some (.glob i o) => match h.get i with
      | some (.cells e' cs) => if e' = e ∧ o + n * e ≤ cs.length then (bounds n (some n) lo hi mx).map fun (a, b, m) =>
          .slice (some (i, if m = some a then o else o + a * e)) (b - a) (m.map (· - a))
        else none
      | _ => none
    | _ => none

/-- A slice's elements, as cells. -/
def rowOf (esz : Nat) (h : Heap) : AVal → Option (List AVal)
  | .slice none _ _ => some []
  | .slice (some (i, o)) n _ => if n = 0 then some [] else match h.get i with
    | some (.cells e cs) => if e = esz ∧ o + n * esz ≤ cs.length then some ((cs.drop o).take (n * esz)) else none
    | _ => none
  | .str s => if esz = 1 then some (s.map fun b => .int .u8 b.toNat) else none
  | _ => none

def rowIs (h : Heap) (i e : Nat) : Bool :=
  match h.get i with
  | some (.cells e' _) => e' == e
  | _ => false

def alen : AVal → Nat
  | .slice _ m _ => m
  | .str s => s.length
  | _ => 0

/-- append: nothing appended: as it was; a slice that is known to be full, or nil: a new row; else: a new row in the elder one's place, whose number is gone. -/
def aApp (esz bytes : Nat) (h : Heap) (a : Option (Nat × Nat)) (n : Nat) (c : Option Nat) (m : Nat) (old new : List AVal) : Option (AVal × Heap) :=
  if m = 0 then some (.slice a n c, h)
  else if (n + m) * bytes ≤ 140737488355328 ∧ n + m ≤ 9223372036854775807 then
    match a with
    | none => some (.slice (some (h.size, 0)) (n + m) none, h.push (.cells esz (old ++ new)))
    | some (i, _) =>
      if c = some n then some (.slice (some (h.size, 0)) (n + m) none, h.push (.cells esz (old ++ new)))
      else if h.base ≤ i ∧ rowIs h i esz = true then some (.slice (some (h.size, 0)) (n + m) none, (h.put i .dead).push (.cells esz (old ++ new)))
      else none
  else none

def aAppend (esz bytes : Nat) (h : Heap) (x y : AVal) : Option (AVal × Heap) :=
  match x with
  | .slice a n c => match rowOf esz h (.slice a n c), rowOf esz h y with
    | some old, some new => aApp esz bytes h a n c (alen y) old new
    | _, _ => none
  | _ => none

def bytesOf : List AVal → Option (List UInt8)
  | [] => some []
  | .int .u8 n :: r => (bytesOf r).map (UInt8.ofNat n.toNat :: ·)
  | _ => none

def isVar (s : Slots) (t : Nat) : Bool :=
  match sget s t with
  | some (.var _) => true
  | _ => false

/-! ## Keys, maps -/

def akey1 : AVal → AVal → Option Bool
  | .str a, .str b => some (decide (a = b))
  | .int k a, .int k' b => if k = k' then some (decide (a = b)) else none
  | .bool a, .bool b => some (decide (a = b))
  | _, _ => none

def akeyL : List AVal → List AVal → Option Bool
  | [], [] => some true
  | a :: as, b :: bs => match akey1 a b with
    | some true => akeyL as bs
    | some false => some false
    | none => none
  | _, _ => none

def akey : AVal → AVal → Option Bool
  | .agg a, .agg b => if a.length = b.length then akeyL a b else none
  | a, b => akey1 a b

def CK.is : CK → AVal → Bool
  | .b, .bool _ => true
  | .i, .int _ _ => true
  | .s, .str _ => true
  | _, _ => false

def areKeys : List CK → List AVal → Bool
  | [], [] => true
  | k :: ks, v :: vs => k.is v && areKeys ks vs
  | _, _ => false

def isKey : KeyT → AVal → Bool
  | .one c, v => c.is v
  | .agg ks, .agg cs => areKeys ks cs
  | _, _ => false

def findA (k : AVal) : List (AVal × AVal × Nat) → Option (Option (Nat × AVal))
  | [] => some none
  | e :: es => match akey k e.1 with
    | some true => some (some (0, e.2.1))
    | some false => (findA k es).map fun r => r.map fun (i, v) => (i + 1, v)
    | none => none

/-- A map's entries; a nil map has none. -/
def entriesOf (h : Heap) : AVal → Option (List (AVal × AVal × Nat))
  | .map none => some []
  | .map (some r) => match h.get r with
    | some (.map es _) => some es
    | _ => none
  | _ => none

def evEq (neg : Bool) (ks : List CK) : AVal → AVal → Option AVal
  | .agg a, .agg b => if areKeys ks a = true ∧ a.length = b.length then (akeyL a b).map fun e => .bool (if neg then !e else e) else none
  | _, _ => none

def evCap : AVal → Option AVal
  | .slice _ _ (some c) => some (.int .i64 c)
  | _ => none

def evPrim (k : PrimK) (vs : List AVal) : Option AVal :=
  match k, vs with
  | .indexByte, [.str s, .int .u8 c] => some (.int .i64 (Lib.indexByte s c.toNat.toUInt8))
  | .countByte, [.str s, .int .u8 c] => some (.int .i64 (Lib.countByte s c.toNat.toUInt8))
  | _, _ => none

def evPure (p : PureOp) (vs : List AVal) : Option AVal :=
  match p, vs with
  | .eqcells neg ks, [x, y] => evEq neg ks x y
  | .cap, [x] => evCap x
  | .prim k, vs => evPrim k vs
  | _, _ => none

def evExt (k : ExtOp) (vs : List AVal) (h : Heap) : Option (AVal × Heap) :=
  match k, vs with
  | .mkmap, [] => some (.map (some h.size), h.push (.map [] 0))
  | .mkiter, [.map none] => some (.ptr (some (h.size, 0)), h.push (.mapIter none 0 [] 0))
  | .mkiter, [.map (some r)] => match h.get r with
    | some (.map _ clock) => some (.ptr (some (h.size, 0)), h.push (.mapIter (some r) clock [] clock))
    | _ => none
  | .lookup kn zero ok, [m, k] => if isKey kn k then match entriesOf h m with
      | some es => match findA k es with
        | some (some (_, v)) => some (if ok then .tuple [v, .bool true] else v, h)
        | some none => some (if ok then .tuple [zero, .bool false] else zero, h)
        | none => none
      | none => none
    else none
  | .mapupd kn, [.map (some r), k, v] => if isKey kn k ∧ h.base ≤ r then match h.get r with
      | some (.map es clock) => match findA k es with
        | some (some (i, _)) => some (.tuple [], h.put r (.map (es.modify i fun e => (k, v, e.2.2)) clock))
        | some none => some (.tuple [], h.put r (.map (es ++ [(k, v, clock)]) (clock + 1)))
        | none => none
      | _ => none
    else none
  | .delete kn, [.map none, k] => if isKey kn k then some (.tuple [], h) else none
  | .delete kn, [.map (some r), k] => if isKey kn k ∧ h.base ≤ r then match h.get r with
      | some (.map es clock) => match findA k es with
        | some (some (i, _)) => some (.tuple [], h.put r (.map (es.eraseIdx i) clock))
        | some none => some (.tuple [], h)
        | none => none
      | _ => none
    else none
  | .entry, [.ptr (some (i, 0))] => match h.get i with
    | some (.mapIter (some m) _ seen last) => match seen.getLast?, h.get m with
      | some st, some (.map es clock) => if clock = last then (es.find? fun e => e.2.2 == st).map fun e => (.tuple [e.1, e.2.1], h) else none
      | _, _ => none
    | _ => none
  | .pure p, vs => (evPure p vs).map fun v => (v, h)
  | _, _ => none

abbrev CallSem := Nat → List AVal → Heap → Option (AVal × Heap)

/-- Repeat cells n times. -/
def rep (n : Nat) (zero : List AVal) : List AVal := (List.replicate n zero).flatten

def ok1 (s : Slots) (h : Heap) (v : Option AVal) : Option (Slot × Slots × Heap) := v.map fun v => (.val v, s, h)

def evLen (k : LenKind) (v : AVal) (h : Heap) : Option AVal :=
  match k with
  | .str => match v with
    | .str t => some (.int .i64 t.length)
    | _ => none
  | .sl => match v with
    | .slice _ n _ => some (.int .i64 n)
    | _ => none
  | .map => match v with
    | .map none => some (.int .i64 0)
    | .map (some r) => match h.get r with
      | some (.map es _) => some (.int .i64 es.length)
      | _ => none
    | _ => none

def evConv (k : ConvKind) (v : AVal) (s : Slots) (h : Heap) : Option (Slot × Slots × Heap) :=
  match k with
  | .int k => match v with
    | .int _ n => ok1 s h (some (.int k (k.wrap n)))
    | _ => none
  | .str => match v with
    | .str t => ok1 s h (some (.str t))
    | _ => none
  | .bytes => match v with
    | .str t => some (.val (.slice (some (h.size, 0)) t.length none), s, h.push (.cells 1 (t.map fun b => .int .u8 b.toNat)))
    | _ => none
  | .string => match v with
    | .slice a n c => match (rowOf 1 h (.slice a n c)).bind bytesOf with
      | some t => ok1 s h (some (.str t))
      | none => none
    | _ => none

def evOp (call : CallSem) (dst : Nat) (o : AOp) (s : Slots) (h : Heap) : Option (Slot × Slots × Heap) :=
  match o with
  | .val x => ok1 s h (x.ev s)
  | .pick c a b => match c.ev s with
    | some (.bool true) => ok1 s h (a.ev s)
    | some (.bool false) => ok1 s h (b.ev s)
    | _ => none
  | .alloc e z => some (.val (.ptr (some (h.size, 0))), s, h.push (.cells e z))
  | .lalloc z => some (.var z, unloc dst s, h)
  | .box x => match (x.ev s).bind AVal.cells? with
    | some cs => some (.val (.ptr (some (h.size, 0))), s, h.push (.cells cs.length cs))
    | none => none
  | .lbox x => match (x.ev s).bind AVal.cells? with
    | some cs => some (.var cs, unloc dst s, h)
    | none => none
  | .build z ps => ok1 s h ((fill s z ps).map .agg)
  | .mkslice e n z ps => match fill s z ps with
    | some cs => some (.val (.slice (some (h.size, 0)) n (some n)), s, h.push (.cells e cs))
    | none => none
  | .load n a => match a.adr s with
    | some a => ok1 s h (loadAt s h a n)
    | none => none
  | .store n a x => match a.adr s, (x.ev s).bind AVal.cells? with
    | some a, some xs => if xs.length = n then (storeAt s h a xs).map fun (s', h') => (.undef, s', h') else none
    | _, _ => none
  | .bin op x y => match x.ev s, y.ev s with
    | some x, some y => ok1 s h (aBin op x y)
    | _, _ => none
  | .un op x => match x.ev s with
    | some x => ok1 s h (aUn op x)
    | none => none
  | .conv k x => match x.ev s with
    | some v => evConv k v s h
    | none => none
  | .mkfunc g f c => match evs s f, evs s c with
    | some f, some c => ok1 s h (some (.func g f c))
    | _, _ => none
  | .make e b z l c => match l.ev s, c.ev s with
    | some (.int kl n), some (.int kc m) =>
      if 0 ≤ n ∧ n ≤ m ∧ m * b ≤ 140737488355328 ∧ m ≤ 9223372036854775807 ∧ kl = .i64 ∧ kc = .i64 then
        some (.val (.slice (some (h.size, 0)) n.toNat (some m.toNat)), s, h.push (.cells e (rep m.toNat z)))
      else none
    | _, _ => none
  | .slice k x lo hi mx => match optEv s lo, optEv s hi, optEv s mx with
    | some lo, some hi, some mx => ok1 s h (aSlice k s h x lo hi mx)
    | _, _, _ => none
  | .faddr x off => match x.adr s with
    | some (.glob i o) => ok1 s h (some (.ptr (some (i, o + off))))
    | some (.loc t o) => if isVar s t then some (.loc t (o + off), s, h) else none
    | none => none
  | .field x off n => match x.ev s with
    | some (.agg cs) => ok1 s h (part cs off n)
    | _ => none
  | .iaddr e x i => match x.ev s, i.ev s with
    | some (.slice (some (b, o)) n _), some i => ok1 s h ((inBounds n i).map fun j => .ptr (some (b, o + j * e)))
    | _, _ => none
  | .aaddr n e x i => match x.adr s, i.ev s with
    | some (.glob b o), some i => ok1 s h ((inBounds n i).map fun j => .ptr (some (b, o + j * e)))
    | some (.loc t o), some i => if isVar s t then (inBounds n i).map fun j => (.loc t (o + j * e), s, h) else none
    | _, _ => none
  | .index x i => match x.ev s, i.ev s with
    | some (.str t), some i => ok1 s h ((inBounds t.length i).bind fun j => (t[j]?).map fun b => .int .u8 b.toNat)
    | _, _ => none
  | .aindex n e k x i => match x.ev s, i.ev s with
    | some (.agg cs), some i => ok1 s h ((inBounds n i).bind fun j => part cs (j * e) k)
    | _, _ => none
  | .extract x i => match x.ev s with
    | some (.tuple vs) => ok1 s h vs[i]?
    | _ => none
  | .call f args => match f.ev s, evs s args with
    | some (.func g first caps), some as => (call g (first ++ as ++ caps) h).map fun (v, h') => (.val v, s, h')
    | some (.yield i), some as => match h.get i with
      | some (.loop g _ _ _) => (call g (.ptr (some (i, 0)) :: as) h).map fun (v, h') => (.val v, s, h')
      | _ => none
    | _, _ => none
  | .callg g args => match evs s args with
    | some as => (call g as h).map fun (v, h') => (.val v, s, h')
    | none => none
  | .len k x => match x.ev s with
    | some v => ok1 s h (evLen k v h)
    | none => none
  | .append e b x y => match x.ev s, y.ev s with
    | some x, some y => (aAppend e b h x y).map fun (v, h') => (.val v, s, h')
    | _, _ => none
  | .copy _ _ _ => none
  | .minmax mx xs => match evs s xs with
    | some (x :: r) => ok1 s h (aMins mx x r)
    | _ => none
  | .nilcheck x => match x.ev s with
    | some (.ptr (some a)) => ok1 s h (some (.ptr (some a)))
    | _ => match x.adr s with
      | some (.loc t o) => if isVar s t then some (.loc t o, s, h) else none
      | _ => none
  | .eqnil k neg x y => match x.ev s, y.ev s with
    | some x, some y => ok1 s h ((aEqNil k x y).map fun b => .bool (if neg then !b else b))
    | _, _ => none
  | .beq neg x y => match x.ev s, y.ev s with
    | some (.bool a), some (.bool b) => ok1 s h (some (.bool (if neg then !decide (a = b) else decide (a = b))))
    | _, _ => none
  | .ext k xs => match evs s xs with
    | some vs => (evExt k vs h).map fun (v, h') => (.val v, s, h')
    | none => none
  | .nextStr _ => none

/-- A slot is set. -/
def setSlot (dst : Option Nat) (x : Slot) (s : Slots) : Slots :=
  match dst with
  | some d => (d, x) :: s
  | none => s

def evRun (call : CallSem) (o : AOper) (s : Slots) (h : Heap) : Option (Slots × Heap) :=
  match evOp call (o.dst.getD 0) o.op s h with
  | some (x, s', h') => some (setSlot o.dst x s', h')
  | none => none

def evOper (call : CallSem) (o : AOper) (s : Slots) (h : Heap) : Option (Slots × Heap) :=
  match o.guard with
  | none => evRun call o s h
  | some (t, want) => match sget s t with
    | some (.val (.bool b)) => if b = want then evRun call o s h else some (setSlot o.dst .undef s, h)
    | some .undef => some (setSlot o.dst .undef s, h)
    | _ => none

def evOps (call : CallSem) : List AOper → Slots → Heap → Option (Slots × Heap)
  | [], s, h => some (s, h)
  | o :: r, s, h => match evOper call o s h with
    | some (s', h') => evOps call r s' h'
    | none => none

mutual
/-- The numbers of all objects in it. -/
def AVal.ids : AVal → List Nat
  | .ptr (some (i, _)) => [i]
  | .slice (some (i, _)) _ _ => [i]
  | .map (some i) => [i]
  | .yield i => [i]
  | .func _ f c => AVal.idsL f ++ AVal.idsL c
  | .iface _ v => v.ids
  | .agg cs => AVal.idsL cs
  | .tuple vs => AVal.idsL vs
  | _ => []
def AVal.idsL : List AVal → List Nat
  | [] => []
  | v :: r => v.ids ++ AVal.idsL r
end

mutual
def AVal.ren (f : Nat → Nat) : AVal → AVal
  | .ptr (some (i, o)) => .ptr (some (f i, o))
  | .slice (some (i, o)) n c => .slice (some (f i, o)) n c
  | .map (some i) => .map (some (f i))
  | .yield i => .yield (f i)
  | .func g a c => .func g (AVal.renL f a) (AVal.renL f c)
  | .iface t v => .iface t (v.ren f)
  | .agg cs => .agg (AVal.renL f cs)
  | .tuple vs => .tuple (AVal.renL f vs)
  | v => v
def AVal.renL (f : Nat → Nat) : List AVal → List AVal
  | [] => []
  | v :: r => v.ren f :: AVal.renL f r
end

def AObj.ids : AObj → List Nat
  | .cells _ cs => AVal.idsL cs
  | .map es _ => es.flatMap fun (k, v, _) => k.ids ++ v.ids
  | .loop _ _ _ sl => AVal.idsL (sl.map (·.2))
  | .mapIter (some m) _ _ _ => [m]
  | _ => []

def AObj.ren (f : Nat → Nat) : AObj → AObj
  | .cells e cs => .cells e (AVal.renL f cs)
  | .map es c => .map (es.map fun (k, v, b) => (k.ren f, v.ren f, b)) c
  | .loop g st p sl => .loop g st p (sl.map fun (t, v) => (t, v.ren f))
  | .mapIter m a b c => .mapIter (m.map f) a b c
  | o => o

/-- Operations whose order may be any: none of them changes what is there, nor a variable of the frame. -/
def evQuiet (call : CallSem) : List AOper → Slots → Heap → Option (Slots × Heap)
  | [], s, h => some (s, h)
  | o :: r, s, h => match evOper call o s { h with wmin := h.size } with
    | some (s', h') => if h'.size = h.size ∧ h'.wmin = h.size ∧ (o.dst.all fun d => !isVar s d) = true then evQuiet call r s' h else none
    | none => none

/-! ## Parts whose order is open, in which objects are made -/

def Slot.ids : Slot → List Nat
  | .val v => v.ids
  | .var cs => AVal.idsL cs
  | _ => []

/-- Number N becomes r. -/
def mv (N r : Nat) : Nat → Nat := fun i => if i = N then r else i

def Slot.ren (f : Nat → Nat) : Slot → Slot
  | .val v => .val (v.ren f)
  | x => x

def noCall : CallSem := fun _ _ _ => none

/-- The operands behind which an operation looks into the memory. -/
def heapOpds : AOp → List Opd
  | .load _ a => [a]
  | .slice _ x _ _ _ => [x]
  | .conv _ x => [x]
  | .len _ x => [x]
  | .append _ _ x y => [x, y]
  | .ext (.pure _) _ => []
  | .ext _ xs => xs
  | _ => []

def AOp.isCall : AOp → Bool
  | .call _ _ | .callg _ _ => true
  | _ => false

def Opd.reads : Opd → List Nat
  | .tmp t => [t]
  | .const _ => []

def readsL : List Opd → List Nat
  | [] => []
  | x :: r => x.reads ++ readsL r

def readsO : Option Opd → List Nat
  | some x => x.reads
  | none => []

def readsP : List (Nat × Nat × Opd) → List Nat
  | [] => []
  | (_, _, x) :: r => x.reads ++ readsP r

/-- Which slots an operation looks at. -/
def AOp.reads : AOp → List Nat
  | .val x | .box x | .lbox x | .load _ x | .un _ x | .conv _ x | .faddr x _ | .field x _ _ | .extract x _ | .len _ x | .nilcheck x | .nextStr x => x.reads
  | .pick c a b => c.reads ++ a.reads ++ b.reads
  | .alloc _ _ | .lalloc _ => []
  | .build _ ps | .mkslice _ _ _ ps => readsP ps
  | .store _ a x => a.reads ++ x.reads
  | .bin _ x y | .iaddr _ x y | .aaddr _ _ x y | .index x y | .aindex _ _ _ x y | .append _ _ x y | .copy _ x y | .eqnil _ _ x y | .beq _ x y | .make _ _ _ x y => x.reads ++ y.reads
  | .mkfunc _ f c => readsL f ++ readsL c
  | .slice _ x a b c => x.reads ++ readsO a ++ readsO b ++ readsO c
  | .call f as => f.reads ++ readsL as
  | .callg _ as => readsL as
  | .minmax _ xs => readsL xs
  | .ext _ xs => readsL xs

def AOper.reads (o : AOper) : List Nat :=
  o.op.reads ++ (match o.guard with | some (t, _) => [t] | none => [])

/-- What an operation of such a part did: at what it looked, the object that it took the place of, from where on it may have written, what it made. -/
structure Did where
  isCall : Bool
  rd : List Nat
  ch : Option Nat
  wr : Option Nat
  lo : Nat
  hi : Nat

/-- Is object i made by one of those in m? -/
def seenBy (m : Nat) : Nat → List Did → Nat → Bool
  | _, [], _ => false
  | y, d :: r, i => (m.testBit y && decide (d.lo ≤ i) && decide (i < d.hi)) || seenBy m (y + 1) r i

/-- An operation that waits for those in m may name what was there, and the objects of those that it waits for. -/
def okId (n0 m : Nat) (ds : List Did) (i : Nat) : Bool := decide (i < n0) || seenBy m 0 ds i

def allSeen (m : Nat) : Nat → List Did → Bool
  | _, [] => true
  | y, d :: r => (m.testBit y || decide (d.hi ≤ d.lo)) && allSeen m (y + 1) r

def killRange (lo hi : Nat) (os : List AObj) : List AObj := os.mapIdx fun i o => if lo ≤ i ∧ i < hi then .dead else o

/-- What one that waits for those in m can't have seen is gone. -/
def hide (m : Nat) : Nat → List Did → List AObj → List AObj
  | _, [], os => os
  | y, d :: r, os => hide m (y + 1) r (if m.testBit y || decide (d.hi ≤ d.lo) then os else killRange d.lo d.hi os)

def Did.writes (x : Did) (i : Nat) : Bool := x.ch == some i || (match x.wr with | some w => decide (w ≤ i) | none => false)

/-- Of two neither of which waits for the other: does one change what the other looks at, or changes? -/
def clash (x y : Did) : Bool :=
  (x.isCall && y.isCall) || (x.ch.isSome && y.isCall) || (y.ch.isSome && x.isCall) ||
  (y.rd ++ y.ch.toList).any x.writes || (x.rd ++ x.ch.toList).any y.writes

def noClash (m : Nat) (x : Did) : Nat → List Did → Bool
  | _, [] => true
  | y, d :: r => (m.testBit y || !clash x d) && noClash m x (y + 1) r

def slotIds (s : Slots) (t : Nat) : List Nat := match sget s t with
  | some x => x.ids
  | none => []

def dstSlot (d : Option Nat) (s : Slots) : Slot := match d with
  | some d => (sget s d).getD .undef
  | none => .undef

def rdIds (o : AOp) (s : Slots) : List Nat := (heapOpds o).flatMap fun x => match x.ev s with
  | some v => v.ids
  | none => []

/-- One operation: what it gives, the memory, what it did. -/
def openOne (call : CallSem) (n0 m : Nat) (ds : List Did) (o : AOper) (s : Slots) (h : Heap) : Option (Slot × Heap × Did) :=
  if (o.reads.flatMap (slotIds s) ++ rdIds o.op s).all (okId n0 m ds) = false then none else
  if o.op.isCall then
    match evOper call o s ⟨hide m 0 ds h.objs, h.base, h.size⟩ with
    | none => none
    | some (s', h') =>
      let y := dstSlot o.dst s'
      if h'.wmin < h.size then
        if allSeen m 0 ds then some (y, ⟨h'.objs, h.base, min h.wmin h'.wmin⟩, ⟨true, [], none, some h'.wmin, h.size, h'.size⟩) else none
      else if allSeen m 0 ds then some (y, ⟨h'.objs, h.base, h.wmin⟩, ⟨true, [], none, none, h.size, h'.size⟩)
      else if (y.ids ++ (h'.objs.drop h.size).flatMap AObj.ids).all (fun i => okId n0 m ds i || decide (h.size ≤ i)) then
        some (y, ⟨h.objs ++ h'.objs.drop h.size, h.base, h.wmin⟩, ⟨true, [], none, none, h.size, h'.size⟩)
      else none
  else
    match evOper noCall o s ⟨h.objs, h.base, h.size⟩ with
    | none => none
    | some (s', h') =>
      let y := dstSlot o.dst s'
      if h'.size = h.size then
        if h'.wmin = h.size ∧ y.ids.all (okId n0 m ds) = true then some (y, h, ⟨false, rdIds o.op s, none, none, h.size, h.size⟩) else none
      else if h'.size = h.size + 1 then
        match h'.objs[h.size]? with
        | some ob =>
          if ob.ids.all (okId n0 m ds) then
            if h'.wmin = h.size then some (y, ⟨h'.objs, h.base, h.wmin⟩, ⟨false, rdIds o.op s, none, none, h.size, h.size + 1⟩)
            else some (y, ⟨h'.objs, h.base, min h.wmin h'.wmin⟩, ⟨false, rdIds o.op s, some h'.wmin, none, h.size, h.size + 1⟩)
          else none
        | none => none
      else none

def openAll (call : CallSem) (n0 : Nat) : List Nat → List AOper → List Did → Slots → Heap → Option (Slots × Heap)
  | _, [], _, s, h => some (s, h)
  | ms, o :: r, ds, s, h => match openOne call n0 (ms.headD 0) ds o s h with
    | some (y, h', d) =>
      if (o.dst.all fun d => !isVar s d) = true ∧ noClash (ms.headD 0) d 0 ds = true then openAll call n0 ms.tail r (ds ++ [d]) (setSlot o.dst y s) h' else none
    | none => none

/-- Operations whose order may be any: what one that waits for others gives hangs on those alone. -/
def evOpen (call : CallSem) (ms : List Nat) (ops : List AOper) (s : Slots) (h : Heap) : Option (Slots × Heap) :=
  openAll call h.size ms ops [] s h

def evSegs (call : CallSem) : List Seg → Slots → Heap → Option (Slots × Heap)
  | [], s, h => some (s, h)
  | g :: r, s, h => match (if g.quiet then (if g.soft = [] then evQuiet call g.ops s h else evOpen call g.soft g.ops s h) else evOps call g.ops s h) with
    | some (s', h') => evSegs call r s' h'
    | none => none

structure St where
  s : Slots
  h : Heap

/-- Slots' values, as a loop over a function keeps them. -/
def capsOf (s : Slots) : List Nat → Option (List (Nat × AVal))
  | [] => some []
  | t :: r => match sget s t, capsOf s r with
    | some (.val v), some l => some ((t, v) :: l)
    | _, _ => none

def ofCaps : List (Nat × AVal) → Slots
  | [] => []
  | (t, v) :: r => (t, .val v) :: ofCaps r

def setArgs : List Nat → List AVal → Slots → Slots
  | t :: ts, v :: vs, s => setArgs ts vs ((t, .val v) :: s)
  | _, _, s => s

/-- A function is called. -/
def callVal (call : CallSem) (f : AVal) (args : List AVal) (h : Heap) : Option (AVal × Heap) :=
  match f with
  | .func g first caps => call g (first ++ args ++ caps) h
  | _ => none

/-- Behind a loop over a function: how it was left. -/
def loopEnd (s : Slots) (h : Heap) (i : Nat) : Option (AExit × St) :=
  match h.get i with
  | some (.loop _ st p _) => if st = .busy then none else some (p.getD .normal, ⟨s, h.put i .dead⟩)
  | _ => none

def loopN (f : St → Option (AExit × St)) : Nat → St → Option (AExit × St)
  | 0, _ => none
  | n + 1, st => match f st with
    | some (.normal, st') => loopN f n st'
    | r => r

def evCode (call : CallSem) (n : Nat) : ACode → St → Option (AExit × St)
  | .skip, st => some (.normal, st)
  | .region gs, st => (evSegs call gs st.s st.h).map fun (s, h) => (.normal, ⟨s, h⟩)
  | .seq a b, st => match evCode call n a st with
    | some (.normal, st') => evCode call n b st'
    | r => r
  | .cond c t e, st => match c.ev st.s with
    | some (.bool true) => evCode call n t st
    | some (.bool false) => evCode call n e st
    | _ => none
  | .block id c, st => match evCode call n c st with
    | some (.exit j, st') => if j = id then some (.normal, st') else some (.exit j, st')
    | r => r
  | .loop c, st => loopN (evCode call n c) n st
  | .exit id, st => some (.exit id, st)
  | .ret, st => some (.ret, st)
  | .live l c, st => evCode call n c ⟨keep l st.s, st.h⟩
  | .after c l, st => match evCode call n c st with
    | some (.normal, st') => some (.normal, ⟨keep l st'.s, st'.h⟩)
    | r => r
  | .rangeFunc f g caps _ _ _, st => match f.ev st.s, capsOf st.s caps with
    | some fv, some sl => match callVal call fv [.yield st.h.size] (st.h.push (.loop g .ready none sl)) with
      | some (_, h') => loopEnd st.s h' st.h.size
      | none => none
    | _, _ => none
  | .next _ _, _ => none

/-! ## Stepping through a map: all that may come of it -/

def flatL {α β : Type} (f : α → Option (List β)) : List α → Option (List β)
  | [] => some []
  | x :: r => match f x, flatL f r with
    | some a, some b => some (a ++ b)
    | _, _ => none

/-- A step: any entry that has not come yet; behind the last one the iterator is gone. -/
def nextOuts (d : Option Nat) (x : Opd) (st : St) : Option (List (AExit × St)) :=
  match x.ev st.s with
  | some (.ptr (some (i, 0))) =>
    if st.h.base ≤ i then match st.h.get i with
      | some (.mapIter none _ _ _) => some [(.normal, ⟨setSlot d (.val (.tuple [.bool false])) st.s, st.h.put i .dead⟩)]
      | some (.mapIter (some m) since seen last) => match st.h.get m with
        | some (.map es clock) => if (es.all fun e => decide (e.2.2 < since)) = true ∧ since ≤ last then
            match es.filter fun e => !seen.contains e.2.2 with
            | [] => some [(.normal, ⟨setSlot d (.val (.tuple [.bool false])) st.s, st.h.put i .dead⟩)]
            | l => some (l.map fun e => (.normal, ⟨setSlot d (.val (.tuple [.bool true, e.1, e.2.1])) st.s, st.h.put i (.mapIter (some m) since (seen ++ [e.2.2]) clock)⟩))
          else none
        | _ => none
      | _ => none
    else none
  | _ => none

def loopO (f : St → Option (List (AExit × St))) : Nat → St → Option (List (AExit × St))
  | 0, _ => none
  | n + 1, st => match f st with
    | some l => flatL (fun x => match x.1 with
      | .normal => loopO f n x.2
      | e => some [(e, x.2)]) l
    | none => none

/-- All outcomes. -/
def evOuts (call : CallSem) (n : Nat) : ACode → St → Option (List (AExit × St))
  | .seq a b, st => match evOuts call n a st with
    | some l => flatL (fun x => match x.1 with
      | .normal => evOuts call n b x.2
      | e => some [(e, x.2)]) l
    | none => none
  | .cond c t e, st => match c.ev st.s with
    | some (.bool true) => evOuts call n t st
    | some (.bool false) => evOuts call n e st
    | _ => none
  | .block id c, st => (evOuts call n c st).map fun l => l.map fun x => match x.1 with
    | .exit j => if j = id then (.normal, x.2) else (.exit j, x.2)
    | e => (e, x.2)
  | .loop c, st => loopO (evOuts call n c) n st
  | .live l c, st => evOuts call n c ⟨keep l st.s, st.h⟩
  | .after c l, st => (evOuts call n c st).map fun ys => ys.map fun x => match x.1 with
    | .normal => (.normal, ⟨keep l x.2.s, x.2.h⟩)
    | e => (e, x.2)
  | .next d x, st => nextOuts d x st
  | c, st => (evCode call n c st).map fun x => [x]

/-! ## What a call leaves behind -/

mutual
/-- Are all objects' numbers below n? -/
def AVal.under (n : Nat) : AVal → Bool
  | .ptr (some (i, _)) => i < n
  | .slice (some (i, _)) _ _ => i < n
  | .map (some i) => i < n
  | .yield i => i < n
  | .func _ f c => AVal.unders n f && AVal.unders n c
  | .iface _ v => v.under n
  | .agg cs => AVal.unders n cs
  | .tuple vs => AVal.unders n vs
  | _ => true
def AVal.unders (n : Nat) : List AVal → Bool
  | [] => true
  | v :: r => v.under n && AVal.unders n r
end

/-- The new objects that can be reached, in the order in which they are met. -/
def reach (h : Heap) (n0 : Nat) : Nat → List Nat → List Nat → List Nat
  | 0, _, acc => acc
  | _ + 1, [], acc => acc
  | f + 1, i :: r, acc =>
    if i < n0 then reach h n0 f r acc
    else if acc.contains i then reach h n0 f r acc
    else reach h n0 f (((h.get i).map AObj.ids).getD [] ++ r) (acc ++ [i])

def idxIn (i : Nat) : List Nat → Nat
  | [] => 0
  | j :: r => if j = i then 0 else idxIn i r + 1

/-- Behind a call that wrote to nothing that was there: what it made and can't be reached is gone, what can be reached stands in order. -/
def finish (h0 : Heap) (v : AVal) (h : Heap) : AVal × Heap :=
  if h.wmin < h0.size then (v, { h with wmin := min h0.wmin h.wmin })
  else if v.under h0.size then (v, h0)
  else
    let k := reach h h0.size 1000 v.ids []
    let ok := (v.ids ++ k.flatMap fun i => ((h.get i).map AObj.ids).getD []).all fun i => i < h0.size || k.contains i
    let f := fun i => if i < h0.size then i else h0.size + idxIn i k
    if ok then (v.ren f, { h0 with objs := h0.objs ++ k.map fun i => ((h.get i).map (AObj.ren f)).getD .dead })
    else (v, { h with wmin := h0.wmin })

def enter (i : Nat) : List AVal → Slots
  | [] => []
  | v :: r => (i, .val v) :: enter (i + 1) r

def result1 (s : Slots) (h : Heap) : ARes → Option AVal
  | .tmp t => match sget s t with
    | some (.val v) => some v
    | _ => none
  | .cell t n => match (Opd.tmp t).adr s with
    | some a => loadAt s h a n
    | none => none

def resultsL (s : Slots) (h : Heap) : List ARes → Option (List AVal)
  | [] => some []
  | x :: r => match result1 s h x, resultsL s h r with
    | some v, some vs => some (v :: vs)
    | _, _ => none

def tupled : List AVal → AVal
  | [v] => v
  | vs => .tuple vs

/-- A function's end. -/
def funcEnd (f : AFunc) (h : Heap) : AExit × St → Option (AVal × Heap)
  | (.normal, st) | (.ret, st) => (resultsL st.s st.h f.results).map fun vs => finish h (tupled vs) st.h
  | _ => none

mutual
def AVal.eqb : AVal → AVal → Bool
  | .bool a, .bool b => a == b
  | .int k n, .int k' n' => decide (k = k') && decide (n = n')
  | .str a, .str b => decide (a = b)
  | .ptr a, .ptr b => decide (a = b)
  | .slice a n c, .slice a' n' c' => decide (a = a') && decide (n = n') && decide (c = c')
  | .map a, .map b => decide (a = b)
  | .func g f c, .func g' f' c' => decide (g = g') && AVal.eqbL f f' && AVal.eqbL c c'
  | .nilFunc, .nilFunc => true
  | .iface t v, .iface t' v' => decide (t = t') && v.eqb v'
  | .nilIface, .nilIface => true
  | .agg a, .agg b => AVal.eqbL a b
  | .tuple a, .tuple b => AVal.eqbL a b
  | .yield a, .yield b => decide (a = b)
  | _, _ => false
def AVal.eqbL : List AVal → List AVal → Bool
  | [], [] => true
  | a :: r, b :: r' => a.eqb b && AVal.eqbL r r'
  | _, _ => false
end

def eqbE : List (AVal × AVal × Nat) → List (AVal × AVal × Nat) → Bool
  | [], [] => true
  | (k, v, b) :: r, (k', v', b') :: r' => k.eqb k' && v.eqb v' && decide (b = b') && eqbE r r'
  | _, _ => false

def eqbS : List (Nat × AVal) → List (Nat × AVal) → Bool
  | [], [] => true
  | (t, v) :: r, (t', v') :: r' => decide (t = t') && v.eqb v' && eqbS r r'
  | _, _ => false

def AObj.eqb : AObj → AObj → Bool
  | .dead, .dead => true
  | .cells e a, .cells e' b => decide (e = e') && AVal.eqbL a b
  | .map a c, .map b c' => eqbE a b && decide (c = c')
  | .iter s p, .iter s' p' => decide (s = s') && decide (p = p')
  | .mapIter m a b c, .mapIter m' a' b' c' => decide (m = m') && decide (a = a') && decide (b = b') && decide (c = c')
  | .loop g s p l, .loop g' s' p' l' => decide (g = g') && decide (s = s') && decide (p = p') && eqbS l l'
  | _, _ => false

def eqbO : List AObj → List AObj → Bool
  | [], [] => true
  | a :: r, b :: r' => a.eqb b && eqbO r r'
  | _, _ => false

def eqbR (x y : AVal × Heap) : Bool := x.1.eqb y.1 && eqbO x.2.objs y.2.objs && decide (x.2.base = y.2.base) && decide (x.2.wmin = y.2.wmin)

/-- What all of them are. -/
def allSame : List (Option (AVal × Heap)) → Option (AVal × Heap)
  | some x :: r => if (r.all fun y => match y with | some y => eqbR x y | none => false) = true then some x else none
  | _ => none

def evFunc (call : CallSem) (n : Nat) (f : AFunc) (args : List AVal) (h : Heap) : Option (AVal × Heap) :=
  if args.length = f.nargs then
    if f.wild then match evOuts call n f.body ⟨enter 0 args, { h with wmin := h.size }⟩ with
      | some l => allSame (l.map (funcEnd f h))
      | none => none
    else match evCode call n f.body ⟨enter 0 args, { h with wmin := h.size }⟩ with
      | some x => funcEnd f h x
      | none => none
  else none

/-- The first half of a round: yield's arguments are laid, the record is ready. -/
def roundIn (g i : Nat) : Option (AExit × St) → Option St
  | some (.normal, st) => match st.h.get i with
    | some (.loop g' .ready p sl) => if g' = g then some ⟨st.s, st.h.put i (.loop g .busy p sl)⟩ else none
    | _ => none
  | _ => none

/-- A round's end: the record is ready anew, or tells how the loop is left. -/
def roundOut (h0 : Heap) (g i : Nat) : Option (AExit × St) → Option (AVal × Heap)
  | some (e, st) => match st.h.get i with
    | some (.loop g' _ _ sl) => if g' = g then some (finish h0 (.bool (decide (e = .normal))) (st.h.put i (.loop g (if e = .normal then .ready else .done) (if e = .normal then none else some e) sl))) else none
    | _ => none
  | none => none

def roundSlots (i : Nat) (ps : List Nat) (args : List AVal) (h : Heap) : Option Slots :=
  match h.get i with
  | some (.loop _ _ _ sl) => some (setArgs ps args (ofCaps sl))
  | _ => none

/-- A round of a loop over a function: yield is called. -/
def evRound (call : CallSem) (n g : Nat) (r : ARound) (args : List AVal) (h : Heap) : Option (AVal × Heap) :=
  match args with
  | .ptr (some (i, _)) :: as =>
    if as.length = r.params.length ∧ h.base ≤ i then match roundSlots i r.params as h with
      | some s => match roundIn g i (evCode call n r.assign ⟨s, { h with wmin := h.size }⟩) with
        | some st => roundOut h g i (evCode call n r.body st)
        | none => none
      | none => none
    else none
  | _ => none

/-- A call that neither reads nor makes what is there: it is run in a memory of its own. -/
def evClosed (r : List AVal → Heap → Option (AVal × Heap)) (args : List AVal) (h : Heap) : Option (AVal × Heap) :=
  if AVal.unders 0 args then match r args ⟨[], 0, 0⟩ with
    | some (v, _) => if v.under 0 then some (v, h) else none
    | none => none
  else none

def wrapC (closed : Bool) (r : List AVal → Heap → Option (AVal × Heap)) (args : List AVal) (h : Heap) : Option (AVal × Heap) :=
  if closed then evClosed r args h else r args h

def evCall (T : Nat → Option AFunc) : Nat → CallSem
  | 0 => fun _ _ _ => none
  | n + 1 => fun g args h => match T g with
    | some f => match f.round with
      | some (.round r) => evRound (evCall T n) n g r args h
      | some (.lib f) => (f args h).map fun v => (v, h)
      | none => wrapC f.closed (evFunc (evCall T n) n f) args h
    | none => none

end Go.Abs

/-
  The code of the functions, for the abstract machine: printed by a program.
-/
namespace Go.Abs.AbsHeap
set_option maxRecDepth 100000
/-- gosem.cut.init -/
def code24 : AFunc := ⟨false, false, 0, 1, [],
  .after (.region [⟨false, [], [⟨(some 0), none, .nextStr (.const (.bool false))⟩]⟩]) [], none⟩
def code291L0 : ACode :=
  .live [7, 11, 18, 22, 23, 24, 148, 149] (.seq (.after (.region [⟨false, [], [⟨(some 150), none, .bin .lss (.tmp 149) (.tmp 148)⟩]⟩]) [7, 11, 18, 22, 23, 24, 148, 149, 150])
  (.seq (.after (.cond (.tmp 150) (.skip) (.live [18, 23, 24] (.exit 8))) [7, 11, 18, 22, 23, 24, 148, 149])
  (.seq (.after (.block 9 (.seq (.after (.region [⟨false, [], [⟨(some 151), none, .val (.tmp 149)⟩,
      ⟨(some 25), none, .val (.tmp 151)⟩]⟩]) [7, 11, 18, 22, 23, 24, 25, 148, 149])
  (.seq (.after (.region [⟨false, [], [⟨(some 153), none, .val (.tmp 7)⟩,
      ⟨(some 154), none, .val (.tmp 25)⟩,
      ⟨(some 155), none, .bin .add (.tmp 154) (.const (.int .i64 1))⟩,
      ⟨(some 156), none, .callg 290 [.tmp 153, .tmp 155]⟩,
      ⟨(some 152), none, .val (.tmp 156)⟩,
      ⟨(some 157), none, .extract (.tmp 152) 0⟩,
      ⟨(some 158), none, .extract (.tmp 152) 1⟩,
      ⟨(some 26), none, .val (.tmp 157)⟩,
      ⟨(some 27), none, .val (.tmp 158)⟩]⟩]) [7, 11, 18, 22, 23, 24, 25, 27, 148, 149])
  (.seq (.seq (.after (.region [⟨false, [], [⟨(some 159), none, .val (.tmp 22)⟩,
      ⟨(some 160), none, .val (.tmp 25)⟩,
      ⟨(some 161), none, .bin .add (.tmp 160) (.const (.int .i64 1))⟩,
      ⟨(some 162), none, .iaddr 1 (.tmp 159) (.tmp 161)⟩,
      ⟨(some 163), none, .load none (.tmp 162)⟩,
      ⟨(some 164), none, .val (.tmp 163)⟩,
      ⟨(some 165), (some (164, true)), .val (.tmp 18)⟩,
      ⟨(some 166), (some (164, true)), .val (.tmp 11)⟩,
      ⟨(some 167), (some (164, true)), .bin .eql (.tmp 165) (.tmp 166)⟩,
      ⟨(some 168), none, .pick (.tmp 164) (.tmp 167) (.const (.bool false))⟩,
      ⟨(some 169), none, .val (.tmp 168)⟩,
      ⟨(some 170), (some (169, true)), .val (.tmp 27)⟩,
      ⟨(some 171), (some (169, true)), .bin .neq (.tmp 170) (.const (.int .i64 0))⟩,
      ⟨(some 172), none, .pick (.tmp 169) (.tmp 171) (.const (.bool false))⟩,
      ⟨(some 173), none, .val (.tmp 172)⟩,
      ⟨(some 174), (some (173, false)), .val (.tmp 22)⟩,
      ⟨(some 175), (some (173, false)), .val (.tmp 25)⟩,
      ⟨(some 176), (some (173, false)), .bin .add (.tmp 175) (.const (.int .i64 1))⟩,
      ⟨(some 177), (some (173, false)), .iaddr 1 (.tmp 174) (.tmp 176)⟩,
      ⟨(some 178), (some (173, false)), .load none (.tmp 177)⟩,
      ⟨(some 179), (some (173, false)), .un .not (.tmp 178)⟩,
      ⟨(some 180), (some (173, false)), .val (.tmp 179)⟩,
      ⟨(some 181), (some (180, true)), .val (.tmp 27)⟩,
      ⟨(some 182), (some (180, true)), .bin .neq (.tmp 181) (.const (.int .i64 11))⟩,
      ⟨(some 183), (some (173, false)), .pick (.tmp 180) (.tmp 182) (.const (.bool false))⟩,
      ⟨(some 184), none, .pick (.tmp 173) (.const (.bool true)) (.tmp 183)⟩]⟩]) [7, 11, 18, 22, 23, 24, 27, 148, 149, 184])
  (.after (.cond (.tmp 184) (.seq (.after (.region [⟨false, [], [⟨(some 6), none, .val (.const (.bool false))⟩]⟩]) [6])
  (.live [6] (.ret))) (.skip)) [7, 11, 18, 22, 23, 24, 27, 148, 149]))
  (.seq (.after (.region [⟨false, [], [⟨(some 185), none, .val (.tmp 27)⟩,
      ⟨(some 186), none, .bin .eql (.tmp 185) (.const (.int .i64 0))⟩]⟩]) [7, 11, 18, 22, 23, 24, 148, 149, 186])
  (.after (.cond (.tmp 186) (.after (.region [⟨false, [], [⟨(some 187), none, .val (.tmp 23)⟩,
      ⟨(some 188), none, .bin .add (.tmp 187) (.const (.int .i64 1))⟩,
      ⟨(some 23), none, .val (.tmp 188)⟩]⟩]) [7, 11, 18, 22, 23, 24, 148, 149]) (.skip)) [7, 11, 18, 22, 23, 24, 148, 149])))))) [7, 11, 18, 22, 23, 24, 148, 149])
  (.after (.region [⟨false, [], [⟨(some 189), none, .bin .add (.tmp 149) (.const (.int .i64 1))⟩,
      ⟨(some 149), none, .val (.tmp 189)⟩]⟩]) [7, 11, 18, 22, 23, 24, 148, 149]))))
def code291L1 : ACode :=
  .live [7, 8, 11, 15, 18, 126, 127] (.seq (.after (.region [⟨false, [], [⟨(some 128), none, .bin .lss (.tmp 127) (.tmp 126)⟩]⟩]) [7, 8, 11, 15, 18, 126, 127, 128])
  (.seq (.after (.cond (.tmp 128) (.skip) (.live [7, 8, 11, 15, 18] (.exit 6))) [7, 8, 11, 15, 18, 126, 127])
  (.seq (.after (.block 7 (.seq (.after (.region [⟨false, [], [⟨(some 129), none, .val (.tmp 127)⟩,
      ⟨(some 19), none, .val (.tmp 129)⟩]⟩]) [7, 8, 11, 15, 18, 19, 126, 127])
  (.seq (.after (.region [⟨false, [], [⟨(some 131), none, .val (.tmp 7)⟩,
      ⟨(some 132), none, .val (.tmp 19)⟩,
      ⟨(some 133), none, .bin .add (.tmp 132) (.const (.int .i64 1))⟩,
      ⟨(some 134), none, .callg 290 [.tmp 131, .tmp 133]⟩,
      ⟨(some 130), none, .val (.tmp 134)⟩,
      ⟨(some 135), none, .extract (.tmp 130) 0⟩,
      ⟨(some 136), none, .extract (.tmp 130) 1⟩,
      ⟨(some 20), none, .val (.tmp 135)⟩,
      ⟨(some 21), none, .val (.tmp 136)⟩]⟩]) [7, 8, 11, 15, 18, 21, 126, 127])
  (.seq (.after (.region [⟨false, [], [⟨(some 137), none, .val (.tmp 21)⟩,
      ⟨(some 138), none, .bin .eql (.tmp 137) (.const (.int .i64 0))⟩]⟩]) [7, 8, 11, 15, 18, 126, 127, 138])
  (.after (.cond (.tmp 138) (.after (.region [⟨false, [], [⟨(some 139), none, .val (.tmp 18)⟩,
      ⟨(some 140), none, .bin .add (.tmp 139) (.const (.int .i64 1))⟩,
      ⟨(some 18), none, .val (.tmp 140)⟩]⟩]) [7, 8, 11, 15, 18, 126, 127]) (.skip)) [7, 8, 11, 15, 18, 126, 127]))))) [7, 8, 11, 15, 18, 126, 127])
  (.after (.region [⟨false, [], [⟨(some 141), none, .bin .add (.tmp 127) (.const (.int .i64 1))⟩,
      ⟨(some 127), none, .val (.tmp 141)⟩]⟩]) [7, 8, 11, 15, 18, 126, 127]))))
def code291L2 : ACode :=
  .live [7, 8, 11, 15, 107, 108, 109] (.seq (.after (.region [⟨false, [], [⟨(some 110), none, .bin .lss (.tmp 109) (.tmp 108)⟩]⟩]) [7, 8, 11, 15, 107, 108, 109, 110])
  (.seq (.after (.cond (.tmp 110) (.skip) (.live [7, 8, 11, 15] (.exit 4))) [7, 8, 11, 15, 107, 108, 109])
  (.seq (.after (.block 5 (.seq (.after (.region [⟨false, [], [⟨(some 111), none, .iaddr 1 (.tmp 107) (.tmp 109)⟩,
      ⟨(some 112), none, .load none (.tmp 111)⟩,
      ⟨(some 17), none, .val (.tmp 112)⟩]⟩]) [7, 8, 11, 15, 17, 107, 108, 109])
  (.after (.region [⟨false, [], [⟨(some 113), none, .val (.tmp 15)⟩,
      ⟨(some 114), none, .val (.tmp 17)⟩,
      ⟨(some 115), none, .conv (.int .i64) (.tmp 114)⟩,
      ⟨(some 116), none, .val (.tmp 11)⟩,
      ⟨(some 117), none, .bin .add (.tmp 116) (.const (.int .i64 2))⟩,
      ⟨(some 118), none, .bin .rem (.tmp 115) (.tmp 117)⟩,
      ⟨(some 119), none, .val (.tmp 17)⟩,
      ⟨(some 120), none, .bin .rem (.tmp 119) (.const (.int .u8 5))⟩,
      ⟨(some 121), none, .bin .gtr (.tmp 120) (.const (.int .u8 0))⟩,
      ⟨(some 122), none, .build [.int .i64 0, .bool false] [(0, 1, .tmp 118), (1, 1, .tmp 121)]⟩,
      ⟨(some 123), none, .mkslice 2 1 [.int .i64 0, .bool false] [(0, 2, .tmp 122)]⟩,
      ⟨(some 124), none, .append 2 16 (.tmp 113) (.tmp 123)⟩,
      ⟨(some 15), none, .val (.tmp 124)⟩]⟩]) [7, 8, 11, 15, 107, 108, 109]))) [7, 8, 11, 15, 107, 108, 109])
  (.after (.region [⟨false, [], [⟨(some 125), none, .bin .add (.tmp 109) (.const (.int .i64 1))⟩,
      ⟨(some 109), none, .val (.tmp 125)⟩]⟩]) [7, 8, 11, 15, 107, 108, 109]))))
def code291L3 : ACode :=
  .live [2, 7, 8, 11, 70, 71, 72] (.seq (.after (.region [⟨false, [], [⟨(some 73), none, .bin .lss (.tmp 72) (.tmp 71)⟩]⟩]) [2, 7, 8, 11, 70, 71, 72, 73])
  (.seq (.after (.cond (.tmp 73) (.skip) (.live [2, 7, 8, 11] (.exit 2))) [2, 7, 8, 11, 70, 71, 72])
  (.seq (.after (.block 3 (.seq (.after (.region [⟨false, [], [⟨(some 74), none, .val (.tmp 72)⟩,
      ⟨(some 75), none, .iaddr 1 (.tmp 70) (.tmp 72)⟩,
      ⟨(some 76), none, .load none (.tmp 75)⟩,
      ⟨(some 12), none, .val (.tmp 74)⟩,
      ⟨(some 13), none, .val (.tmp 76)⟩]⟩]) [2, 7, 8, 11, 12, 13, 70, 71, 72])
  (.seq (.after (.region [⟨false, [], [⟨(some 77), none, .val (.tmp 13)⟩,
      ⟨(some 78), none, .conv (.int .i64) (.tmp 77)⟩,
      ⟨(some 79), none, .val (.tmp 11)⟩,
      ⟨(some 80), none, .bin .rem (.tmp 78) (.tmp 79)⟩,
      ⟨(some 81), none, .bin .add (.const (.int .i64 1)) (.tmp 80)⟩,
      ⟨(some 82), none, .val (.tmp 13)⟩,
      ⟨(some 83), none, .bin .rem (.tmp 82) (.const (.int .u8 7))⟩,
      ⟨(some 84), none, .bin .gtr (.tmp 83) (.const (.int .u8 0))⟩,
      ⟨(some 85), none, .build [.int .i64 0, .bool false] [(0, 1, .tmp 81), (1, 1, .tmp 84)]⟩,
      ⟨(some 14), none, .lalloc [.int .i64 0, .bool false]⟩,
      ⟨none, none, .store 2 (.tmp 14) (.tmp 85)⟩]⟩]) [2, 7, 8, 11, 12, 13, 14, 70, 71, 72])
  (.seq (.after (.region [⟨true, [], [⟨(some 86), none, .val (.tmp 7)⟩,
      ⟨(some 87), none, .val (.tmp 12)⟩,
      ⟨(some 88), none, .val (.tmp 11)⟩,
      ⟨(some 89), none, .bin .rem (.tmp 87) (.tmp 88)⟩,
      ⟨(some 90), none, .bin .add (.const (.int .i64 1)) (.tmp 89)⟩,
      ⟨(some 91), none, .val (.tmp 13)⟩,
      ⟨(some 92), none, .conv (.int .i64) (.tmp 91)⟩,
      ⟨(some 93), none, .bin .rem (.tmp 92) (.const (.int .i64 5))⟩,
      ⟨(some 94), none, .load (some 2) (.tmp 14)⟩]⟩, ⟨false, [], [⟨(some 95), none, .callg 100295 [.tmp 86, .tmp 90, .tmp 93, .tmp 94]⟩]⟩]) [2, 7, 8, 11, 12, 13, 14, 70, 71, 72])
  (.after (.region [⟨true, [], [⟨(some 96), none, .val (.tmp 8)⟩,
      ⟨(some 97), none, .val (.tmp 12)⟩,
      ⟨(some 98), none, .val (.tmp 11)⟩,
      ⟨(some 99), none, .bin .rem (.tmp 97) (.tmp 98)⟩,
      ⟨(some 100), none, .bin .add (.const (.int .i64 1)) (.tmp 99)⟩,
      ⟨(some 101), none, .val (.tmp 13)⟩,
      ⟨(some 102), none, .conv (.int .i64) (.tmp 101)⟩,
      ⟨(some 103), none, .bin .rem (.tmp 102) (.const (.int .i64 5))⟩,
      ⟨(some 104), none, .load (some 2) (.tmp 14)⟩]⟩, ⟨false, [], [⟨(some 105), none, .callg 294 [.tmp 96, .tmp 100, .tmp 103, .tmp 104]⟩]⟩]) [2, 7, 8, 11, 70, 71, 72]))))) [2, 7, 8, 11, 70, 71, 72])
  (.after (.region [⟨false, [], [⟨(some 106), none, .bin .add (.tmp 72) (.const (.int .i64 1))⟩,
      ⟨(some 72), none, .val (.tmp 106)⟩]⟩]) [2, 7, 8, 11, 70, 71, 72]))))
def code291L4 : ACode :=
  .live [0, 1, 2, 7, 8, 46, 47, 48] (.seq (.after (.region [⟨false, [], [⟨(some 49), none, .bin .lss (.tmp 48) (.tmp 47)⟩]⟩]) [0, 1, 2, 7, 8, 46, 47, 48, 49])
  (.seq (.after (.cond (.tmp 49) (.skip) (.live [0, 1, 2, 7, 8] (.exit 0))) [0, 1, 2, 7, 8, 46, 47, 48])
  (.seq (.after (.block 1 (.seq (.after (.region [⟨false, [], [⟨(some 50), none, .iaddr 1 (.tmp 46) (.tmp 48)⟩,
      ⟨(some 51), none, .load none (.tmp 50)⟩,
      ⟨(some 10), none, .val (.tmp 51)⟩]⟩]) [0, 1, 2, 7, 8, 10, 46, 47, 48])
  (.seq (.after (.region [⟨false, [], [⟨(some 52), none, .val (.tmp 7)⟩,
      ⟨(some 53), none, .val (.tmp 10)⟩,
      ⟨(some 54), none, .bin .rem (.tmp 53) (.const (.int .u8 5))⟩,
      ⟨(some 55), none, .conv (.int .i64) (.tmp 54)⟩,
      ⟨(some 56), none, .callg 297 [.tmp 52, .const (.int .i64 0), .tmp 55, .const (.slice none 0 (some 0))]⟩]⟩]) [0, 1, 2, 7, 8, 10, 46, 47, 48])
  (.after (.region [⟨false, [], [⟨(some 57), none, .val (.tmp 8)⟩,
      ⟨(some 58), none, .val (.tmp 10)⟩,
      ⟨(some 59), none, .bin .rem (.tmp 58) (.const (.int .u8 5))⟩,
      ⟨(some 60), none, .conv (.int .i64) (.tmp 59)⟩,
      ⟨(some 61), none, .callg 296 [.tmp 57, .const (.int .i64 0), .const (.str []), .tmp 60, .const (.slice none 0 (some 0))]⟩]⟩]) [0, 1, 2, 7, 8, 46, 47, 48])))) [0, 1, 2, 7, 8, 46, 47, 48])
  (.after (.region [⟨false, [], [⟨(some 62), none, .bin .add (.tmp 48) (.const (.int .i64 1))⟩,
      ⟨(some 48), none, .val (.tmp 62)⟩]⟩]) [0, 1, 2, 7, 8, 46, 47, 48]))))
/-- carpetbag.carpetbaglaw27.HeapCollects -/
def code291 : AFunc := ⟨false, false, 3, 195, [.tmp 6],
  .seq (.after (.region [⟨false, [], [⟨(some 6), none, .val (.const (.bool false))⟩]⟩]) [0, 1, 2])
  (.seq (.seq (.after (.region [⟨false, [], [⟨(some 28), none, .callg 299 []⟩,
      ⟨(some 29), none, .un .not (.tmp 28)⟩]⟩]) [0, 1, 2, 29])
  (.after (.cond (.tmp 29) (.seq (.after (.region [⟨false, [], [⟨(some 6), none, .val (.const (.bool false))⟩]⟩]) [6])
  (.live [6] (.ret))) (.skip)) [0, 1, 2]))
  (.seq (.seq (.after (.region [⟨false, [], [⟨(some 30), none, .val (.tmp 0)⟩,
      ⟨(some 31), none, .len .sl (.tmp 30)⟩,
      ⟨(some 32), none, .bin .gtr (.tmp 31) (.const (.int .i64 30))⟩,
      ⟨(some 33), none, .val (.tmp 32)⟩,
      ⟨(some 34), (some (33, false)), .val (.tmp 1)⟩,
      ⟨(some 35), (some (33, false)), .len .sl (.tmp 34)⟩,
      ⟨(some 36), (some (33, false)), .bin .gtr (.tmp 35) (.const (.int .i64 60))⟩,
      ⟨(some 37), none, .pick (.tmp 33) (.const (.bool true)) (.tmp 36)⟩,
      ⟨(some 38), none, .val (.tmp 37)⟩,
      ⟨(some 39), (some (38, false)), .val (.tmp 2)⟩,
      ⟨(some 40), (some (38, false)), .len .sl (.tmp 39)⟩,
      ⟨(some 41), (some (38, false)), .bin .gtr (.tmp 40) (.const (.int .i64 30))⟩,
      ⟨(some 42), none, .pick (.tmp 38) (.const (.bool true)) (.tmp 41)⟩]⟩]) [0, 1, 2, 42])
  (.after (.cond (.tmp 42) (.seq (.after (.region [⟨false, [], [⟨(some 6), none, .val (.const (.bool true))⟩]⟩]) [6])
  (.live [6] (.ret))) (.skip)) [0, 1, 2]))
  (.seq (.after (.region [⟨false, [], [⟨(some 43), none, .callg 298 [.const (.int .i64 100000)]⟩,
      ⟨(some 44), none, .build [.int .i64 0, .slice none 0 (some 0)] [(0, 1, .const (.int .i64 100000))]⟩,
      ⟨(some 45), none, .box (.tmp 44)⟩,
      ⟨(some 7), none, .val (.tmp 43)⟩,
      ⟨(some 8), none, .val (.tmp 45)⟩]⟩]) [0, 1, 2, 7, 8])
  (.seq (.seq (.after (.region [⟨false, [], [⟨(some 46), none, .val (.tmp 0)⟩,
      ⟨(some 47), none, .len .sl (.tmp 46)⟩,
      ⟨(some 48), none, .val (.const (.int .i64 0))⟩]⟩]) [0, 1, 2, 7, 8, 46, 47, 48])
  (.after (.block 0 (.loop code291L4)) [0, 1, 2, 7, 8]))
  (.seq (.after (.region [⟨false, [], [⟨(some 63), none, .val (.tmp 0)⟩,
      ⟨(some 64), none, .len .sl (.tmp 63)⟩,
      ⟨(some 11), none, .val (.tmp 64)⟩]⟩]) [1, 2, 7, 8, 11])
  (.seq (.seq (.after (.region [⟨false, [], [⟨(some 65), none, .val (.tmp 11)⟩,
      ⟨(some 66), none, .bin .eql (.tmp 65) (.const (.int .i64 0))⟩]⟩]) [1, 2, 7, 8, 11, 66])
  (.after (.cond (.tmp 66) (.seq (.after (.region [⟨false, [], [⟨(some 67), none, .val (.tmp 7)⟩,
      ⟨(some 68), none, .callg 292 [.tmp 67, .const (.slice none 0 (some 0))]⟩,
      ⟨(some 69), none, .bin .eql (.tmp 68) (.const (.int .i64 0))⟩,
      ⟨(some 6), none, .val (.tmp 69)⟩]⟩]) [6])
  (.live [6] (.ret))) (.skip)) [1, 2, 7, 8, 11]))
  (.seq (.seq (.after (.region [⟨false, [], [⟨(some 70), none, .val (.tmp 1)⟩,
      ⟨(some 71), none, .len .sl (.tmp 70)⟩,
      ⟨(some 72), none, .val (.const (.int .i64 0))⟩]⟩]) [2, 7, 8, 11, 70, 71, 72])
  (.after (.block 2 (.loop code291L3)) [2, 7, 8, 11]))
  (.seq (.after (.region [⟨false, [], [⟨(some 15), none, .val (.const (.slice none 0 (some 0)))⟩]⟩]) [2, 7, 8, 11, 15])
  (.seq (.seq (.after (.region [⟨false, [], [⟨(some 107), none, .val (.tmp 2)⟩,
      ⟨(some 108), none, .len .sl (.tmp 107)⟩,
      ⟨(some 109), none, .val (.const (.int .i64 0))⟩]⟩]) [7, 8, 11, 15, 107, 108, 109])
  (.after (.block 4 (.loop code291L2)) [7, 8, 11, 15]))
  (.seq (.after (.region [⟨false, [], [⟨(some 18), none, .val (.const (.int .i64 0))⟩]⟩]) [7, 8, 11, 15, 18])
  (.seq (.seq (.after (.region [⟨false, [], [⟨(some 126), none, .val (.tmp 11)⟩,
      ⟨(some 127), none, .val (.const (.int .i64 0))⟩]⟩]) [7, 8, 11, 15, 18, 126, 127])
  (.after (.block 6 (.loop code291L1)) [7, 8, 11, 15, 18]))
  (.seq (.after (.region [⟨false, [], [⟨(some 142), none, .val (.tmp 8)⟩,
      ⟨(some 143), none, .val (.tmp 15)⟩,
      ⟨(some 144), none, .callg 293 [.tmp 142, .tmp 143]⟩,
      ⟨(some 22), none, .val (.tmp 144)⟩,
      ⟨(some 23), none, .val (.const (.int .i64 0))⟩]⟩]) [7, 11, 15, 18, 22, 23])
  (.seq (.after (.region [⟨false, [], [⟨(some 145), none, .val (.tmp 7)⟩,
      ⟨(some 146), none, .val (.tmp 15)⟩,
      ⟨(some 147), none, .callg 292 [.tmp 145, .tmp 146]⟩,
      ⟨(some 24), none, .val (.tmp 147)⟩]⟩]) [7, 11, 18, 22, 23, 24])
  (.seq (.seq (.after (.region [⟨false, [], [⟨(some 148), none, .val (.tmp 11)⟩,
      ⟨(some 149), none, .val (.const (.int .i64 0))⟩]⟩]) [7, 11, 18, 22, 23, 24, 148, 149])
  (.after (.block 8 (.loop code291L0)) [18, 23, 24]))
  (.seq (.after (.region [⟨false, [], [⟨(some 190), none, .val (.tmp 24)⟩,
      ⟨(some 191), none, .val (.tmp 18)⟩,
      ⟨(some 192), none, .val (.tmp 23)⟩,
      ⟨(some 193), none, .bin .sub (.tmp 191) (.tmp 192)⟩,
      ⟨(some 194), none, .bin .eql (.tmp 190) (.tmp 193)⟩,
      ⟨(some 6), none, .val (.tmp 194)⟩]⟩]) [6])
  (.live [6] (.ret))))))))))))))))), none⟩
/-- carpetbag.carpetbaglaw27.HeapPlays -/
def code301 : AFunc := ⟨false, false, 2, 21, [.tmp 4],
  .seq (.after (.region [⟨false, [], [⟨(some 4), none, .val (.const (.bool false))⟩]⟩]) [0, 1])
  (.seq (.seq (.after (.region [⟨false, [], [⟨(some 5), none, .callg 299 []⟩,
      ⟨(some 6), none, .un .not (.tmp 5)⟩]⟩]) [0, 1, 6])
  (.after (.cond (.tmp 6) (.seq (.after (.region [⟨false, [], [⟨(some 4), none, .val (.const (.bool false))⟩]⟩]) [4])
  (.live [4] (.ret))) (.skip)) [0, 1]))
  (.seq (.seq (.after (.region [⟨false, [], [⟨(some 7), none, .val (.tmp 1)⟩,
      ⟨(some 8), none, .len .sl (.tmp 7)⟩,
      ⟨(some 9), none, .bin .gtr (.tmp 8) (.const (.int .i64 60))⟩]⟩]) [0, 1, 9])
  (.after (.cond (.tmp 9) (.seq (.after (.region [⟨false, [], [⟨(some 4), none, .val (.const (.bool true))⟩]⟩]) [4])
  (.live [4] (.ret))) (.skip)) [0, 1]))
  (.seq (.after (.region [⟨false, [], [⟨(some 10), none, .val (.tmp 0)⟩,
      ⟨(some 11), none, .bin .rem (.tmp 10) (.const (.int .u16 400))⟩,
      ⟨(some 12), none, .conv (.int .i64) (.tmp 11)⟩,
      ⟨(some 13), none, .callg 298 [.tmp 12]⟩,
      ⟨(some 14), none, .val (.tmp 0)⟩,
      ⟨(some 15), none, .bin .rem (.tmp 14) (.const (.int .u16 400))⟩,
      ⟨(some 16), none, .conv (.int .i64) (.tmp 15)⟩,
      ⟨(some 17), none, .build [.int .i64 0, .slice none 0 (some 0)] [(0, 1, .tmp 16)]⟩,
      ⟨(some 18), none, .box (.tmp 17)⟩,
      ⟨(some 19), none, .val (.tmp 1)⟩,
      ⟨(some 20), none, .callg 300 [.tmp 13, .tmp 18, .tmp 19, .const (.bool true)]⟩,
      ⟨(some 4), none, .val (.tmp 20)⟩]⟩]) [4])
  (.live [4] (.ret))))), none⟩
/-- carpetbag.carpetbaglaw27.HeapKeeps -/
def code302 : AFunc := ⟨false, false, 2, 21, [.tmp 4],
  .seq (.after (.region [⟨false, [], [⟨(some 4), none, .val (.const (.bool false))⟩]⟩]) [0, 1])
  (.seq (.seq (.after (.region [⟨false, [], [⟨(some 5), none, .callg 299 []⟩,
      ⟨(some 6), none, .un .not (.tmp 5)⟩]⟩]) [0, 1, 6])
  (.after (.cond (.tmp 6) (.seq (.after (.region [⟨false, [], [⟨(some 4), none, .val (.const (.bool false))⟩]⟩]) [4])
  (.live [4] (.ret))) (.skip)) [0, 1]))
  (.seq (.seq (.after (.region [⟨false, [], [⟨(some 7), none, .val (.tmp 1)⟩,
      ⟨(some 8), none, .len .sl (.tmp 7)⟩,
      ⟨(some 9), none, .bin .gtr (.tmp 8) (.const (.int .i64 60))⟩]⟩]) [0, 1, 9])
  (.after (.cond (.tmp 9) (.seq (.after (.region [⟨false, [], [⟨(some 4), none, .val (.const (.bool true))⟩]⟩]) [4])
  (.live [4] (.ret))) (.skip)) [0, 1]))
  (.seq (.after (.region [⟨false, [], [⟨(some 10), none, .val (.tmp 0)⟩,
      ⟨(some 11), none, .bin .rem (.tmp 10) (.const (.int .u16 400))⟩,
      ⟨(some 12), none, .conv (.int .i64) (.tmp 11)⟩,
      ⟨(some 13), none, .callg 298 [.tmp 12]⟩,
      ⟨(some 14), none, .val (.tmp 0)⟩,
      ⟨(some 15), none, .bin .rem (.tmp 14) (.const (.int .u16 400))⟩,
      ⟨(some 16), none, .conv (.int .i64) (.tmp 15)⟩,
      ⟨(some 17), none, .build [.int .i64 0, .slice none 0 (some 0)] [(0, 1, .tmp 16)]⟩,
      ⟨(some 18), none, .box (.tmp 17)⟩,
      ⟨(some 19), none, .val (.tmp 1)⟩,
      ⟨(some 20), none, .callg 300 [.tmp 13, .tmp 18, .tmp 19, .const (.bool false)]⟩,
      ⟨(some 4), none, .val (.tmp 20)⟩]⟩]) [4])
  (.live [4] (.ret))))), none⟩
/-- carpetbag.carpetbaglaw27.HeapOdd -/
def code307 : AFunc := ⟨false, false, 6, 178, [.tmp 12],
  .seq (.after (.region [⟨false, [], [⟨(some 10), none, .lbox (.tmp 4)⟩,
      ⟨(some 12), none, .val (.const (.bool false))⟩]⟩]) [0, 1, 2, 3, 5, 10])
  (.seq (.seq (.after (.region [⟨false, [], [⟨(some 34), none, .callg 299 []⟩,
      ⟨(some 35), none, .un .not (.tmp 34)⟩]⟩]) [0, 1, 2, 3, 5, 10, 35])
  (.after (.cond (.tmp 35) (.seq (.after (.region [⟨false, [], [⟨(some 12), none, .val (.const (.bool false))⟩]⟩]) [12])
  (.live [12] (.ret))) (.skip)) [0, 1, 2, 3, 5, 10]))
  (.seq (.seq (.after (.region [⟨false, [], [⟨(some 36), none, .val (.tmp 5)⟩,
      ⟨(some 37), none, .len .str (.tmp 36)⟩,
      ⟨(some 38), none, .bin .gtr (.tmp 37) (.const (.int .i64 100))⟩,
      ⟨(some 39), none, .val (.tmp 38)⟩,
      ⟨(some 40), (some (39, false)), .val (.tmp 1)⟩,
      ⟨(some 41), (some (39, false)), .bin .gtr (.tmp 40) (.const (.int .i64 100000))⟩,
      ⟨(some 42), (some (39, false)), .val (.tmp 41)⟩,
      ⟨(some 43), (some (42, true)), .val (.tmp 1)⟩,
      ⟨(some 44), (some (42, true)), .bin .lss (.tmp 43) (.const (.int .i64 2199023255552))⟩,
      ⟨(some 45), (some (39, false)), .pick (.tmp 42) (.tmp 44) (.const (.bool false))⟩,
      ⟨(some 46), none, .pick (.tmp 39) (.const (.bool true)) (.tmp 45)⟩]⟩]) [0, 1, 2, 3, 5, 10, 46])
  (.after (.cond (.tmp 46) (.seq (.after (.region [⟨false, [], [⟨(some 12), none, .val (.const (.bool true))⟩]⟩]) [12])
  (.live [12] (.ret))) (.skip)) [0, 1, 2, 3, 5, 10]))
  (.seq (.after (.region [⟨false, [], [⟨(some 47), none, .val (.tmp 0)⟩,
      ⟨(some 48), none, .minmax false [.tmp 47, .const (.int .i64 200)]⟩,
      ⟨(some 49), none, .callg 298 [.tmp 48]⟩,
      ⟨(some 13), none, .val (.tmp 49)⟩]⟩]) [0, 1, 2, 3, 5, 10, 13])
  (.seq (.after (.region [⟨false, [], [⟨(some 51), none, .val (.tmp 13)⟩,
      ⟨(some 52), none, .val (.tmp 2)⟩,
      ⟨(some 53), none, .val (.tmp 3)⟩,
      ⟨(some 54), none, .callg 304 [.tmp 51, .tmp 52, .tmp 53]⟩,
      ⟨(some 50), none, .val (.tmp 54)⟩,
      ⟨(some 55), none, .extract (.tmp 50) 0⟩,
      ⟨(some 56), none, .extract (.tmp 50) 1⟩,
      ⟨(some 14), none, .lalloc [.int .i64 0, .bool false]⟩,
      ⟨none, none, .store 2 (.tmp 14) (.tmp 55)⟩,
      ⟨(some 15), none, .val (.tmp 56)⟩]⟩]) [0, 1, 2, 3, 5, 10, 13, 15])
  (.seq (.after (.region [⟨false, [], [⟨(some 58), none, .val (.tmp 13)⟩,
      ⟨(some 59), none, .val (.tmp 2)⟩,
      ⟨(some 60), none, .callg 290 [.tmp 58, .tmp 59]⟩,
      ⟨(some 57), none, .val (.tmp 60)⟩,
      ⟨(some 61), none, .extract (.tmp 57) 0⟩,
      ⟨(some 62), none, .extract (.tmp 57) 1⟩,
      ⟨(some 16), none, .val (.tmp 61)⟩,
      ⟨(some 17), none, .val (.tmp 62)⟩]⟩]) [0, 1, 2, 3, 5, 10, 13, 15, 17])
  (.seq (.after (.region [⟨false, [], [⟨(some 64), none, .val (.tmp 13)⟩,
      ⟨(some 65), none, .val (.tmp 2)⟩,
      ⟨(some 66), none, .callg 306 [.tmp 64, .tmp 65]⟩,
      ⟨(some 63), none, .val (.tmp 66)⟩,
      ⟨(some 67), none, .extract (.tmp 63) 0⟩,
      ⟨(some 68), none, .extract (.tmp 63) 1⟩,
      ⟨(some 69), none, .extract (.tmp 63) 2⟩,
      ⟨(some 18), none, .val (.tmp 67)⟩,
      ⟨(some 19), none, .val (.tmp 68)⟩,
      ⟨(some 20), none, .val (.tmp 69)⟩]⟩]) [0, 1, 2, 3, 5, 10, 13, 15, 17, 20])
  (.seq (.after (.region [⟨false, [], [⟨(some 70), none, .val (.tmp 13)⟩,
      ⟨(some 71), none, .val (.tmp 2)⟩,
      ⟨(some 72), none, .val (.tmp 3)⟩,
      ⟨(some 73), none, .load (some 2) (.tmp 10)⟩,
      ⟨(some 74), none, .callg 100295 [.tmp 70, .tmp 71, .tmp 72, .tmp 73]⟩,
      ⟨(some 21), none, .val (.tmp 74)⟩]⟩]) [0, 1, 2, 3, 5, 10, 13, 15, 17, 20, 21])
  (.seq (.after (.region [⟨false, [], [⟨(some 76), none, .val (.tmp 13)⟩,
      ⟨(some 77), none, .val (.tmp 1)⟩,
      ⟨(some 78), none, .load (some 2) (.tmp 10)⟩,
      ⟨(some 79), none, .mkslice 2 1 [.int .i64 0, .bool false] [(0, 2, .tmp 78)]⟩,
      ⟨(some 80), none, .callg 297 [.tmp 76, .const (.int .i64 1), .tmp 77, .tmp 79]⟩,
      ⟨(some 75), none, .val (.tmp 80)⟩,
      ⟨(some 81), none, .extract (.tmp 75) 0⟩,
      ⟨(some 82), none, .extract (.tmp 75) 1⟩,
      ⟨(some 22), none, .val (.tmp 81)⟩,
      ⟨(some 23), none, .val (.tmp 82)⟩]⟩]) [0, 1, 2, 3, 5, 13, 15, 17, 20, 21, 23])
  (.seq (.after (.region [⟨false, [], [⟨(some 84), none, .val (.tmp 13)⟩,
      ⟨(some 85), none, .val (.tmp 5)⟩,
      ⟨(some 86), none, .val (.tmp 1)⟩,
      ⟨(some 87), none, .callg 305 [.tmp 84, .tmp 85, .tmp 86, .const (.slice none 0 (some 0))]⟩,
      ⟨(some 83), none, .val (.tmp 87)⟩,
      ⟨(some 88), none, .extract (.tmp 83) 0⟩,
      ⟨(some 89), none, .extract (.tmp 83) 1⟩,
      ⟨(some 24), none, .val (.tmp 88)⟩,
      ⟨(some 25), none, .val (.tmp 89)⟩]⟩]) [0, 1, 2, 3, 5, 15, 17, 20, 21, 23, 25])
  (.seq (.after (.region [⟨false, [], [⟨(some 26), none, .val (.const (.int .i64 0))⟩,
      ⟨(some 27), none, .val (.const (.int .i64 0))⟩]⟩]) [0, 1, 2, 3, 5, 15, 17, 20, 21, 23, 25, 26, 27])
  (.seq (.seq (.after (.region [⟨false, [], [⟨(some 90), none, .val (.tmp 1)⟩,
      ⟨(some 91), none, .bin .lss (.tmp 90) (.const (.int .i64 0))⟩]⟩]) [0, 1, 2, 3, 5, 15, 17, 20, 21, 23, 25, 26, 27, 91])
  (.after (.cond (.tmp 91) (.after (.region [⟨false, [], [⟨(some 26), none, .val (.const (.int .i64 1))⟩]⟩]) [1, 2, 3, 5, 15, 17, 20, 21, 23, 25, 26, 27]) (.seq (.after (.region [⟨false, [], [⟨(some 92), none, .val (.tmp 1)⟩,
      ⟨(some 93), none, .bin .gtr (.tmp 92) (.const (.int .i64 300))⟩,
      ⟨(some 94), none, .val (.tmp 93)⟩,
      ⟨(some 95), (some (94, false)), .val (.tmp 1)⟩,
      ⟨(some 96), (some (94, false)), .bin .add (.tmp 95) (.const (.int .i64 2))⟩,
      ⟨(some 97), (some (94, false)), .val (.tmp 0)⟩,
      ⟨(some 98), (some (94, false)), .minmax false [.tmp 97, .const (.int .i64 200)]⟩,
      ⟨(some 99), (some (94, false)), .bin .gtr (.tmp 96) (.tmp 98)⟩,
      ⟨(some 100), none, .pick (.tmp 94) (.const (.bool true)) (.tmp 99)⟩]⟩]) [1, 2, 3, 5, 15, 17, 20, 21, 23, 25, 26, 27, 100])
  (.after (.cond (.tmp 100) (.after (.region [⟨false, [], [⟨(some 26), none, .val (.const (.int .i64 10))⟩]⟩]) [1, 2, 3, 5, 15, 17, 20, 21, 23, 25, 26, 27]) (.skip)) [1, 2, 3, 5, 15, 17, 20, 21, 23, 25, 26, 27]))) [1, 2, 3, 5, 15, 17, 20, 21, 23, 25, 26, 27]))
  (.seq (.seq (.after (.region [⟨false, [], [⟨(some 101), none, .val (.tmp 1)⟩,
      ⟨(some 102), none, .bin .lss (.tmp 101) (.const (.int .i64 0))⟩,
      ⟨(some 103), none, .val (.tmp 102)⟩,
      ⟨(some 104), (some (103, false)), .val (.tmp 5)⟩,
      ⟨(some 105), (some (103, false)), .len .str (.tmp 104)⟩,
      ⟨(some 106), (some (103, false)), .bin .eql (.tmp 105) (.const (.int .i64 0))⟩,
      ⟨(some 107), none, .pick (.tmp 103) (.const (.bool true)) (.tmp 106)⟩,
      ⟨(some 108), none, .val (.tmp 107)⟩,
      ⟨(some 109), (some (108, false)), .val (.tmp 5)⟩,
      ⟨(some 110), (some (108, false)), .index (.tmp 109) (.const (.int .i64 0))⟩,
      ⟨(some 111), (some (108, false)), .bin .neq (.tmp 110) (.const (.int .u8 91))⟩,
      ⟨(some 112), none, .pick (.tmp 108) (.const (.bool true)) (.tmp 111)⟩]⟩]) [2, 3, 15, 17, 20, 21, 23, 25, 26, 27, 112])
  (.after (.cond (.tmp 112) (.after (.region [⟨false, [], [⟨(some 27), none, .val (.const (.int .i64 1))⟩]⟩]) [2, 3, 15, 17, 20, 21, 23, 25, 26, 27]) (.skip)) [2, 3, 15, 17, 20, 21, 23, 25, 26, 27]))
  (.seq (.after (.region [⟨false, [], [⟨(some 28), none, .val (.const (.ptr none))⟩]⟩]) [2, 3, 15, 17, 20, 21, 23, 25, 26, 27, 28])
  (.seq (.after (.region [⟨false, [], [⟨(some 114), none, .val (.tmp 28)⟩,
      ⟨(some 115), none, .callg 297 [.tmp 114, .const (.int .i64 0), .const (.int .i64 0), .const (.slice none 0 (some 0))]⟩,
      ⟨(some 113), none, .val (.tmp 115)⟩,
      ⟨(some 116), none, .extract (.tmp 113) 0⟩,
      ⟨(some 117), none, .extract (.tmp 113) 1⟩,
      ⟨(some 29), none, .val (.tmp 116)⟩,
      ⟨(some 30), none, .val (.tmp 117)⟩]⟩]) [2, 3, 15, 17, 20, 21, 23, 25, 26, 27, 28, 30])
  (.seq (.after (.region [⟨false, [], [⟨(some 119), none, .val (.tmp 28)⟩,
      ⟨(some 120), none, .val (.tmp 2)⟩,
      ⟨(some 121), none, .val (.tmp 3)⟩,
      ⟨(some 122), none, .callg 304 [.tmp 119, .tmp 120, .tmp 121]⟩,
      ⟨(some 118), none, .val (.tmp 122)⟩,
      ⟨(some 123), none, .extract (.tmp 118) 0⟩,
      ⟨(some 124), none, .extract (.tmp 118) 1⟩,
      ⟨(some 31), none, .lalloc [.int .i64 0, .bool false]⟩,
      ⟨none, none, .store 2 (.tmp 31) (.tmp 123)⟩,
      ⟨(some 32), none, .val (.tmp 124)⟩]⟩]) [15, 17, 20, 21, 23, 25, 26, 27, 28, 30, 32])
  (.seq (.after (.region [⟨false, [], [⟨(some 33), none, .val (.const (.int .i64 11))⟩]⟩]) [15, 17, 20, 21, 23, 25, 26, 27, 28, 30, 32, 33])
  (.seq (.after (.region [⟨false, [], [⟨(some 125), none, .val (.tmp 15)⟩,
      ⟨(some 126), none, .val (.tmp 33)⟩,
      ⟨(some 127), none, .bin .eql (.tmp 125) (.tmp 126)⟩,
      ⟨(some 128), none, .val (.tmp 127)⟩,
      ⟨(some 129), (some (128, true)), .val (.tmp 17)⟩,
      ⟨(some 130), (some (128, true)), .val (.tmp 33)⟩,
      ⟨(some 131), (some (128, true)), .bin .eql (.tmp 129) (.tmp 130)⟩,
      ⟨(some 132), none, .pick (.tmp 128) (.tmp 131) (.const (.bool false))⟩,
      ⟨(some 133), none, .val (.tmp 132)⟩,
      ⟨(some 134), (some (133, true)), .val (.tmp 20)⟩,
      ⟨(some 135), (some (133, true)), .val (.tmp 33)⟩,
      ⟨(some 136), (some (133, true)), .bin .eql (.tmp 134) (.tmp 135)⟩,
      ⟨(some 137), none, .pick (.tmp 133) (.tmp 136) (.const (.bool false))⟩,
      ⟨(some 138), none, .val (.tmp 137)⟩,
      ⟨(some 139), (some (138, true)), .val (.tmp 21)⟩,
      ⟨(some 140), (some (138, true)), .val (.tmp 33)⟩,
      ⟨(some 141), (some (138, true)), .bin .eql (.tmp 139) (.tmp 140)⟩,
      ⟨(some 142), none, .pick (.tmp 138) (.tmp 141) (.const (.bool false))⟩,
      ⟨(some 143), none, .val (.tmp 142)⟩,
      ⟨(some 144), (some (143, true)), .val (.tmp 23)⟩,
      ⟨(some 145), (some (143, true)), .val (.tmp 26)⟩,
      ⟨(some 146), (some (143, true)), .bin .eql (.tmp 144) (.tmp 145)⟩,
      ⟨(some 147), none, .pick (.tmp 143) (.tmp 146) (.const (.bool false))⟩,
      ⟨(some 148), none, .val (.tmp 147)⟩,
      ⟨(some 149), (some (148, true)), .val (.tmp 25)⟩,
      ⟨(some 150), (some (148, true)), .val (.tmp 27)⟩,
      ⟨(some 151), (some (148, true)), .bin .eql (.tmp 149) (.tmp 150)⟩,
      ⟨(some 152), (some (148, true)), .val (.tmp 151)⟩,
      ⟨(some 153), (some (152, false)), .val (.tmp 25)⟩,
      ⟨(some 154), (some (152, false)), .bin .eql (.tmp 153) (.const (.int .i64 10))⟩,
      ⟨(some 155), (some (152, false)), .val (.tmp 154)⟩,
      ⟨(some 156), (some (155, true)), .val (.tmp 27)⟩,
      ⟨(some 157), (some (155, true)), .bin .eql (.tmp 156) (.const (.int .i64 0))⟩,
      ⟨(some 158), (some (152, false)), .pick (.tmp 155) (.tmp 157) (.const (.bool false))⟩,
      ⟨(some 159), (some (148, true)), .pick (.tmp 152) (.const (.bool true)) (.tmp 158)⟩,
      ⟨(some 160), none, .pick (.tmp 148) (.tmp 159) (.const (.bool false))⟩,
      ⟨(some 161), none, .val (.tmp 160)⟩,
      ⟨(some 162), (some (161, true)), .val (.tmp 30)⟩,
      ⟨(some 163), (some (161, true)), .bin .eql (.tmp 162) (.const (.int .i64 10))⟩,
      ⟨(some 164), none, .pick (.tmp 161) (.tmp 163) (.const (.bool false))⟩,
      ⟨(some 165), none, .val (.tmp 164)⟩,
      ⟨(some 166), (some (165, true)), .val (.tmp 32)⟩,
      ⟨(some 167), (some (165, true)), .val (.tmp 33)⟩,
      ⟨(some 168), (some (165, true)), .bin .eql (.tmp 166) (.tmp 167)⟩,
      ⟨(some 169), none, .pick (.tmp 165) (.tmp 168) (.const (.bool false))⟩,
      ⟨(some 170), none, .val (.tmp 169)⟩,
      ⟨(some 171), (some (170, true)), .val (.tmp 28)⟩,
      ⟨(some 172), (some (170, true)), .callg 303 [.tmp 171, .const (.slice none 0 (some 0))]⟩,
      ⟨(some 173), (some (170, true)), .val (.tmp 28)⟩,
      ⟨(some 174), (some (170, true)), .callg 292 [.tmp 173, .const (.slice none 0 (some 0))]⟩,
      ⟨(some 175), (some (170, true)), .bin .add (.tmp 172) (.tmp 174)⟩,
      ⟨(some 176), (some (170, true)), .bin .eql (.tmp 175) (.const (.int .i64 0))⟩,
      ⟨(some 177), none, .pick (.tmp 170) (.tmp 176) (.const (.bool false))⟩,
      ⟨(some 12), none, .val (.tmp 177)⟩]⟩]) [12])
  (.live [12] (.ret))))))))))))))))))), none⟩
/-- carpetbag.carpetbaglaw27.fixed -/
def code299 : AFunc := ⟨true, false, 0, 78, [.tmp 0],
  .seq (.after (.region [⟨false, [], [⟨(some 0), none, .val (.const (.bool false))⟩]⟩]) [])
  (.seq (.after (.region [⟨false, [], [⟨(some 13), none, .callg 298 [.const (.int .i64 5)]⟩,
      ⟨(some 1), none, .val (.tmp 13)⟩]⟩]) [1])
  (.seq (.after (.region [⟨false, [], [⟨(some 15), none, .val (.tmp 1)⟩,
      ⟨(some 16), none, .callg 297 [.tmp 15, .const (.int .i64 3), .const (.int .i64 3), .const (.slice none 0 (some 0))]⟩,
      ⟨(some 14), none, .val (.tmp 16)⟩,
      ⟨(some 17), none, .extract (.tmp 14) 0⟩,
      ⟨(some 18), none, .extract (.tmp 14) 1⟩,
      ⟨(some 2), none, .val (.tmp 17)⟩,
      ⟨(some 3), none, .val (.tmp 18)⟩]⟩]) [1, 2, 3])
  (.seq (.after (.region [⟨false, [], [⟨(some 20), none, .val (.tmp 1)⟩,
      ⟨(some 21), none, .val (.tmp 2)⟩,
      ⟨(some 22), none, .build [.int .i64 0, .bool false] [(0, 1, .tmp 21), (1, 1, .const (.bool true))]⟩,
      ⟨(some 23), none, .mkslice 2 1 [.int .i64 0, .bool false] [(0, 2, .tmp 22)]⟩,
      ⟨(some 24), none, .callg 297 [.tmp 20, .const (.int .i64 3), .const (.int .i64 0), .tmp 23]⟩,
      ⟨(some 19), none, .val (.tmp 24)⟩,
      ⟨(some 25), none, .extract (.tmp 19) 0⟩,
      ⟨(some 26), none, .extract (.tmp 19) 1⟩,
      ⟨(some 4), none, .val (.tmp 25)⟩,
      ⟨(some 5), none, .val (.tmp 26)⟩]⟩]) [1, 2, 3, 5])
  (.seq (.after (.region [⟨false, [], [⟨(some 28), none, .val (.tmp 1)⟩,
      ⟨(some 29), none, .callg 297 [.tmp 28, .const (.int .i64 4), .const (.int .i64 3), .const (.slice none 0 (some 0))]⟩,
      ⟨(some 27), none, .val (.tmp 29)⟩,
      ⟨(some 30), none, .extract (.tmp 27) 0⟩,
      ⟨(some 31), none, .extract (.tmp 27) 1⟩,
      ⟨(some 6), none, .val (.tmp 30)⟩,
      ⟨(some 7), none, .val (.tmp 31)⟩]⟩]) [1, 2, 3, 5, 6, 7])
  (.seq (.after (.region [⟨false, [], [⟨(some 33), none, .val (.tmp 1)⟩,
      ⟨(some 34), none, .val (.tmp 6)⟩,
      ⟨(some 35), none, .callg 306 [.tmp 33, .tmp 34]⟩,
      ⟨(some 32), none, .val (.tmp 35)⟩,
      ⟨(some 36), none, .extract (.tmp 32) 0⟩,
      ⟨(some 37), none, .extract (.tmp 32) 1⟩,
      ⟨(some 38), none, .extract (.tmp 32) 2⟩,
      ⟨(some 8), none, .val (.tmp 36)⟩,
      ⟨(some 9), none, .val (.tmp 37)⟩,
      ⟨(some 10), none, .val (.tmp 38)⟩]⟩]) [1, 2, 3, 5, 6, 7, 8, 9, 10])
  (.seq (.after (.region [⟨false, [], [⟨(some 40), none, .val (.tmp 1)⟩,
      ⟨(some 41), none, .callg 305 [.tmp 40, .const (.str [73]), .const (.int .i64 1), .const (.slice none 0 (some 0))]⟩,
      ⟨(some 39), none, .val (.tmp 41)⟩,
      ⟨(some 42), none, .extract (.tmp 39) 0⟩,
      ⟨(some 43), none, .extract (.tmp 39) 1⟩,
      ⟨(some 11), none, .val (.tmp 42)⟩,
      ⟨(some 12), none, .val (.tmp 43)⟩]⟩]) [2, 3, 5, 6, 7, 8, 9, 10, 12])
  (.seq (.after (.region [⟨false, [], [⟨(some 44), none, .val (.tmp 3)⟩,
      ⟨(some 45), none, .bin .eql (.tmp 44) (.const (.int .i64 0))⟩,
      ⟨(some 46), none, .val (.tmp 45)⟩,
      ⟨(some 47), (some (46, true)), .val (.tmp 5)⟩,
      ⟨(some 48), (some (46, true)), .bin .eql (.tmp 47) (.const (.int .i64 10))⟩,
      ⟨(some 49), none, .pick (.tmp 46) (.tmp 48) (.const (.bool false))⟩,
      ⟨(some 50), none, .val (.tmp 49)⟩,
      ⟨(some 51), (some (50, true)), .val (.tmp 7)⟩,
      ⟨(some 52), (some (50, true)), .bin .eql (.tmp 51) (.const (.int .i64 0))⟩,
      ⟨(some 53), none, .pick (.tmp 50) (.tmp 52) (.const (.bool false))⟩,
      ⟨(some 54), none, .val (.tmp 53)⟩,
      ⟨(some 55), (some (54, true)), .val (.tmp 10)⟩,
      ⟨(some 56), (some (54, true)), .bin .eql (.tmp 55) (.const (.int .i64 0))⟩,
      ⟨(some 57), none, .pick (.tmp 54) (.tmp 56) (.const (.bool false))⟩,
      ⟨(some 58), none, .val (.tmp 57)⟩,
      ⟨(some 59), (some (58, true)), .val (.tmp 2)⟩,
      ⟨(some 60), (some (58, true)), .bin .eql (.tmp 59) (.const (.int .i64 1))⟩,
      ⟨(some 61), none, .pick (.tmp 58) (.tmp 60) (.const (.bool false))⟩,
      ⟨(some 62), none, .val (.tmp 61)⟩,
      ⟨(some 63), (some (62, true)), .val (.tmp 6)⟩,
      ⟨(some 64), (some (62, true)), .bin .eql (.tmp 63) (.const (.int .i64 2))⟩,
      ⟨(some 65), none, .pick (.tmp 62) (.tmp 64) (.const (.bool false))⟩,
      ⟨(some 66), none, .val (.tmp 65)⟩,
      ⟨(some 67), (some (66, true)), .val (.tmp 8)⟩,
      ⟨(some 68), (some (66, true)), .bin .eql (.tmp 67) (.const (.int .i64 4))⟩,
      ⟨(some 69), none, .pick (.tmp 66) (.tmp 68) (.const (.bool false))⟩,
      ⟨(some 70), none, .val (.tmp 69)⟩,
      ⟨(some 71), (some (70, true)), .val (.tmp 9)⟩,
      ⟨(some 72), (some (70, true)), .bin .eql (.tmp 71) (.const (.str []))⟩,
      ⟨(some 73), none, .pick (.tmp 70) (.tmp 72) (.const (.bool false))⟩,
      ⟨(some 74), none, .val (.tmp 73)⟩,
      ⟨(some 75), (some (74, true)), .val (.tmp 12)⟩,
      ⟨(some 76), (some (74, true)), .bin .eql (.tmp 75) (.const (.int .i64 1))⟩,
      ⟨(some 77), none, .pick (.tmp 74) (.tmp 76) (.const (.bool false))⟩,
      ⟨(some 0), none, .val (.tmp 77)⟩]⟩]) [0])
  (.live [0] (.ret))))))))), none⟩
/-- carpetbag.heap.New -/
def code298 : AFunc := ⟨false, false, 1, 7, [.tmp 2],
  .seq (.after (.region [⟨false, [], [⟨(some 2), none, .val (.const (.ptr none))⟩]⟩]) [0])
  (.seq (.after (.region [⟨false, [], [⟨(some 3), none, .val (.tmp 0)⟩,
      ⟨(some 4), none, .ext .mkmap []⟩,
      ⟨(some 5), none, .build [.int .i64 0, .int .i64 0, .int .i64 0, .map none] [(0, 1, .tmp 3), (3, 1, .tmp 4)]⟩,
      ⟨(some 6), none, .box (.tmp 5)⟩,
      ⟨(some 2), none, .val (.tmp 6)⟩]⟩]) [2])
  (.live [2] (.ret))), none⟩
/-- (*carpetbag.heap.Heap).Object -/
def code297 : AFunc := ⟨false, false, 4, 21, [.tmp 8, .tmp 9],
  .seq (.after (.region [⟨false, [], [⟨(some 8), none, .val (.const (.int .i64 0))⟩,
      ⟨(some 9), none, .val (.const (.int .i64 0))⟩]⟩]) [0, 1, 2, 3])
  (.seq (.seq (.after (.region [⟨false, [], [⟨(some 10), none, .val (.tmp 2)⟩,
      ⟨(some 11), none, .bin .lss (.tmp 10) (.const (.int .i64 0))⟩]⟩]) [0, 1, 2, 3, 11])
  (.after (.cond (.tmp 11) (.seq (.after (.region [⟨false, [], [⟨(some 8), none, .val (.const (.int .i64 0))⟩,
      ⟨(some 9), none, .val (.const (.int .i64 1))⟩]⟩]) [8, 9])
  (.live [8, 9] (.ret))) (.skip)) [0, 1, 2, 3]))
  (.seq (.after (.region [⟨false, [], [⟨(some 12), none, .val (.tmp 0)⟩,
      ⟨(some 13), none, .val (.tmp 1)⟩,
      ⟨(some 14), none, .build [.int .i64 0, .str [], .slice none 0 (some 0)] [(0, 1, .tmp 13)]⟩,
      ⟨(some 15), none, .box (.tmp 14)⟩,
      ⟨(some 16), none, .val (.tmp 2)⟩,
      ⟨(some 17), none, .val (.tmp 3)⟩,
      ⟨(some 18), none, .callg 308 [.tmp 12, .tmp 15, .tmp 16, .tmp 17]⟩,
      ⟨(some 19), none, .extract (.tmp 18) 0⟩,
      ⟨(some 20), none, .extract (.tmp 18) 1⟩,
      ⟨(some 8), none, .val (.tmp 19)⟩,
      ⟨(some 9), none, .val (.tmp 20)⟩]⟩]) [8, 9])
  (.live [8, 9] (.ret)))), none⟩
def code296L0 : ACode :=
  .live [0, 12, 51, 52] (.seq (.after (.region [⟨false, [], [⟨(some 53), none, .bin .lss (.tmp 52) (.tmp 51)⟩]⟩]) [0, 12, 51, 52, 53])
  (.seq (.after (.cond (.tmp 53) (.skip) (.live [0, 12] (.exit 0))) [0, 12, 51, 52])
  (.seq (.after (.block 1 (.seq (.after (.region [⟨false, [], [⟨(some 54), none, .val (.tmp 52)⟩,
      ⟨(some 13), none, .val (.tmp 54)⟩]⟩]) [0, 12, 13, 51, 52])
  (.after (.region [⟨false, [], [⟨(some 55), none, .faddr (.tmp 12) 2⟩,
      ⟨(some 56), none, .load none (.tmp 55)⟩,
      ⟨(some 57), none, .val (.tmp 13)⟩,
      ⟨(some 58), none, .iaddr 2 (.tmp 56) (.tmp 57)⟩,
      ⟨(some 59), none, .faddr (.tmp 58) 1⟩,
      ⟨none, none, .store 1 (.tmp 59) (.const (.bool true))⟩]⟩]) [0, 12, 51, 52]))) [0, 12, 51, 52])
  (.after (.region [⟨false, [], [⟨(some 60), none, .bin .add (.tmp 52) (.const (.int .i64 1))⟩,
      ⟨(some 52), none, .val (.tmp 60)⟩]⟩]) [0, 12, 51, 52]))))
/-- (*carpetbag.carpetbagref27.Heap).Make -/
def code296 : AFunc := ⟨false, false, 5, 76, [.tmp 10, .tmp 11],
  .seq (.after (.region [⟨false, [], [⟨(some 10), none, .val (.const (.int .i64 0))⟩,
      ⟨(some 11), none, .val (.const (.int .i64 0))⟩]⟩]) [0, 1, 2, 3, 4])
  (.seq (.seq (.after (.region [⟨false, [], [⟨(some 14), none, .val (.tmp 3)⟩,
      ⟨(some 15), none, .bin .lss (.tmp 14) (.const (.int .i64 0))⟩,
      ⟨(some 16), none, .val (.tmp 15)⟩,
      ⟨(some 17), (some (16, false)), .val (.tmp 3)⟩,
      ⟨(some 18), (some (16, false)), .bin .gtr (.tmp 17) (.const (.int .i64 1099511627776))⟩,
      ⟨(some 19), none, .pick (.tmp 16) (.const (.bool true)) (.tmp 18)⟩]⟩]) [0, 1, 2, 3, 4, 19])
  (.after (.cond (.tmp 19) (.seq (.seq (.after (.region [⟨false, [], [⟨(some 20), none, .val (.tmp 3)⟩,
      ⟨(some 21), none, .bin .lss (.tmp 20) (.const (.int .i64 0))⟩]⟩]) [21])
  (.after (.cond (.tmp 21) (.seq (.after (.region [⟨false, [], [⟨(some 10), none, .val (.const (.int .i64 0))⟩,
      ⟨(some 11), none, .val (.const (.int .i64 1))⟩]⟩]) [10, 11])
  (.live [10, 11] (.ret))) (.skip)) []))
  (.seq (.after (.region [⟨false, [], [⟨(some 10), none, .val (.const (.int .i64 0))⟩,
      ⟨(some 11), none, .val (.const (.int .i64 10))⟩]⟩]) [10, 11])
  (.live [10, 11] (.ret)))) (.skip)) [0, 1, 2, 3, 4]))
  (.seq (.seq (.after (.region [⟨true, [], [⟨(some 22), none, .val (.tmp 2)⟩,
      ⟨(some 23), none, .val (.tmp 3)⟩,
      ⟨(some 24), none, .callg 309 [.tmp 22, .tmp 23]⟩,
      ⟨(some 25), none, .val (.tmp 0)⟩,
      ⟨(some 26), none, .nilcheck (.tmp 25)⟩,
      ⟨(some 27), none, .faddr (.tmp 26) 0⟩,
      ⟨(some 28), none, .load none (.tmp 27)⟩,
      ⟨(some 29), none, .val (.tmp 0)⟩,
      ⟨(some 30), none, .val (.tmp 4)⟩,
      ⟨(some 31), none, .callg 310 [.tmp 29, .tmp 30]⟩]⟩, ⟨false, [], [⟨(some 32), none, .bin .sub (.tmp 28) (.tmp 31)⟩,
      ⟨(some 33), none, .bin .gtr (.tmp 24) (.tmp 32)⟩]⟩]) [0, 1, 2, 3, 33])
  (.after (.cond (.tmp 33) (.seq (.after (.region [⟨false, [], [⟨(some 10), none, .val (.const (.int .i64 0))⟩,
      ⟨(some 11), none, .val (.const (.int .i64 10))⟩]⟩]) [10, 11])
  (.live [10, 11] (.ret))) (.skip)) [0, 1, 2, 3]))
  (.seq (.after (.region [⟨false, [], [⟨(some 34), none, .val (.tmp 1)⟩,
      ⟨(some 35), none, .val (.tmp 2)⟩,
      ⟨(some 36), none, .val (.tmp 3)⟩,
      ⟨(some 37), none, .make 2 16 [.int .i64 0, .bool false] (.tmp 36) (.tmp 36)⟩,
      ⟨(some 38), none, .build [.int .i64 0, .str [], .slice none 0 (some 0)] [(0, 1, .tmp 34), (1, 1, .tmp 35), (2, 1, .tmp 37)]⟩,
      ⟨(some 12), none, .lalloc [.int .i64 0, .str [], .slice none 0 (some 0)]⟩,
      ⟨none, none, .store 3 (.tmp 12) (.tmp 38)⟩]⟩]) [0, 2, 12])
  (.seq (.seq (.after (.region [⟨false, [], [⟨(some 39), none, .val (.tmp 2)⟩,
      ⟨(some 40), none, .bin .neq (.tmp 39) (.const (.str [91, 73]))⟩,
      ⟨(some 41), none, .val (.tmp 40)⟩,
      ⟨(some 42), (some (41, true)), .val (.tmp 2)⟩,
      ⟨(some 43), (some (41, true)), .bin .neq (.tmp 42) (.const (.str [91, 66]))⟩,
      ⟨(some 44), none, .pick (.tmp 41) (.tmp 43) (.const (.bool false))⟩,
      ⟨(some 45), none, .val (.tmp 44)⟩,
      ⟨(some 46), (some (45, true)), .val (.tmp 2)⟩,
      ⟨(some 47), (some (45, true)), .bin .neq (.tmp 46) (.const (.str []))⟩,
      ⟨(some 48), none, .pick (.tmp 45) (.tmp 47) (.const (.bool false))⟩]⟩]) [0, 12, 48])
  (.after (.cond (.tmp 48) (.seq (.after (.region [⟨false, [], [⟨(some 49), none, .faddr (.tmp 12) 2⟩,
      ⟨(some 50), none, .load none (.tmp 49)⟩,
      ⟨(some 51), none, .len .sl (.tmp 50)⟩,
      ⟨(some 52), none, .val (.const (.int .i64 0))⟩]⟩]) [0, 12, 51, 52])
  (.after (.block 0 (.loop code296L0)) [0, 12])) (.skip)) [0, 12]))
  (.seq (.after (.region [⟨true, [0, 0, 2, 6, 14, 0, 32, 126], [⟨(some 61), none, .val (.tmp 0)⟩,
      ⟨(some 62), none, .val (.tmp 0)⟩,
      ⟨(some 63), none, .nilcheck (.tmp 62)⟩,
      ⟨(some 64), none, .faddr (.tmp 63) 1⟩,
      ⟨(some 65), none, .load none (.tmp 64)⟩,
      ⟨(some 66), none, .load (some 3) (.tmp 12)⟩,
      ⟨(some 67), none, .mkslice 3 1 [.int .i64 0, .str [], .slice none 0 (some 0)] [(0, 3, .tmp 66)]⟩,
      ⟨(some 68), none, .append 3 48 (.tmp 65) (.tmp 67)⟩]⟩, ⟨false, [], [⟨(some 69), none, .nilcheck (.tmp 61)⟩,
      ⟨(some 70), none, .faddr (.tmp 69) 1⟩,
      ⟨none, none, .store 1 (.tmp 70) (.tmp 68)⟩]⟩]) [0])
  (.seq (.after (.region [⟨false, [], [⟨(some 71), none, .val (.tmp 0)⟩,
      ⟨(some 72), none, .nilcheck (.tmp 71)⟩,
      ⟨(some 73), none, .faddr (.tmp 72) 1⟩,
      ⟨(some 74), none, .load none (.tmp 73)⟩,
      ⟨(some 75), none, .len .sl (.tmp 74)⟩,
      ⟨(some 10), none, .val (.tmp 75)⟩,
      ⟨(some 11), none, .val (.const (.int .i64 0))⟩]⟩]) [10, 11])
  (.live [10, 11] (.ret)))))))), none⟩
def code292L0 : ACode :=
  .live [0, 5, 6, 26] (.seq (.after (.seq (.next (some 27) (.tmp 26)) (.region [⟨false, [], [⟨(some 28), none, .extract (.tmp 27) 0⟩]⟩])) [0, 5, 6, 26, 28])
  (.seq (.after (.cond (.tmp 28) (.skip) (.live [0, 6] (.exit 0))) [0, 5, 6, 26])
  (.after (.block 1 (.seq (.after (.region [⟨false, [], [⟨(some 29), none, .ext .entry [.tmp 26]⟩,
      ⟨(some 30), none, .extract (.tmp 29) 0⟩,
      ⟨(some 31), none, .extract (.tmp 29) 1⟩,
      ⟨(some 7), none, .val (.tmp 30)⟩,
      ⟨(some 8), none, .val (.tmp 31)⟩]⟩]) [0, 5, 6, 7, 8, 26])
  (.seq (.seq (.after (.region [⟨false, [], [⟨(some 32), none, .val (.tmp 5)⟩,
      ⟨(some 33), none, .val (.tmp 7)⟩,
      ⟨(some 34), none, .ext (.lookup (.one .i) (.bool false) false) [.tmp 32, .tmp 33]⟩,
      ⟨(some 35), none, .un .not (.tmp 34)⟩]⟩]) [0, 5, 6, 7, 8, 26, 35])
  (.after (.cond (.tmp 35) (.seq (.after (.region [⟨false, [], [⟨(some 36), none, .val (.tmp 0)⟩,
      ⟨(some 37), none, .nilcheck (.tmp 36)⟩,
      ⟨(some 38), none, .faddr (.tmp 37) 3⟩,
      ⟨(some 39), none, .load none (.tmp 38)⟩,
      ⟨(some 40), none, .val (.tmp 7)⟩,
      ⟨none, none, .ext (.delete (.one .i)) [.tmp 39, .tmp 40]⟩]⟩]) [0, 5, 6, 26])
  (.live [0, 5, 6, 26] (.exit 1))) (.skip)) [0, 5, 6, 8, 26]))
  (.after (.region [⟨true, [], [⟨(some 41), none, .val (.tmp 0)⟩,
      ⟨(some 42), none, .nilcheck (.tmp 41)⟩,
      ⟨(some 43), none, .faddr (.tmp 42) 1⟩,
      ⟨(some 44), none, .load none (.tmp 43)⟩,
      ⟨(some 45), none, .val (.tmp 8)⟩,
      ⟨(some 46), none, .nilcheck (.tmp 45)⟩,
      ⟨(some 47), none, .faddr (.tmp 46) 1⟩,
      ⟨(some 48), none, .load none (.tmp 47)⟩,
      ⟨(some 49), none, .val (.tmp 8)⟩,
      ⟨(some 50), none, .nilcheck (.tmp 49)⟩,
      ⟨(some 51), none, .faddr (.tmp 50) 2⟩,
      ⟨(some 52), none, .load none (.tmp 51)⟩,
      ⟨(some 53), none, .len .sl (.tmp 52)⟩,
      ⟨(some 54), none, .callg 311 [.tmp 48, .tmp 53]⟩]⟩, ⟨false, [], [⟨(some 55), none, .bin .add (.tmp 44) (.tmp 54)⟩,
      ⟨(some 56), none, .nilcheck (.tmp 41)⟩,
      ⟨(some 57), none, .faddr (.tmp 56) 1⟩,
      ⟨none, none, .store 1 (.tmp 57) (.tmp 55)⟩]⟩]) [0, 5, 6, 26])))) [0, 5, 6, 26])))
/-- (*carpetbag.heap.Heap).Collect -/
def code292 : AFunc := ⟨false, true, 2, 65, [.tmp 4],
  .seq (.after (.region [⟨false, [], [⟨(some 4), none, .val (.const (.int .i64 0))⟩]⟩]) [0, 1])
  (.seq (.seq (.after (.region [⟨false, [], [⟨(some 9), none, .val (.tmp 0)⟩,
      ⟨(some 10), none, .eqnil .ptr false (.tmp 9) (.const (.ptr none))⟩]⟩]) [0, 1, 10])
  (.after (.cond (.tmp 10) (.seq (.after (.region [⟨false, [], [⟨(some 4), none, .val (.const (.int .i64 0))⟩]⟩]) [4])
  (.live [4] (.ret))) (.skip)) [0, 1]))
  (.seq (.after (.region [⟨false, [], [⟨(some 11), none, .val (.tmp 0)⟩,
      ⟨(some 12), none, .val (.tmp 1)⟩,
      ⟨(some 13), none, .callg 312 [.tmp 11, .tmp 12]⟩,
      ⟨(some 5), none, .val (.tmp 13)⟩]⟩]) [0, 5])
  (.seq (.after (.region [⟨false, [], [⟨(some 14), none, .val (.tmp 0)⟩,
      ⟨(some 15), none, .nilcheck (.tmp 14)⟩,
      ⟨(some 16), none, .faddr (.tmp 15) 3⟩,
      ⟨(some 17), none, .load none (.tmp 16)⟩,
      ⟨(some 18), none, .len .map (.tmp 17)⟩,
      ⟨(some 6), none, .val (.tmp 18)⟩]⟩]) [0, 5, 6])
  (.seq (.after (.region [⟨false, [], [⟨(some 19), none, .val (.tmp 0)⟩,
      ⟨(some 20), none, .nilcheck (.tmp 19)⟩,
      ⟨(some 21), none, .faddr (.tmp 20) 1⟩,
      ⟨none, none, .store 1 (.tmp 21) (.const (.int .i64 0))⟩]⟩]) [0, 5, 6])
  (.seq (.seq (.after (.region [⟨false, [], [⟨(some 22), none, .val (.tmp 0)⟩,
      ⟨(some 23), none, .nilcheck (.tmp 22)⟩,
      ⟨(some 24), none, .faddr (.tmp 23) 3⟩,
      ⟨(some 25), none, .load none (.tmp 24)⟩,
      ⟨(some 26), none, .ext .mkiter [.tmp 25]⟩]⟩]) [0, 5, 6, 26])
  (.after (.block 0 (.loop code292L0)) [0, 6]))
  (.seq (.after (.region [⟨false, [], [⟨(some 58), none, .val (.tmp 6)⟩,
      ⟨(some 59), none, .val (.tmp 0)⟩,
      ⟨(some 60), none, .nilcheck (.tmp 59)⟩,
      ⟨(some 61), none, .faddr (.tmp 60) 3⟩,
      ⟨(some 62), none, .load none (.tmp 61)⟩,
      ⟨(some 63), none, .len .map (.tmp 62)⟩,
      ⟨(some 64), none, .bin .sub (.tmp 58) (.tmp 63)⟩,
      ⟨(some 4), none, .val (.tmp 64)⟩]⟩]) [4])
  (.live [4] (.ret)))))))), none⟩
/-- (*carpetbag.heap.Heap).Set -/
def code100295 : AFunc := ⟨false, false, 4, 40, [.tmp 8],
  .seq (.after (.region [⟨false, [], [⟨(some 7), none, .lbox (.tmp 3)⟩,
      ⟨(some 8), none, .val (.const (.int .i64 0))⟩]⟩]) [0, 1, 2, 7])
  (.seq (.after (.region [⟨false, [], [⟨(some 13), none, .val (.tmp 0)⟩,
      ⟨(some 14), none, .val (.tmp 1)⟩,
      ⟨(some 15), none, .val (.tmp 2)⟩,
      ⟨(some 16), none, .callg 313 [.tmp 13, .tmp 14, .tmp 15]⟩,
      ⟨(some 12), none, .val (.tmp 16)⟩,
      ⟨(some 17), none, .extract (.tmp 12) 0⟩,
      ⟨(some 18), none, .extract (.tmp 12) 1⟩,
      ⟨(some 19), none, .extract (.tmp 12) 2⟩,
      ⟨(some 9), none, .val (.tmp 17)⟩,
      ⟨(some 10), none, .val (.tmp 18)⟩,
      ⟨(some 11), none, .val (.tmp 19)⟩]⟩]) [7, 9, 10, 11])
  (.seq (.seq (.after (.region [⟨false, [], [⟨(some 20), none, .val (.tmp 11)⟩,
      ⟨(some 21), none, .bin .neq (.tmp 20) (.const (.int .i64 0))⟩]⟩]) [7, 9, 10, 11, 21])
  (.after (.cond (.tmp 21) (.seq (.after (.region [⟨false, [], [⟨(some 22), none, .val (.tmp 11)⟩,
      ⟨(some 8), none, .val (.tmp 22)⟩]⟩]) [8])
  (.live [8] (.ret))) (.skip)) [7, 9, 10]))
  (.seq (.seq (.after (.region [⟨false, [], [⟨(some 23), none, .val (.tmp 9)⟩,
      ⟨(some 24), none, .nilcheck (.tmp 23)⟩,
      ⟨(some 25), none, .faddr (.tmp 24) 1⟩,
      ⟨(some 26), none, .load none (.tmp 25)⟩]⟩]) [7, 10, 26])
  (.after (.block 0 (.seq (.after (.region [⟨false, [], [⟨(some 28), none, .bin .eql (.tmp 26) (.const (.str [91, 66]))⟩,
      ⟨(some 27), none, .val (.tmp 28)⟩]⟩]) [7, 10, 26, 27])
  (.after (.cond (.tmp 27) (.after (.region [⟨false, [], [⟨(some 29), none, .faddr (.tmp 7) 0⟩,
      ⟨(some 30), none, .load none (.tmp 29)⟩,
      ⟨(some 31), none, .conv (.int .i8) (.tmp 30)⟩,
      ⟨(some 32), none, .conv (.int .i64) (.tmp 31)⟩,
      ⟨(some 33), none, .build [.int .i64 0, .bool false] [(0, 1, .tmp 32)]⟩,
      ⟨none, none, .store 2 (.tmp 7) (.tmp 33)⟩]⟩]) [7, 10]) (.seq (.after (.region [⟨false, [], [⟨(some 35), none, .bin .eql (.tmp 26) (.const (.str [91, 73]))⟩,
      ⟨(some 34), none, .val (.tmp 35)⟩]⟩]) [7, 10, 34])
  (.after (.cond (.tmp 34) (.after (.region [⟨false, [], [⟨(some 36), none, .faddr (.tmp 7) 1⟩,
      ⟨none, none, .store 1 (.tmp 36) (.const (.bool false))⟩]⟩]) [7, 10]) (.skip)) [7, 10]))) [7, 10]))) [7, 10]))
  (.seq (.after (.region [⟨false, [], [⟨(some 37), none, .val (.tmp 10)⟩,
      ⟨(some 38), none, .load (some 2) (.tmp 7)⟩,
      ⟨(some 39), none, .nilcheck (.tmp 37)⟩,
      ⟨none, none, .store 2 (.tmp 39) (.tmp 38)⟩]⟩]) [])
  (.seq (.after (.region [⟨false, [], [⟨(some 8), none, .val (.const (.int .i64 0))⟩]⟩]) [8])
  (.live [8] (.ret))))))), none⟩
/-- (*carpetbag.carpetbagref27.Heap).Set -/
def code294 : AFunc := ⟨false, false, 4, 47, [.tmp 8],
  .seq (.after (.region [⟨false, [], [⟨(some 7), none, .lbox (.tmp 3)⟩,
      ⟨(some 8), none, .val (.const (.int .i64 0))⟩]⟩]) [0, 1, 2, 7])
  (.seq (.after (.region [⟨false, [], [⟨(some 12), none, .val (.tmp 0)⟩,
      ⟨(some 13), none, .val (.tmp 1)⟩,
      ⟨(some 14), none, .callg 314 [.tmp 12, .tmp 13]⟩,
      ⟨(some 11), none, .val (.tmp 14)⟩,
      ⟨(some 15), none, .extract (.tmp 11) 0⟩,
      ⟨(some 16), none, .extract (.tmp 11) 1⟩,
      ⟨(some 9), none, .lalloc [.int .i64 0, .str [], .slice none 0 (some 0)]⟩,
      ⟨none, none, .store 3 (.tmp 9) (.tmp 15)⟩,
      ⟨(some 10), none, .val (.tmp 16)⟩]⟩]) [2, 7, 9, 10])
  (.seq (.seq (.after (.region [⟨false, [], [⟨(some 17), none, .val (.tmp 10)⟩,
      ⟨(some 18), none, .un .not (.tmp 17)⟩]⟩]) [2, 7, 9, 18])
  (.after (.cond (.tmp 18) (.seq (.after (.region [⟨false, [], [⟨(some 8), none, .val (.const (.int .i64 11))⟩]⟩]) [8])
  (.live [8] (.ret))) (.skip)) [2, 7, 9]))
  (.seq (.seq (.after (.region [⟨false, [], [⟨(some 19), none, .val (.tmp 2)⟩,
      ⟨(some 20), none, .bin .lss (.tmp 19) (.const (.int .i64 0))⟩,
      ⟨(some 21), none, .val (.tmp 20)⟩,
      ⟨(some 22), (some (21, false)), .val (.tmp 2)⟩,
      ⟨(some 23), (some (21, false)), .faddr (.tmp 9) 2⟩,
      ⟨(some 24), (some (21, false)), .load none (.tmp 23)⟩,
      ⟨(some 25), (some (21, false)), .len .sl (.tmp 24)⟩,
      ⟨(some 26), (some (21, false)), .bin .geq (.tmp 22) (.tmp 25)⟩,
      ⟨(some 27), none, .pick (.tmp 21) (.const (.bool true)) (.tmp 26)⟩]⟩]) [2, 7, 9, 27])
  (.after (.cond (.tmp 27) (.seq (.after (.region [⟨false, [], [⟨(some 8), none, .val (.const (.int .i64 2))⟩]⟩]) [8])
  (.live [8] (.ret))) (.skip)) [2, 7, 9]))
  (.seq (.seq (.after (.region [⟨false, [], [⟨(some 28), none, .faddr (.tmp 9) 1⟩,
      ⟨(some 29), none, .load none (.tmp 28)⟩,
      ⟨(some 30), none, .bin .eql (.tmp 29) (.const (.str [91, 66]))⟩]⟩]) [2, 7, 9, 30])
  (.after (.cond (.tmp 30) (.after (.region [⟨false, [], [⟨(some 31), none, .faddr (.tmp 7) 0⟩,
      ⟨(some 32), none, .load none (.tmp 31)⟩,
      ⟨(some 33), none, .conv (.int .i8) (.tmp 32)⟩,
      ⟨(some 34), none, .conv (.int .i64) (.tmp 33)⟩,
      ⟨(some 35), none, .build [.int .i64 0, .bool false] [(0, 1, .tmp 34)]⟩,
      ⟨none, none, .store 2 (.tmp 7) (.tmp 35)⟩]⟩]) [2, 7, 9]) (.skip)) [2, 7, 9]))
  (.seq (.seq (.after (.region [⟨false, [], [⟨(some 36), none, .faddr (.tmp 9) 1⟩,
      ⟨(some 37), none, .load none (.tmp 36)⟩,
      ⟨(some 38), none, .bin .eql (.tmp 37) (.const (.str [91, 73]))⟩]⟩]) [2, 7, 9, 38])
  (.after (.cond (.tmp 38) (.after (.region [⟨false, [], [⟨(some 39), none, .faddr (.tmp 7) 0⟩,
      ⟨(some 40), none, .load none (.tmp 39)⟩,
      ⟨(some 41), none, .build [.int .i64 0, .bool false] [(0, 1, .tmp 40)]⟩,
      ⟨none, none, .store 2 (.tmp 7) (.tmp 41)⟩]⟩]) [2, 7, 9]) (.skip)) [2, 7, 9]))
  (.seq (.after (.region [⟨false, [], [⟨(some 42), none, .faddr (.tmp 9) 2⟩,
      ⟨(some 43), none, .load none (.tmp 42)⟩,
      ⟨(some 44), none, .val (.tmp 2)⟩,
      ⟨(some 45), none, .load (some 2) (.tmp 7)⟩,
      ⟨(some 46), none, .iaddr 2 (.tmp 43) (.tmp 44)⟩,
      ⟨none, none, .store 2 (.tmp 46) (.tmp 45)⟩]⟩]) [])
  (.seq (.after (.region [⟨false, [], [⟨(some 8), none, .val (.const (.int .i64 0))⟩]⟩]) [8])
  (.live [8] (.ret))))))))), none⟩
/-- (*carpetbag.heap.Heap).Len -/
def code290 : AFunc := ⟨false, false, 2, 22, [.tmp 4, .tmp 5],
  .seq (.after (.region [⟨false, [], [⟨(some 4), none, .val (.const (.int .i64 0))⟩,
      ⟨(some 5), none, .val (.const (.int .i64 0))⟩]⟩]) [0, 1])
  (.seq (.after (.region [⟨false, [], [⟨(some 9), none, .val (.tmp 0)⟩,
      ⟨(some 10), none, .val (.tmp 1)⟩,
      ⟨(some 11), none, .callg 315 [.tmp 9, .tmp 10]⟩,
      ⟨(some 8), none, .val (.tmp 11)⟩,
      ⟨(some 12), none, .extract (.tmp 8) 0⟩,
      ⟨(some 13), none, .extract (.tmp 8) 1⟩,
      ⟨(some 6), none, .val (.tmp 12)⟩,
      ⟨(some 7), none, .val (.tmp 13)⟩]⟩]) [6, 7])
  (.seq (.seq (.after (.region [⟨false, [], [⟨(some 14), none, .val (.tmp 7)⟩,
      ⟨(some 15), none, .bin .neq (.tmp 14) (.const (.int .i64 0))⟩]⟩]) [6, 7, 15])
  (.after (.cond (.tmp 15) (.seq (.after (.region [⟨false, [], [⟨(some 16), none, .val (.tmp 7)⟩,
      ⟨(some 4), none, .val (.const (.int .i64 0))⟩,
      ⟨(some 5), none, .val (.tmp 16)⟩]⟩]) [4, 5])
  (.live [4, 5] (.ret))) (.skip)) [6]))
  (.seq (.after (.region [⟨false, [], [⟨(some 17), none, .val (.tmp 6)⟩,
      ⟨(some 18), none, .nilcheck (.tmp 17)⟩,
      ⟨(some 19), none, .faddr (.tmp 18) 2⟩,
      ⟨(some 20), none, .load none (.tmp 19)⟩,
      ⟨(some 21), none, .len .sl (.tmp 20)⟩,
      ⟨(some 4), none, .val (.tmp 21)⟩,
      ⟨(some 5), none, .val (.const (.int .i64 0))⟩]⟩]) [4, 5])
  (.live [4, 5] (.ret))))), none⟩
def code293L0 : ACode :=
  .live [0, 5, 6] (.seq (.seq (.after (.region [⟨false, [], [⟨(some 18), none, .val (.tmp 6)⟩,
      ⟨(some 19), none, .len .sl (.tmp 18)⟩,
      ⟨(some 20), none, .bin .gtr (.tmp 19) (.const (.int .i64 0))⟩]⟩]) [0, 5, 6, 20])
  (.after (.cond (.tmp 20) (.skip) (.live [5] (.exit 0))) [0, 5, 6]))
  (.after (.block 1 (.seq (.after (.region [⟨false, [], [⟨(some 21), none, .val (.tmp 6)⟩,
      ⟨(some 22), none, .iaddr 2 (.tmp 21) (.const (.int .i64 0))⟩,
      ⟨(some 23), none, .load (some 2) (.tmp 22)⟩,
      ⟨(some 7), none, .lalloc [.int .i64 0, .bool false]⟩,
      ⟨none, none, .store 2 (.tmp 7) (.tmp 23)⟩]⟩]) [0, 5, 6, 7])
  (.seq (.after (.region [⟨false, [], [⟨(some 24), none, .val (.tmp 6)⟩,
      ⟨(some 25), none, .slice (.sl 2) (.tmp 24) (some (.const (.int .i64 1))) none none⟩,
      ⟨(some 6), none, .val (.tmp 25)⟩]⟩]) [0, 5, 6, 7])
  (.seq (.seq (.after (.region [⟨false, [], [⟨(some 26), none, .faddr (.tmp 7) 1⟩,
      ⟨(some 27), none, .load none (.tmp 26)⟩,
      ⟨(some 28), none, .un .not (.tmp 27)⟩,
      ⟨(some 29), none, .val (.tmp 28)⟩,
      ⟨(some 30), (some (29, false)), .faddr (.tmp 7) 0⟩,
      ⟨(some 31), (some (29, false)), .load none (.tmp 30)⟩,
      ⟨(some 32), (some (29, false)), .bin .lss (.tmp 31) (.const (.int .i64 1))⟩,
      ⟨(some 33), none, .pick (.tmp 29) (.const (.bool true)) (.tmp 32)⟩,
      ⟨(some 34), none, .val (.tmp 33)⟩]⟩, ⟨true, [], [⟨(some 35), (some (34, false)), .faddr (.tmp 7) 0⟩,
      ⟨(some 36), (some (34, false)), .load none (.tmp 35)⟩,
      ⟨(some 37), (some (34, false)), .val (.tmp 0)⟩,
      ⟨(some 38), (some (34, false)), .nilcheck (.tmp 37)⟩,
      ⟨(some 39), (some (34, false)), .faddr (.tmp 38) 1⟩,
      ⟨(some 40), (some (34, false)), .load none (.tmp 39)⟩,
      ⟨(some 41), (some (34, false)), .len .sl (.tmp 40)⟩]⟩, ⟨false, [], [⟨(some 42), (some (34, false)), .bin .gtr (.tmp 36) (.tmp 41)⟩,
      ⟨(some 43), none, .pick (.tmp 34) (.const (.bool true)) (.tmp 42)⟩,
      ⟨(some 44), none, .val (.tmp 43)⟩]⟩, ⟨true, [], [⟨(some 45), (some (44, false)), .val (.tmp 5)⟩,
      ⟨(some 46), (some (44, false)), .faddr (.tmp 7) 0⟩,
      ⟨(some 47), (some (44, false)), .load none (.tmp 46)⟩]⟩, ⟨false, [], [⟨(some 48), (some (44, false)), .iaddr 1 (.tmp 45) (.tmp 47)⟩,
      ⟨(some 49), (some (44, false)), .load none (.tmp 48)⟩,
      ⟨(some 50), none, .pick (.tmp 44) (.const (.bool true)) (.tmp 49)⟩]⟩]) [0, 5, 6, 7, 50])
  (.after (.cond (.tmp 50) (.live [0, 5, 6] (.exit 1)) (.skip)) [0, 5, 6, 7]))
  (.seq (.after (.region [⟨false, [], [⟨(some 51), none, .val (.tmp 5)⟩,
      ⟨(some 52), none, .faddr (.tmp 7) 0⟩,
      ⟨(some 53), none, .load none (.tmp 52)⟩,
      ⟨(some 54), none, .iaddr 1 (.tmp 51) (.tmp 53)⟩,
      ⟨none, none, .store 1 (.tmp 54) (.const (.bool true))⟩]⟩]) [0, 5, 6, 7])
  (.after (.region [⟨true, [], [⟨(some 55), none, .val (.tmp 6)⟩,
      ⟨(some 56), none, .val (.tmp 0)⟩,
      ⟨(some 57), none, .nilcheck (.tmp 56)⟩,
      ⟨(some 58), none, .faddr (.tmp 57) 1⟩,
      ⟨(some 59), none, .load none (.tmp 58)⟩,
      ⟨(some 60), none, .faddr (.tmp 7) 0⟩,
      ⟨(some 61), none, .load none (.tmp 60)⟩,
      ⟨(some 62), none, .bin .sub (.tmp 61) (.const (.int .i64 1))⟩,
      ⟨(some 63), none, .iaddr 3 (.tmp 59) (.tmp 62)⟩,
      ⟨(some 64), none, .faddr (.tmp 63) 2⟩,
      ⟨(some 65), none, .load none (.tmp 64)⟩]⟩, ⟨false, [], [⟨(some 66), none, .append 2 16 (.tmp 55) (.tmp 65)⟩,
      ⟨(some 6), none, .val (.tmp 66)⟩]⟩]) [0, 5, 6])))))) [0, 5, 6]))
/-- (*carpetbag.carpetbagref27.Heap).Reach -/
def code293 : AFunc := ⟨false, false, 2, 68, [.tmp 4],
  .seq (.after (.region [⟨false, [], [⟨(some 4), none, .val (.const (.slice none 0 (some 0)))⟩]⟩]) [0, 1])
  (.seq (.after (.region [⟨false, [], [⟨(some 8), none, .val (.tmp 0)⟩,
      ⟨(some 9), none, .nilcheck (.tmp 8)⟩,
      ⟨(some 10), none, .faddr (.tmp 9) 1⟩,
      ⟨(some 11), none, .load none (.tmp 10)⟩,
      ⟨(some 12), none, .len .sl (.tmp 11)⟩,
      ⟨(some 13), none, .bin .add (.tmp 12) (.const (.int .i64 1))⟩,
      ⟨(some 14), none, .make 1 1 [.bool false] (.tmp 13) (.tmp 13)⟩,
      ⟨(some 5), none, .val (.tmp 14)⟩]⟩]) [0, 1, 5])
  (.seq (.after (.region [⟨false, [], [⟨(some 15), none, .mkslice 2 0 [] []⟩,
      ⟨(some 16), none, .val (.tmp 1)⟩,
      ⟨(some 17), none, .append 2 16 (.tmp 15) (.tmp 16)⟩,
      ⟨(some 6), none, .val (.tmp 17)⟩]⟩]) [0, 5, 6])
  (.seq (.after (.block 0 (.loop code293L0)) [5])
  (.seq (.after (.region [⟨false, [], [⟨(some 67), none, .val (.tmp 5)⟩,
      ⟨(some 4), none, .val (.tmp 67)⟩]⟩]) [4])
  (.live [4] (.ret)))))), none⟩
def code300L0 : ACode :=
  .live [0, 1, 3, 9, 19, 20, 21] (.seq (.after (.region [⟨false, [], [⟨(some 22), none, .bin .lss (.tmp 21) (.tmp 20)⟩]⟩]) [0, 1, 3, 9, 19, 20, 21, 22])
  (.seq (.after (.cond (.tmp 22) (.skip) (.live [] (.exit 0))) [0, 1, 3, 9, 19, 20, 21])
  (.seq (.after (.block 1 (.seq (.after (.region [⟨false, [], [⟨(some 23), none, .iaddr 6 (.tmp 19) (.tmp 21)⟩,
      ⟨(some 24), none, .load (some 6) (.tmp 23)⟩,
      ⟨(some 11), none, .lalloc [.int .u8 0, .int .u8 0, .int .i64 0, .int .u8 0, .int .u8 0, .bool false]⟩,
      ⟨none, none, .store 6 (.tmp 11) (.tmp 24)⟩]⟩]) [0, 1, 3, 9, 11, 19, 20, 21])
  (.seq (.seq (.after (.region [⟨false, [], [⟨(some 25), none, .faddr (.tmp 11) 0⟩,
      ⟨(some 26), none, .load none (.tmp 25)⟩,
      ⟨(some 27), none, .bin .rem (.tmp 26) (.const (.int .u8 5))⟩]⟩]) [0, 1, 3, 9, 11, 19, 20, 21, 27])
  (.after (.block 2 (.seq (.seq (.after (.region [⟨false, [], [⟨(some 33), none, .bin .eql (.tmp 27) (.const (.int .u8 0))⟩,
      ⟨(some 32), none, .val (.tmp 33)⟩]⟩]) [0, 1, 3, 9, 11, 19, 20, 21, 27, 32])
  (.after (.cond (.tmp 32) (.skip) (.after (.region [⟨false, [], [⟨(some 34), none, .bin .eql (.tmp 27) (.const (.int .u8 1))⟩,
      ⟨(some 32), none, .val (.tmp 34)⟩]⟩]) [0, 1, 3, 9, 11, 19, 20, 21, 27, 32])) [0, 1, 3, 9, 11, 19, 20, 21, 27, 32]))
  (.after (.cond (.tmp 32) (.seq (.after (.region [⟨false, [], [⟨(some 12), none, .val (.const (.int .i64 0))⟩,
      ⟨(some 13), none, .val (.const (.int .i64 0))⟩]⟩]) [0, 1, 3, 9, 11, 19, 20, 21])
  (.seq (.after (.region [⟨false, [], [⟨(some 14), none, .val (.const (.int .i64 0))⟩,
      ⟨(some 15), none, .val (.const (.int .i64 0))⟩]⟩]) [0, 1, 3, 9, 11, 19, 20, 21])
  (.seq (.seq (.after (.region [⟨false, [], [⟨(some 35), none, .faddr (.tmp 11) 0⟩,
      ⟨(some 36), none, .load none (.tmp 35)⟩,
      ⟨(some 37), none, .bin .rem (.tmp 36) (.const (.int .u8 5))⟩,
      ⟨(some 38), none, .bin .eql (.tmp 37) (.const (.int .u8 0))⟩]⟩]) [0, 1, 3, 9, 11, 19, 20, 21, 38])
  (.after (.cond (.tmp 38) (.seq (.after (.region [⟨false, [], [⟨(some 40), none, .val (.tmp 0)⟩,
      ⟨(some 41), none, .faddr (.tmp 11) 1⟩,
      ⟨(some 42), none, .load none (.tmp 41)⟩,
      ⟨(some 43), none, .conv (.int .i64) (.tmp 42)⟩,
      ⟨(some 44), none, .faddr (.tmp 11) 2⟩,
      ⟨(some 45), none, .load none (.tmp 44)⟩,
      ⟨(some 46), none, .val (.tmp 9)⟩,
      ⟨(some 47), none, .callg 297 [.tmp 40, .tmp 43, .tmp 45, .tmp 46]⟩,
      ⟨(some 39), none, .val (.tmp 47)⟩,
      ⟨(some 48), none, .extract (.tmp 39) 0⟩,
      ⟨(some 49), none, .extract (.tmp 39) 1⟩,
      ⟨(some 12), none, .val (.tmp 48)⟩,
      ⟨(some 14), none, .val (.tmp 49)⟩]⟩]) [0, 1, 3, 9, 11, 12, 14, 19, 20, 21])
  (.after (.region [⟨false, [], [⟨(some 51), none, .val (.tmp 1)⟩,
      ⟨(some 52), none, .faddr (.tmp 11) 1⟩,
      ⟨(some 53), none, .load none (.tmp 52)⟩,
      ⟨(some 54), none, .conv (.int .i64) (.tmp 53)⟩,
      ⟨(some 55), none, .faddr (.tmp 11) 2⟩,
      ⟨(some 56), none, .load none (.tmp 55)⟩,
      ⟨(some 57), none, .val (.tmp 9)⟩,
      ⟨(some 58), none, .callg 296 [.tmp 51, .tmp 54, .const (.str []), .tmp 56, .tmp 57]⟩,
      ⟨(some 50), none, .val (.tmp 58)⟩,
      ⟨(some 59), none, .extract (.tmp 50) 0⟩,
      ⟨(some 60), none, .extract (.tmp 50) 1⟩,
      ⟨(some 13), none, .val (.tmp 59)⟩,
      ⟨(some 15), none, .val (.tmp 60)⟩]⟩]) [0, 1, 3, 9, 12, 13, 14, 15, 19, 20, 21])) (.seq (.after (.region [⟨true, [], [⟨(some 62), none, .val (.tmp 0)⟩,
      ⟨(some 63), none, .faddr (.tmp 11) 1⟩,
      ⟨(some 64), none, .load none (.tmp 63)⟩,
      ⟨(some 65), none, .callg 317 [.tmp 64]⟩,
      ⟨(some 66), none, .faddr (.tmp 11) 2⟩,
      ⟨(some 67), none, .load none (.tmp 66)⟩,
      ⟨(some 68), none, .val (.tmp 9)⟩]⟩, ⟨false, [], [⟨(some 69), none, .callg 305 [.tmp 62, .tmp 65, .tmp 67, .tmp 68]⟩,
      ⟨(some 61), none, .val (.tmp 69)⟩]⟩, ⟨true, [], [⟨(some 70), none, .extract (.tmp 61) 0⟩,
      ⟨(some 71), none, .extract (.tmp 61) 1⟩,
      ⟨(some 12), none, .val (.tmp 70)⟩]⟩, ⟨false, [], [⟨(some 14), none, .val (.tmp 71)⟩]⟩]) [0, 1, 3, 9, 11, 12, 14, 19, 20, 21])
  (.after (.region [⟨true, [], [⟨(some 73), none, .val (.tmp 1)⟩,
      ⟨(some 74), none, .faddr (.tmp 11) 1⟩,
      ⟨(some 75), none, .load none (.tmp 74)⟩,
      ⟨(some 76), none, .callg 317 [.tmp 75]⟩,
      ⟨(some 77), none, .faddr (.tmp 11) 2⟩,
      ⟨(some 78), none, .load none (.tmp 77)⟩,
      ⟨(some 79), none, .val (.tmp 9)⟩]⟩, ⟨false, [], [⟨(some 80), none, .callg 296 [.tmp 73, .const (.int .i64 (-1)), .tmp 76, .tmp 78, .tmp 79]⟩,
      ⟨(some 72), none, .val (.tmp 80)⟩]⟩, ⟨true, [], [⟨(some 81), none, .extract (.tmp 72) 0⟩,
      ⟨(some 82), none, .extract (.tmp 72) 1⟩,
      ⟨(some 13), none, .val (.tmp 81)⟩]⟩, ⟨false, [], [⟨(some 15), none, .val (.tmp 82)⟩]⟩]) [0, 1, 3, 9, 12, 13, 14, 15, 19, 20, 21]))) [0, 1, 3, 9, 12, 13, 14, 15, 19, 20, 21]))
  (.seq (.seq (.after (.region [⟨false, [], [⟨(some 83), none, .val (.tmp 12)⟩,
      ⟨(some 84), none, .val (.tmp 13)⟩,
      ⟨(some 85), none, .bin .neq (.tmp 83) (.tmp 84)⟩,
      ⟨(some 86), none, .val (.tmp 85)⟩,
      ⟨(some 87), (some (86, false)), .val (.tmp 14)⟩,
      ⟨(some 88), (some (86, false)), .val (.tmp 15)⟩,
      ⟨(some 89), (some (86, false)), .bin .neq (.tmp 87) (.tmp 88)⟩,
      ⟨(some 90), none, .pick (.tmp 86) (.const (.bool true)) (.tmp 89)⟩]⟩]) [0, 1, 3, 9, 12, 14, 19, 20, 21, 90])
  (.after (.cond (.tmp 90) (.seq (.after (.region [⟨false, [], [⟨(some 8), none, .val (.const (.bool false))⟩]⟩]) [8])
  (.live [8] (.ret))) (.skip)) [0, 1, 3, 9, 12, 14, 19, 20, 21]))
  (.seq (.after (.region [⟨false, [], [⟨(some 91), none, .val (.tmp 14)⟩,
      ⟨(some 92), none, .bin .eql (.tmp 91) (.const (.int .i64 0))⟩]⟩]) [0, 1, 3, 9, 12, 19, 20, 21, 92])
  (.after (.cond (.tmp 92) (.after (.region [⟨false, [], [⟨(some 93), none, .val (.tmp 9)⟩,
      ⟨(some 94), none, .val (.tmp 12)⟩,
      ⟨(some 95), none, .build [.int .i64 0, .bool false] [(0, 1, .tmp 94), (1, 1, .const (.bool true))]⟩,
      ⟨(some 96), none, .mkslice 2 1 [.int .i64 0, .bool false] [(0, 2, .tmp 95)]⟩,
      ⟨(some 97), none, .append 2 16 (.tmp 93) (.tmp 96)⟩,
      ⟨(some 9), none, .val (.tmp 97)⟩]⟩]) [0, 1, 3, 9, 19, 20, 21]) (.skip)) [0, 1, 3, 9, 19, 20, 21])))))) (.seq (.after (.region [⟨false, [], [⟨(some 99), none, .bin .eql (.tmp 27) (.const (.int .u8 2))⟩,
      ⟨(some 98), none, .val (.tmp 99)⟩]⟩]) [0, 1, 3, 9, 11, 19, 20, 21, 27, 98])
  (.after (.cond (.tmp 98) (.seq (.seq (.after (.region [⟨false, [], [⟨(some 100), none, .val (.tmp 9)⟩,
      ⟨(some 101), none, .len .sl (.tmp 100)⟩,
      ⟨(some 102), none, .bin .eql (.tmp 101) (.const (.int .i64 0))⟩]⟩]) [0, 1, 3, 9, 11, 19, 20, 21, 102])
  (.after (.cond (.tmp 102) (.live [0, 1, 3, 9, 19, 20, 21] (.exit 1)) (.skip)) [0, 1, 3, 9, 11, 19, 20, 21]))
  (.seq (.after (.region [⟨false, [], [⟨(some 103), none, .val (.tmp 9)⟩,
      ⟨(some 104), none, .faddr (.tmp 11) 3⟩,
      ⟨(some 105), none, .load none (.tmp 104)⟩,
      ⟨(some 106), none, .conv (.int .i64) (.tmp 105)⟩,
      ⟨(some 107), none, .val (.tmp 9)⟩,
      ⟨(some 108), none, .len .sl (.tmp 107)⟩,
      ⟨(some 109), none, .bin .rem (.tmp 106) (.tmp 108)⟩,
      ⟨(some 110), none, .iaddr 2 (.tmp 103) (.tmp 109)⟩,
      ⟨(some 111), none, .faddr (.tmp 110) 0⟩,
      ⟨(some 112), none, .load none (.tmp 111)⟩,
      ⟨(some 16), none, .val (.tmp 112)⟩]⟩]) [0, 1, 3, 9, 11, 16, 19, 20, 21])
  (.seq (.after (.region [⟨false, [], [⟨(some 113), none, .faddr (.tmp 11) 2⟩,
      ⟨(some 114), none, .load none (.tmp 113)⟩,
      ⟨(some 115), none, .build [.int .i64 0, .bool false] [(0, 1, .tmp 114)]⟩,
      ⟨(some 17), none, .lalloc [.int .i64 0, .bool false]⟩,
      ⟨none, none, .store 2 (.tmp 17) (.tmp 115)⟩]⟩]) [0, 1, 3, 9, 11, 16, 17, 19, 20, 21])
  (.seq (.seq (.after (.region [⟨false, [], [⟨(some 116), none, .faddr (.tmp 11) 5⟩,
      ⟨(some 117), none, .load none (.tmp 116)⟩]⟩]) [0, 1, 3, 9, 11, 16, 17, 19, 20, 21, 117])
  (.after (.cond (.tmp 117) (.after (.region [⟨false, [], [⟨(some 118), none, .val (.tmp 9)⟩,
      ⟨(some 119), none, .faddr (.tmp 11) 4⟩,
      ⟨(some 120), none, .load none (.tmp 119)⟩,
      ⟨(some 121), none, .conv (.int .i64) (.tmp 120)⟩,
      ⟨(some 122), none, .val (.tmp 9)⟩,
      ⟨(some 123), none, .len .sl (.tmp 122)⟩,
      ⟨(some 124), none, .bin .rem (.tmp 121) (.tmp 123)⟩,
      ⟨(some 125), none, .iaddr 2 (.tmp 118) (.tmp 124)⟩,
      ⟨(some 126), none, .load (some 2) (.tmp 125)⟩,
      ⟨none, none, .store 2 (.tmp 17) (.tmp 126)⟩]⟩]) [0, 1, 3, 9, 11, 16, 17, 19, 20, 21]) (.skip)) [0, 1, 3, 9, 11, 16, 17, 19, 20, 21]))
  (.seq (.after (.region [⟨true, [0, 0, 0, 4, 12, 28, 60, 0, 255, 0, 0, 0, 2048, 6144, 14336, 30720, 0], [⟨(some 127), none, .val (.tmp 0)⟩,
      ⟨(some 128), none, .val (.tmp 16)⟩,
      ⟨(some 129), none, .faddr (.tmp 11) 4⟩,
      ⟨(some 130), none, .load none (.tmp 129)⟩,
      ⟨(some 131), none, .conv (.int .i64) (.tmp 130)⟩,
      ⟨(some 132), none, .bin .rem (.tmp 131) (.const (.int .i64 6))⟩,
      ⟨(some 133), none, .bin .sub (.tmp 132) (.const (.int .i64 1))⟩,
      ⟨(some 134), none, .load (some 2) (.tmp 17)⟩,
      ⟨(some 135), none, .callg 100295 [.tmp 127, .tmp 128, .tmp 133, .tmp 134]⟩,
      ⟨(some 136), none, .val (.tmp 1)⟩,
      ⟨(some 137), none, .val (.tmp 16)⟩,
      ⟨(some 138), none, .faddr (.tmp 11) 4⟩,
      ⟨(some 139), none, .load none (.tmp 138)⟩,
      ⟨(some 140), none, .conv (.int .i64) (.tmp 139)⟩,
      ⟨(some 141), none, .bin .rem (.tmp 140) (.const (.int .i64 6))⟩,
      ⟨(some 142), none, .bin .sub (.tmp 141) (.const (.int .i64 1))⟩,
      ⟨(some 143), none, .load (some 2) (.tmp 17)⟩]⟩, ⟨false, [], [⟨(some 144), none, .callg 294 [.tmp 136, .tmp 137, .tmp 142, .tmp 143]⟩,
      ⟨(some 145), none, .bin .neq (.tmp 135) (.tmp 144)⟩]⟩]) [0, 1, 3, 9, 19, 20, 21, 145])
  (.after (.cond (.tmp 145) (.seq (.after (.region [⟨false, [], [⟨(some 8), none, .val (.const (.bool false))⟩]⟩]) [8])
  (.live [8] (.ret))) (.skip)) [0, 1, 3, 9, 19, 20, 21])))))) (.seq (.after (.region [⟨false, [], [⟨(some 147), none, .bin .eql (.tmp 27) (.const (.int .u8 3))⟩,
      ⟨(some 146), none, .val (.tmp 147)⟩]⟩]) [0, 1, 3, 9, 11, 19, 20, 21, 146])
  (.after (.cond (.tmp 146) (.seq (.after (.region [⟨false, [], [⟨(some 148), none, .val (.tmp 9)⟩,
      ⟨(some 149), none, .len .sl (.tmp 148)⟩,
      ⟨(some 150), none, .bin .gtr (.tmp 149) (.const (.int .i64 0))⟩]⟩]) [0, 1, 3, 9, 11, 19, 20, 21, 150])
  (.after (.cond (.tmp 150) (.seq (.after (.region [⟨false, [], [⟨(some 151), none, .faddr (.tmp 11) 3⟩,
      ⟨(some 152), none, .load none (.tmp 151)⟩,
      ⟨(some 153), none, .conv (.int .i64) (.tmp 152)⟩,
      ⟨(some 154), none, .val (.tmp 9)⟩,
      ⟨(some 155), none, .len .sl (.tmp 154)⟩,
      ⟨(some 156), none, .bin .rem (.tmp 153) (.tmp 155)⟩,
      ⟨(some 18), none, .val (.tmp 156)⟩]⟩]) [0, 1, 3, 9, 18, 19, 20, 21])
  (.after (.region [⟨true, [], [⟨(some 157), none, .val (.tmp 9)⟩,
      ⟨(some 158), none, .val (.tmp 18)⟩,
      ⟨(some 159), none, .val (.tmp 18)⟩,
      ⟨(some 160), none, .slice (.sl 2) (.tmp 157) none (some (.tmp 158)) (some (.tmp 159))⟩,
      ⟨(some 161), none, .val (.tmp 9)⟩,
      ⟨(some 162), none, .val (.tmp 18)⟩,
      ⟨(some 163), none, .bin .add (.tmp 162) (.const (.int .i64 1))⟩,
      ⟨(some 164), none, .slice (.sl 2) (.tmp 161) (some (.tmp 163)) none none⟩]⟩, ⟨false, [], [⟨(some 165), none, .append 2 16 (.tmp 160) (.tmp 164)⟩,
      ⟨(some 9), none, .val (.tmp 165)⟩]⟩]) [0, 1, 3, 9, 19, 20, 21])) (.skip)) [0, 1, 3, 9, 19, 20, 21])) (.seq (.after (.region [⟨false, [], [⟨(some 28), none, .val (.tmp 3)⟩]⟩]) [0, 1, 3, 9, 19, 20, 21, 28])
  (.after (.cond (.tmp 28) (.after (.region [⟨false, [], [⟨(some 29), none, .val (.tmp 0)⟩,
      ⟨(some 30), none, .val (.tmp 9)⟩,
      ⟨(some 31), none, .callg 292 [.tmp 29, .tmp 30]⟩]⟩]) [0, 1, 3, 9, 19, 20, 21]) (.skip)) [0, 1, 3, 9, 19, 20, 21]))) [0, 1, 3, 9, 19, 20, 21]))) [0, 1, 3, 9, 19, 20, 21]))) [0, 1, 3, 9, 19, 20, 21]))) [0, 1, 3, 9, 19, 20, 21]))
  (.seq (.after (.region [⟨false, [], [⟨(some 166), none, .val (.tmp 0)⟩,
      ⟨(some 167), none, .val (.tmp 1)⟩,
      ⟨(some 168), none, .val (.tmp 9)⟩,
      ⟨(some 169), none, .callg 316 [.tmp 166, .tmp 167, .tmp 168]⟩,
      ⟨(some 170), none, .un .not (.tmp 169)⟩]⟩]) [0, 1, 3, 9, 19, 20, 21, 170])
  (.after (.cond (.tmp 170) (.seq (.after (.region [⟨false, [], [⟨(some 8), none, .val (.const (.bool false))⟩]⟩]) [8])
  (.live [8] (.ret))) (.skip)) [0, 1, 3, 9, 19, 20, 21]))))) [0, 1, 3, 9, 19, 20, 21])
  (.after (.region [⟨false, [], [⟨(some 171), none, .bin .add (.tmp 21) (.const (.int .i64 1))⟩,
      ⟨(some 21), none, .val (.tmp 171)⟩]⟩]) [0, 1, 3, 9, 19, 20, 21]))))
/-- carpetbag.carpetbaglaw27.play -/
def code300 : AFunc := ⟨false, false, 4, 172, [.tmp 8],
  .seq (.after (.region [⟨false, [], [⟨(some 8), none, .val (.const (.bool false))⟩]⟩]) [0, 1, 2, 3])
  (.seq (.after (.region [⟨false, [], [⟨(some 9), none, .val (.const (.slice none 0 (some 0)))⟩]⟩]) [0, 1, 2, 3, 9])
  (.seq (.seq (.after (.region [⟨false, [], [⟨(some 19), none, .val (.tmp 2)⟩,
      ⟨(some 20), none, .len .sl (.tmp 19)⟩,
      ⟨(some 21), none, .val (.const (.int .i64 0))⟩]⟩]) [0, 1, 3, 9, 19, 20, 21])
  (.after (.block 0 (.loop code300L0)) []))
  (.seq (.after (.region [⟨false, [], [⟨(some 8), none, .val (.const (.bool true))⟩]⟩]) [8])
  (.live [8] (.ret))))), none⟩
/-- (*carpetbag.heap.Heap).Get -/
def code304 : AFunc := ⟨false, false, 3, 26, [.cell 6 (some 2), .tmp 7],
  .seq (.after (.region [⟨false, [], [⟨(some 6), none, .lalloc [.int .i64 0, .bool false]⟩,
      ⟨(some 7), none, .val (.const (.int .i64 0))⟩]⟩]) [0, 1, 2, 6])
  (.seq (.after (.region [⟨false, [], [⟨(some 12), none, .val (.tmp 0)⟩,
      ⟨(some 13), none, .val (.tmp 1)⟩,
      ⟨(some 14), none, .val (.tmp 2)⟩,
      ⟨(some 15), none, .callg 313 [.tmp 12, .tmp 13, .tmp 14]⟩,
      ⟨(some 11), none, .val (.tmp 15)⟩,
      ⟨(some 16), none, .extract (.tmp 11) 0⟩,
      ⟨(some 17), none, .extract (.tmp 11) 1⟩,
      ⟨(some 18), none, .extract (.tmp 11) 2⟩,
      ⟨(some 8), none, .val (.tmp 16)⟩,
      ⟨(some 9), none, .val (.tmp 17)⟩,
      ⟨(some 10), none, .val (.tmp 18)⟩]⟩]) [6, 9, 10])
  (.seq (.seq (.after (.region [⟨false, [], [⟨(some 19), none, .val (.tmp 10)⟩,
      ⟨(some 20), none, .bin .neq (.tmp 19) (.const (.int .i64 0))⟩]⟩]) [6, 9, 10, 20])
  (.after (.cond (.tmp 20) (.seq (.after (.region [⟨false, [], [⟨(some 21), none, .build [.int .i64 0, .bool false] []⟩,
      ⟨(some 22), none, .val (.tmp 10)⟩,
      ⟨none, none, .store 2 (.tmp 6) (.tmp 21)⟩,
      ⟨(some 7), none, .val (.tmp 22)⟩]⟩]) [6, 7])
  (.live [6, 7] (.ret))) (.skip)) [6, 9]))
  (.seq (.after (.region [⟨false, [], [⟨(some 23), none, .val (.tmp 9)⟩,
      ⟨(some 24), none, .nilcheck (.tmp 23)⟩,
      ⟨(some 25), none, .load (some 2) (.tmp 24)⟩,
      ⟨none, none, .store 2 (.tmp 6) (.tmp 25)⟩,
      ⟨(some 7), none, .val (.const (.int .i64 0))⟩]⟩]) [6, 7])
  (.live [6, 7] (.ret))))), none⟩
/-- (*carpetbag.heap.Heap).Class -/
def code306 : AFunc := ⟨false, false, 2, 26, [.tmp 4, .tmp 5, .tmp 6],
  .seq (.after (.region [⟨false, [], [⟨(some 4), none, .val (.const (.int .i64 0))⟩,
      ⟨(some 5), none, .val (.const (.str []))⟩,
      ⟨(some 6), none, .val (.const (.int .i64 0))⟩]⟩]) [0, 1])
  (.seq (.after (.region [⟨false, [], [⟨(some 10), none, .val (.tmp 0)⟩,
      ⟨(some 11), none, .val (.tmp 1)⟩,
      ⟨(some 12), none, .callg 315 [.tmp 10, .tmp 11]⟩,
      ⟨(some 9), none, .val (.tmp 12)⟩,
      ⟨(some 13), none, .extract (.tmp 9) 0⟩,
      ⟨(some 14), none, .extract (.tmp 9) 1⟩,
      ⟨(some 7), none, .val (.tmp 13)⟩,
      ⟨(some 8), none, .val (.tmp 14)⟩]⟩]) [7, 8])
  (.seq (.seq (.after (.region [⟨false, [], [⟨(some 15), none, .val (.tmp 8)⟩,
      ⟨(some 16), none, .bin .neq (.tmp 15) (.const (.int .i64 0))⟩]⟩]) [7, 8, 16])
  (.after (.cond (.tmp 16) (.seq (.after (.region [⟨false, [], [⟨(some 17), none, .val (.tmp 8)⟩,
      ⟨(some 4), none, .val (.const (.int .i64 0))⟩,
      ⟨(some 5), none, .val (.const (.str []))⟩,
      ⟨(some 6), none, .val (.tmp 17)⟩]⟩]) [4, 5, 6])
  (.live [4, 5, 6] (.ret))) (.skip)) [7]))
  (.seq (.after (.region [⟨true, [], [⟨(some 18), none, .val (.tmp 7)⟩,
      ⟨(some 19), none, .nilcheck (.tmp 18)⟩,
      ⟨(some 20), none, .faddr (.tmp 19) 0⟩,
      ⟨(some 21), none, .load none (.tmp 20)⟩,
      ⟨(some 22), none, .val (.tmp 7)⟩,
      ⟨(some 23), none, .nilcheck (.tmp 22)⟩,
      ⟨(some 24), none, .faddr (.tmp 23) 1⟩,
      ⟨(some 25), none, .load none (.tmp 24)⟩,
      ⟨(some 4), none, .val (.tmp 21)⟩]⟩, ⟨false, [], [⟨(some 5), none, .val (.tmp 25)⟩,
      ⟨(some 6), none, .val (.const (.int .i64 0))⟩]⟩]) [4, 5, 6])
  (.live [4, 5, 6] (.ret))))), none⟩
/-- (*carpetbag.heap.Heap).Array -/
def code305 : AFunc := ⟨false, false, 4, 26, [.tmp 8, .tmp 9],
  .seq (.after (.region [⟨false, [], [⟨(some 8), none, .val (.const (.int .i64 0))⟩,
      ⟨(some 9), none, .val (.const (.int .i64 0))⟩]⟩]) [0, 1, 2, 3])
  (.seq (.seq (.after (.region [⟨false, [], [⟨(some 10), none, .val (.tmp 2)⟩,
      ⟨(some 11), none, .bin .lss (.tmp 10) (.const (.int .i64 0))⟩,
      ⟨(some 12), none, .val (.tmp 11)⟩,
      ⟨(some 13), (some (12, false)), .val (.tmp 1)⟩,
      ⟨(some 14), (some (12, false)), .callg 88 [.tmp 13, .const (.str [91])]⟩,
      ⟨(some 15), (some (12, false)), .un .not (.tmp 14)⟩,
      ⟨(some 16), none, .pick (.tmp 12) (.const (.bool true)) (.tmp 15)⟩]⟩]) [0, 1, 2, 3, 16])
  (.after (.cond (.tmp 16) (.seq (.after (.region [⟨false, [], [⟨(some 8), none, .val (.const (.int .i64 0))⟩,
      ⟨(some 9), none, .val (.const (.int .i64 1))⟩]⟩]) [8, 9])
  (.live [8, 9] (.ret))) (.skip)) [0, 1, 2, 3]))
  (.seq (.after (.region [⟨false, [], [⟨(some 17), none, .val (.tmp 0)⟩,
      ⟨(some 18), none, .val (.tmp 1)⟩,
      ⟨(some 19), none, .build [.int .i64 0, .str [], .slice none 0 (some 0)] [(0, 1, .const (.int .i64 (-1))), (1, 1, .tmp 18)]⟩,
      ⟨(some 20), none, .box (.tmp 19)⟩,
      ⟨(some 21), none, .val (.tmp 2)⟩,
      ⟨(some 22), none, .val (.tmp 3)⟩,
      ⟨(some 23), none, .callg 308 [.tmp 17, .tmp 20, .tmp 21, .tmp 22]⟩,
      ⟨(some 24), none, .extract (.tmp 23) 0⟩,
      ⟨(some 25), none, .extract (.tmp 23) 1⟩,
      ⟨(some 8), none, .val (.tmp 24)⟩,
      ⟨(some 9), none, .val (.tmp 25)⟩]⟩]) [8, 9])
  (.live [8, 9] (.ret)))), none⟩
def code303L0 : ACode :=
  .live [0, 5, 12] (.seq (.after (.seq (.next (some 13) (.tmp 12)) (.region [⟨false, [], [⟨(some 14), none, .extract (.tmp 13) 0⟩]⟩])) [0, 5, 12, 14])
  (.seq (.after (.cond (.tmp 14) (.skip) (.live [5] (.exit 0))) [0, 5, 12])
  (.after (.block 1 (.seq (.after (.region [⟨false, [], [⟨(some 15), none, .ext .entry [.tmp 12]⟩,
      ⟨(some 16), none, .extract (.tmp 15) 0⟩,
      ⟨(some 6), none, .val (.tmp 16)⟩]⟩]) [0, 5, 6, 12])
  (.after (.region [⟨true, [], [⟨(some 17), none, .val (.tmp 5)⟩,
      ⟨(some 18), none, .val (.tmp 0)⟩,
      ⟨(some 19), none, .nilcheck (.tmp 18)⟩,
      ⟨(some 20), none, .faddr (.tmp 19) 3⟩,
      ⟨(some 21), none, .load none (.tmp 20)⟩,
      ⟨(some 22), none, .val (.tmp 6)⟩,
      ⟨(some 23), none, .ext (.lookup (.one .i) (.ptr none) false) [.tmp 21, .tmp 22]⟩,
      ⟨(some 24), none, .nilcheck (.tmp 23)⟩,
      ⟨(some 25), none, .faddr (.tmp 24) 1⟩,
      ⟨(some 26), none, .load none (.tmp 25)⟩,
      ⟨(some 27), none, .val (.tmp 0)⟩,
      ⟨(some 28), none, .nilcheck (.tmp 27)⟩,
      ⟨(some 29), none, .faddr (.tmp 28) 3⟩,
      ⟨(some 30), none, .load none (.tmp 29)⟩,
      ⟨(some 31), none, .val (.tmp 6)⟩,
      ⟨(some 32), none, .ext (.lookup (.one .i) (.ptr none) false) [.tmp 30, .tmp 31]⟩,
      ⟨(some 33), none, .nilcheck (.tmp 32)⟩,
      ⟨(some 34), none, .faddr (.tmp 33) 2⟩,
      ⟨(some 35), none, .load none (.tmp 34)⟩,
      ⟨(some 36), none, .len .sl (.tmp 35)⟩,
      ⟨(some 37), none, .callg 311 [.tmp 26, .tmp 36]⟩]⟩, ⟨false, [], [⟨(some 38), none, .bin .add (.tmp 17) (.tmp 37)⟩,
      ⟨(some 5), none, .val (.tmp 38)⟩]⟩]) [0, 5, 12]))) [0, 5, 12])))
/-- (*carpetbag.heap.Heap).Live -/
def code303 : AFunc := ⟨false, true, 2, 40, [.tmp 4],
  .seq (.after (.region [⟨false, [], [⟨(some 4), none, .val (.const (.int .i64 0))⟩]⟩]) [0, 1])
  (.seq (.seq (.after (.region [⟨false, [], [⟨(some 7), none, .val (.tmp 0)⟩,
      ⟨(some 8), none, .eqnil .ptr false (.tmp 7) (.const (.ptr none))⟩]⟩]) [0, 1, 8])
  (.after (.cond (.tmp 8) (.seq (.after (.region [⟨false, [], [⟨(some 4), none, .val (.const (.int .i64 0))⟩]⟩]) [4])
  (.live [4] (.ret))) (.skip)) [0, 1]))
  (.seq (.after (.region [⟨false, [], [⟨(some 5), none, .val (.const (.int .i64 0))⟩]⟩]) [0, 1, 5])
  (.seq (.seq (.after (.region [⟨false, [], [⟨(some 9), none, .val (.tmp 0)⟩,
      ⟨(some 10), none, .val (.tmp 1)⟩,
      ⟨(some 11), none, .callg 312 [.tmp 9, .tmp 10]⟩,
      ⟨(some 12), none, .ext .mkiter [.tmp 11]⟩]⟩]) [0, 5, 12])
  (.after (.block 0 (.loop code303L0)) [5]))
  (.seq (.after (.region [⟨false, [], [⟨(some 39), none, .val (.tmp 5)⟩,
      ⟨(some 4), none, .val (.tmp 39)⟩]⟩]) [4])
  (.live [4] (.ret)))))), none⟩
def code308L0 : ACode :=
  .live [0, 1, 10, 77, 78] (.seq (.after (.region [⟨false, [], [⟨(some 79), none, .bin .lss (.tmp 78) (.tmp 77)⟩]⟩]) [0, 1, 10, 77, 78, 79])
  (.seq (.after (.cond (.tmp 79) (.skip) (.live [0, 1, 10] (.exit 0))) [0, 1, 10, 77, 78])
  (.seq (.after (.block 1 (.seq (.after (.region [⟨false, [], [⟨(some 80), none, .val (.tmp 78)⟩,
      ⟨(some 11), none, .val (.tmp 80)⟩]⟩]) [0, 1, 10, 11, 77, 78])
  (.after (.region [⟨false, [], [⟨(some 81), none, .val (.tmp 1)⟩,
      ⟨(some 82), none, .nilcheck (.tmp 81)⟩,
      ⟨(some 83), none, .faddr (.tmp 82) 2⟩,
      ⟨(some 84), none, .load none (.tmp 83)⟩,
      ⟨(some 85), none, .val (.tmp 11)⟩,
      ⟨(some 86), none, .iaddr 2 (.tmp 84) (.tmp 85)⟩,
      ⟨(some 87), none, .faddr (.tmp 86) 1⟩,
      ⟨none, none, .store 1 (.tmp 87) (.const (.bool true))⟩]⟩]) [0, 1, 10, 77, 78]))) [0, 1, 10, 77, 78])
  (.after (.region [⟨false, [], [⟨(some 88), none, .bin .add (.tmp 78) (.const (.int .i64 1))⟩,
      ⟨(some 78), none, .val (.tmp 88)⟩]⟩]) [0, 1, 10, 77, 78]))))
/-- (*carpetbag.heap.Heap).put -/
def code308 : AFunc := ⟨false, false, 4, 117, [.tmp 8, .tmp 9],
  .seq (.after (.region [⟨false, [], [⟨(some 8), none, .val (.const (.int .i64 0))⟩,
      ⟨(some 9), none, .val (.const (.int .i64 0))⟩]⟩]) [0, 1, 2, 3])
  (.seq (.seq (.after (.region [⟨false, [], [⟨(some 12), none, .val (.tmp 0)⟩,
      ⟨(some 13), none, .eqnil .ptr false (.tmp 12) (.const (.ptr none))⟩,
      ⟨(some 14), none, .val (.tmp 13)⟩,
      ⟨(some 15), (some (14, false)), .val (.tmp 2)⟩,
      ⟨(some 16), (some (14, false)), .bin .gtr (.tmp 15) (.const (.int .i64 1099511627776))⟩,
      ⟨(some 17), none, .pick (.tmp 14) (.const (.bool true)) (.tmp 16)⟩]⟩]) [0, 1, 2, 3, 17])
  (.after (.cond (.tmp 17) (.seq (.after (.region [⟨false, [], [⟨(some 8), none, .val (.const (.int .i64 0))⟩,
      ⟨(some 9), none, .val (.const (.int .i64 10))⟩]⟩]) [8, 9])
  (.live [8, 9] (.ret))) (.skip)) [0, 1, 2, 3]))
  (.seq (.after (.region [⟨false, [], [⟨(some 18), none, .val (.tmp 1)⟩,
      ⟨(some 19), none, .nilcheck (.tmp 18)⟩,
      ⟨(some 20), none, .faddr (.tmp 19) 1⟩,
      ⟨(some 21), none, .load none (.tmp 20)⟩,
      ⟨(some 22), none, .val (.tmp 2)⟩,
      ⟨(some 23), none, .callg 311 [.tmp 21, .tmp 22]⟩,
      ⟨(some 10), none, .val (.tmp 23)⟩]⟩]) [0, 1, 2, 3, 10])
  (.seq (.seq (.after (.region [⟨true, [], [⟨(some 24), none, .val (.tmp 10)⟩,
      ⟨(some 25), none, .val (.tmp 0)⟩,
      ⟨(some 26), none, .nilcheck (.tmp 25)⟩,
      ⟨(some 27), none, .faddr (.tmp 26) 0⟩,
      ⟨(some 28), none, .load none (.tmp 27)⟩,
      ⟨(some 29), none, .val (.tmp 0)⟩,
      ⟨(some 30), none, .nilcheck (.tmp 29)⟩,
      ⟨(some 31), none, .faddr (.tmp 30) 1⟩,
      ⟨(some 32), none, .load none (.tmp 31)⟩,
      ⟨(some 33), none, .bin .sub (.tmp 28) (.tmp 32)⟩]⟩, ⟨false, [], [⟨(some 34), none, .bin .gtr (.tmp 24) (.tmp 33)⟩]⟩]) [0, 1, 2, 3, 10, 34])
  (.after (.cond (.tmp 34) (.after (.region [⟨false, [], [⟨(some 35), none, .val (.tmp 0)⟩,
      ⟨(some 36), none, .val (.tmp 3)⟩,
      ⟨(some 37), none, .callg 292 [.tmp 35, .tmp 36]⟩]⟩]) [0, 1, 2, 10]) (.skip)) [0, 1, 2, 10]))
  (.seq (.seq (.after (.region [⟨true, [], [⟨(some 38), none, .val (.tmp 10)⟩,
      ⟨(some 39), none, .val (.tmp 0)⟩,
      ⟨(some 40), none, .nilcheck (.tmp 39)⟩,
      ⟨(some 41), none, .faddr (.tmp 40) 0⟩,
      ⟨(some 42), none, .load none (.tmp 41)⟩,
      ⟨(some 43), none, .val (.tmp 0)⟩,
      ⟨(some 44), none, .nilcheck (.tmp 43)⟩,
      ⟨(some 45), none, .faddr (.tmp 44) 1⟩,
      ⟨(some 46), none, .load none (.tmp 45)⟩,
      ⟨(some 47), none, .bin .sub (.tmp 42) (.tmp 46)⟩]⟩, ⟨false, [], [⟨(some 48), none, .bin .gtr (.tmp 38) (.tmp 47)⟩]⟩]) [0, 1, 2, 10, 48])
  (.after (.cond (.tmp 48) (.seq (.after (.region [⟨false, [], [⟨(some 8), none, .val (.const (.int .i64 0))⟩,
      ⟨(some 9), none, .val (.const (.int .i64 10))⟩]⟩]) [8, 9])
  (.live [8, 9] (.ret))) (.skip)) [0, 1, 2, 10]))
  (.seq (.after (.region [⟨false, [], [⟨(some 49), none, .val (.tmp 1)⟩,
      ⟨(some 50), none, .val (.tmp 2)⟩,
      ⟨(some 51), none, .make 2 16 [.int .i64 0, .bool false] (.tmp 50) (.tmp 50)⟩,
      ⟨(some 52), none, .nilcheck (.tmp 49)⟩,
      ⟨(some 53), none, .faddr (.tmp 52) 2⟩,
      ⟨none, none, .store 1 (.tmp 53) (.tmp 51)⟩]⟩]) [0, 1, 10])
  (.seq (.seq (.after (.region [⟨false, [], [⟨(some 54), none, .val (.tmp 1)⟩,
      ⟨(some 55), none, .nilcheck (.tmp 54)⟩,
      ⟨(some 56), none, .faddr (.tmp 55) 1⟩,
      ⟨(some 57), none, .load none (.tmp 56)⟩,
      ⟨(some 58), none, .bin .neq (.tmp 57) (.const (.str []))⟩,
      ⟨(some 59), none, .val (.tmp 58)⟩,
      ⟨(some 60), (some (59, true)), .val (.tmp 1)⟩,
      ⟨(some 61), (some (59, true)), .nilcheck (.tmp 60)⟩,
      ⟨(some 62), (some (59, true)), .faddr (.tmp 61) 1⟩,
      ⟨(some 63), (some (59, true)), .load none (.tmp 62)⟩,
      ⟨(some 64), (some (59, true)), .bin .neq (.tmp 63) (.const (.str [91, 73]))⟩,
      ⟨(some 65), none, .pick (.tmp 59) (.tmp 64) (.const (.bool false))⟩,
      ⟨(some 66), none, .val (.tmp 65)⟩,
      ⟨(some 67), (some (66, true)), .val (.tmp 1)⟩,
      ⟨(some 68), (some (66, true)), .nilcheck (.tmp 67)⟩,
      ⟨(some 69), (some (66, true)), .faddr (.tmp 68) 1⟩,
      ⟨(some 70), (some (66, true)), .load none (.tmp 69)⟩,
      ⟨(some 71), (some (66, true)), .bin .neq (.tmp 70) (.const (.str [91, 66]))⟩,
      ⟨(some 72), none, .pick (.tmp 66) (.tmp 71) (.const (.bool false))⟩]⟩]) [0, 1, 10, 72])
  (.after (.cond (.tmp 72) (.seq (.after (.region [⟨false, [], [⟨(some 73), none, .val (.tmp 1)⟩,
      ⟨(some 74), none, .nilcheck (.tmp 73)⟩,
      ⟨(some 75), none, .faddr (.tmp 74) 2⟩,
      ⟨(some 76), none, .load none (.tmp 75)⟩,
      ⟨(some 77), none, .len .sl (.tmp 76)⟩,
      ⟨(some 78), none, .val (.const (.int .i64 0))⟩]⟩]) [0, 1, 10, 77, 78])
  (.after (.block 0 (.loop code308L0)) [0, 1, 10])) (.skip)) [0, 1, 10]))
  (.seq (.after (.region [⟨false, [], [⟨(some 89), none, .val (.tmp 0)⟩,
      ⟨(some 90), none, .nilcheck (.tmp 89)⟩,
      ⟨(some 91), none, .faddr (.tmp 90) 2⟩,
      ⟨(some 92), none, .load none (.tmp 91)⟩,
      ⟨(some 93), none, .bin .add (.tmp 92) (.const (.int .i64 1))⟩,
      ⟨(some 94), none, .nilcheck (.tmp 89)⟩,
      ⟨(some 95), none, .faddr (.tmp 94) 2⟩,
      ⟨none, none, .store 1 (.tmp 95) (.tmp 93)⟩]⟩]) [0, 1, 10])
  (.seq (.after (.region [⟨true, [], [⟨(some 96), none, .val (.tmp 0)⟩,
      ⟨(some 97), none, .nilcheck (.tmp 96)⟩,
      ⟨(some 98), none, .faddr (.tmp 97) 3⟩,
      ⟨(some 99), none, .load none (.tmp 98)⟩,
      ⟨(some 100), none, .val (.tmp 0)⟩,
      ⟨(some 101), none, .nilcheck (.tmp 100)⟩,
      ⟨(some 102), none, .faddr (.tmp 101) 2⟩,
      ⟨(some 103), none, .load none (.tmp 102)⟩,
      ⟨(some 104), none, .val (.tmp 1)⟩]⟩, ⟨false, [], [⟨none, none, .ext (.mapupd (.one .i)) [.tmp 99, .tmp 103, .tmp 104]⟩]⟩]) [0, 10])
  (.seq (.after (.region [⟨false, [], [⟨(some 105), none, .val (.tmp 0)⟩,
      ⟨(some 106), none, .nilcheck (.tmp 105)⟩,
      ⟨(some 107), none, .faddr (.tmp 106) 1⟩,
      ⟨(some 108), none, .load none (.tmp 107)⟩,
      ⟨(some 109), none, .val (.tmp 10)⟩,
      ⟨(some 110), none, .bin .add (.tmp 108) (.tmp 109)⟩,
      ⟨(some 111), none, .nilcheck (.tmp 105)⟩,
      ⟨(some 112), none, .faddr (.tmp 111) 1⟩,
      ⟨none, none, .store 1 (.tmp 112) (.tmp 110)⟩]⟩]) [0])
  (.seq (.after (.region [⟨false, [], [⟨(some 113), none, .val (.tmp 0)⟩,
      ⟨(some 114), none, .nilcheck (.tmp 113)⟩,
      ⟨(some 115), none, .faddr (.tmp 114) 2⟩,
      ⟨(some 116), none, .load none (.tmp 115)⟩,
      ⟨(some 8), none, .val (.tmp 116)⟩,
      ⟨(some 9), none, .val (.const (.int .i64 0))⟩]⟩]) [8, 9])
  (.live [8, 9] (.ret)))))))))))), none⟩
/-- carpetbag.carpetbagref27.Size -/
def code309 : AFunc := ⟨false, false, 2, 13, [.tmp 4],
  .seq (.after (.region [⟨false, [], [⟨(some 4), none, .val (.const (.int .i64 0))⟩]⟩]) [0, 1])
  (.seq (.seq (.after (.region [⟨false, [], [⟨(some 5), none, .val (.tmp 0)⟩,
      ⟨(some 6), none, .bin .eql (.tmp 5) (.const (.str [91, 66]))⟩]⟩]) [1, 6])
  (.after (.cond (.tmp 6) (.seq (.after (.region [⟨false, [], [⟨(some 7), none, .val (.tmp 1)⟩,
      ⟨(some 8), none, .bin .add (.tmp 7) (.const (.int .i64 7))⟩,
      ⟨(some 9), none, .bin .quo (.tmp 8) (.const (.int .i64 8))⟩,
      ⟨(some 10), none, .bin .add (.const (.int .i64 2)) (.tmp 9)⟩,
      ⟨(some 4), none, .val (.tmp 10)⟩]⟩]) [4])
  (.live [4] (.ret))) (.skip)) [1]))
  (.seq (.after (.region [⟨false, [], [⟨(some 11), none, .val (.tmp 1)⟩,
      ⟨(some 12), none, .bin .add (.const (.int .i64 2)) (.tmp 11)⟩,
      ⟨(some 4), none, .val (.tmp 12)⟩]⟩]) [4])
  (.live [4] (.ret)))), none⟩
def code310L0 : ACode :=
  .live [0, 5, 10, 11, 12] (.seq (.after (.region [⟨false, [], [⟨(some 13), none, .bin .lss (.tmp 12) (.tmp 11)⟩]⟩]) [0, 5, 10, 11, 12, 13])
  (.seq (.after (.cond (.tmp 13) (.skip) (.live [5] (.exit 0))) [0, 5, 10, 11, 12])
  (.seq (.after (.block 1 (.seq (.after (.region [⟨false, [], [⟨(some 14), none, .val (.tmp 12)⟩,
      ⟨(some 15), none, .iaddr 1 (.tmp 10) (.tmp 12)⟩,
      ⟨(some 16), none, .load none (.tmp 15)⟩,
      ⟨(some 6), none, .val (.tmp 14)⟩,
      ⟨(some 7), none, .val (.tmp 16)⟩]⟩]) [0, 5, 6, 7, 10, 11, 12])
  (.seq (.after (.region [⟨false, [], [⟨(some 17), none, .val (.tmp 7)⟩]⟩]) [0, 5, 6, 10, 11, 12, 17])
  (.after (.cond (.tmp 17) (.after (.region [⟨true, [], [⟨(some 18), none, .val (.tmp 5)⟩,
      ⟨(some 19), none, .val (.tmp 0)⟩,
      ⟨(some 20), none, .nilcheck (.tmp 19)⟩,
      ⟨(some 21), none, .faddr (.tmp 20) 1⟩,
      ⟨(some 22), none, .load none (.tmp 21)⟩,
      ⟨(some 23), none, .val (.tmp 6)⟩,
      ⟨(some 24), none, .bin .sub (.tmp 23) (.const (.int .i64 1))⟩,
      ⟨(some 25), none, .iaddr 3 (.tmp 22) (.tmp 24)⟩,
      ⟨(some 26), none, .faddr (.tmp 25) 1⟩,
      ⟨(some 27), none, .load none (.tmp 26)⟩,
      ⟨(some 28), none, .val (.tmp 0)⟩,
      ⟨(some 29), none, .nilcheck (.tmp 28)⟩,
      ⟨(some 30), none, .faddr (.tmp 29) 1⟩,
      ⟨(some 31), none, .load none (.tmp 30)⟩,
      ⟨(some 32), none, .val (.tmp 6)⟩,
      ⟨(some 33), none, .bin .sub (.tmp 32) (.const (.int .i64 1))⟩,
      ⟨(some 34), none, .iaddr 3 (.tmp 31) (.tmp 33)⟩,
      ⟨(some 35), none, .faddr (.tmp 34) 2⟩,
      ⟨(some 36), none, .load none (.tmp 35)⟩,
      ⟨(some 37), none, .len .sl (.tmp 36)⟩,
      ⟨(some 38), none, .callg 309 [.tmp 27, .tmp 37]⟩]⟩, ⟨false, [], [⟨(some 39), none, .bin .add (.tmp 18) (.tmp 38)⟩,
      ⟨(some 5), none, .val (.tmp 39)⟩]⟩]) [0, 5, 10, 11, 12]) (.skip)) [0, 5, 10, 11, 12])))) [0, 5, 10, 11, 12])
  (.after (.region [⟨false, [], [⟨(some 40), none, .bin .add (.tmp 12) (.const (.int .i64 1))⟩,
      ⟨(some 12), none, .val (.tmp 40)⟩]⟩]) [0, 5, 10, 11, 12]))))
/-- (*carpetbag.carpetbagref27.Heap).Live -/
def code310 : AFunc := ⟨false, false, 2, 42, [.tmp 4],
  .seq (.after (.region [⟨false, [], [⟨(some 4), none, .val (.const (.int .i64 0))⟩]⟩]) [0, 1])
  (.seq (.after (.region [⟨false, [], [⟨(some 5), none, .val (.const (.int .i64 0))⟩]⟩]) [0, 1, 5])
  (.seq (.seq (.after (.region [⟨false, [], [⟨(some 8), none, .val (.tmp 0)⟩,
      ⟨(some 9), none, .val (.tmp 1)⟩,
      ⟨(some 10), none, .callg 293 [.tmp 8, .tmp 9]⟩,
      ⟨(some 11), none, .len .sl (.tmp 10)⟩,
      ⟨(some 12), none, .val (.const (.int .i64 0))⟩]⟩]) [0, 5, 10, 11, 12])
  (.after (.block 0 (.loop code310L0)) [5]))
  (.seq (.after (.region [⟨false, [], [⟨(some 41), none, .val (.tmp 5)⟩,
      ⟨(some 4), none, .val (.tmp 41)⟩]⟩]) [4])
  (.live [4] (.ret))))), none⟩
def code312L0 : ACode :=
  .live [5, 6, 7] (.seq (.seq (.after (.region [⟨false, [], [⟨(some 14), none, .load none (.tmp 6)⟩,
      ⟨(some 15), none, .len .sl (.tmp 14)⟩,
      ⟨(some 16), none, .bin .gtr (.tmp 15) (.const (.int .i64 0))⟩]⟩]) [5, 6, 7, 16])
  (.after (.cond (.tmp 16) (.skip) (.live [5] (.exit 0))) [5, 6, 7]))
  (.after (.block 1 (.seq (.after (.region [⟨false, [], [⟨(some 17), none, .load none (.tmp 6)⟩,
      ⟨(some 18), none, .load none (.tmp 6)⟩,
      ⟨(some 19), none, .len .sl (.tmp 18)⟩,
      ⟨(some 20), none, .bin .sub (.tmp 19) (.const (.int .i64 1))⟩,
      ⟨(some 21), none, .iaddr 1 (.tmp 17) (.tmp 20)⟩,
      ⟨(some 22), none, .load none (.tmp 21)⟩,
      ⟨(some 8), none, .val (.tmp 22)⟩]⟩]) [5, 6, 7, 8])
  (.seq (.after (.region [⟨false, [], [⟨(some 23), none, .load none (.tmp 6)⟩,
      ⟨(some 24), none, .load none (.tmp 6)⟩,
      ⟨(some 25), none, .len .sl (.tmp 24)⟩,
      ⟨(some 26), none, .bin .sub (.tmp 25) (.const (.int .i64 1))⟩,
      ⟨(some 27), none, .slice (.sl 1) (.tmp 23) none (some (.tmp 26)) none⟩,
      ⟨none, none, .store 1 (.tmp 6) (.tmp 27)⟩]⟩]) [5, 6, 7, 8])
  (.after (.region [⟨false, [], [⟨(some 28), none, .val (.tmp 7)⟩,
      ⟨(some 29), none, .val (.tmp 8)⟩,
      ⟨(some 30), none, .nilcheck (.tmp 29)⟩,
      ⟨(some 31), none, .faddr (.tmp 30) 2⟩,
      ⟨(some 32), none, .load none (.tmp 31)⟩,
      ⟨(some 33), none, .call (.tmp 28) [.tmp 32]⟩]⟩]) [5, 6, 7])))) [5, 6, 7]))
/-- (*carpetbag.heap.Heap).reach -/
def code312 : AFunc := ⟨false, false, 2, 35, [.tmp 4],
  .seq (.after (.region [⟨false, [], [⟨(some 2), none, .box (.tmp 0)⟩,
      ⟨(some 4), none, .val (.const (.map none))⟩]⟩]) [1, 2])
  (.seq (.after (.region [⟨false, [], [⟨(some 9), none, .ext .mkmap []⟩,
      ⟨(some 5), none, .alloc 1 [.map none]⟩,
      ⟨none, none, .store 1 (.tmp 5) (.tmp 9)⟩]⟩]) [1, 2, 5])
  (.seq (.after (.region [⟨false, [], [⟨(some 6), none, .alloc 1 [.slice none 0 (some 0)]⟩]⟩]) [1, 2, 5, 6])
  (.seq (.after (.region [⟨false, [], [⟨(some 10), none, .mkfunc 318 [] [.tmp 2, .tmp 5, .tmp 6]⟩,
      ⟨(some 7), none, .val (.tmp 10)⟩]⟩]) [1, 5, 6, 7])
  (.seq (.seq (.after (.region [⟨false, [], [⟨(some 11), none, .val (.tmp 7)⟩,
      ⟨(some 12), none, .val (.tmp 1)⟩,
      ⟨(some 13), none, .call (.tmp 11) [.tmp 12]⟩]⟩]) [5, 6, 7])
  (.after (.block 0 (.loop code312L0)) [5]))
  (.seq (.after (.region [⟨false, [], [⟨(some 34), none, .load none (.tmp 5)⟩,
      ⟨(some 4), none, .val (.tmp 34)⟩]⟩]) [4])
  (.live [4] (.ret))))))), none⟩
/-- carpetbag.heap.size -/
def code311 : AFunc := ⟨false, false, 2, 13, [.tmp 4],
  .seq (.after (.region [⟨false, [], [⟨(some 4), none, .val (.const (.int .i64 0))⟩]⟩]) [0, 1])
  (.seq (.seq (.after (.region [⟨false, [], [⟨(some 5), none, .val (.tmp 0)⟩,
      ⟨(some 6), none, .bin .eql (.tmp 5) (.const (.str [91, 66]))⟩]⟩]) [1, 6])
  (.after (.cond (.tmp 6) (.after (.region [⟨false, [], [⟨(some 7), none, .val (.tmp 1)⟩,
      ⟨(some 8), none, .bin .add (.tmp 7) (.const (.int .i64 8))⟩,
      ⟨(some 9), none, .bin .sub (.tmp 8) (.const (.int .i64 1))⟩,
      ⟨(some 10), none, .bin .quo (.tmp 9) (.const (.int .i64 8))⟩,
      ⟨(some 1), none, .val (.tmp 10)⟩]⟩]) [1]) (.skip)) [1]))
  (.seq (.after (.region [⟨false, [], [⟨(some 11), none, .val (.tmp 1)⟩,
      ⟨(some 12), none, .bin .add (.const (.int .i64 2)) (.tmp 11)⟩,
      ⟨(some 4), none, .val (.tmp 12)⟩]⟩]) [4])
  (.live [4] (.ret)))), none⟩
/-- (*carpetbag.heap.Heap).cell -/
def code313 : AFunc := ⟨false, false, 3, 40, [.tmp 6, .tmp 7, .tmp 8],
  .seq (.after (.region [⟨false, [], [⟨(some 6), none, .val (.const (.ptr none))⟩,
      ⟨(some 7), none, .val (.const (.ptr none))⟩,
      ⟨(some 8), none, .val (.const (.int .i64 0))⟩]⟩]) [0, 1, 2])
  (.seq (.after (.region [⟨false, [], [⟨(some 12), none, .val (.tmp 0)⟩,
      ⟨(some 13), none, .val (.tmp 1)⟩,
      ⟨(some 14), none, .callg 315 [.tmp 12, .tmp 13]⟩,
      ⟨(some 11), none, .val (.tmp 14)⟩,
      ⟨(some 15), none, .extract (.tmp 11) 0⟩,
      ⟨(some 16), none, .extract (.tmp 11) 1⟩,
      ⟨(some 9), none, .val (.tmp 15)⟩,
      ⟨(some 10), none, .val (.tmp 16)⟩]⟩]) [2, 9, 10])
  (.seq (.after (.block 0 (.seq (.after (.region [⟨false, [], [⟨(some 18), none, .val (.tmp 10)⟩,
      ⟨(some 19), none, .bin .neq (.tmp 18) (.const (.int .i64 0))⟩,
      ⟨(some 17), none, .val (.tmp 19)⟩]⟩]) [2, 9, 10, 17])
  (.after (.cond (.tmp 17) (.seq (.after (.region [⟨false, [], [⟨(some 20), none, .val (.tmp 10)⟩,
      ⟨(some 6), none, .val (.const (.ptr none))⟩,
      ⟨(some 7), none, .val (.const (.ptr none))⟩,
      ⟨(some 8), none, .val (.tmp 20)⟩]⟩]) [6, 7, 8])
  (.live [6, 7, 8] (.ret))) (.seq (.after (.region [⟨false, [], [⟨(some 22), none, .val (.tmp 2)⟩,
      ⟨(some 23), none, .bin .lss (.tmp 22) (.const (.int .i64 0))⟩,
      ⟨(some 24), none, .val (.tmp 23)⟩,
      ⟨(some 25), (some (24, false)), .val (.tmp 2)⟩,
      ⟨(some 26), (some (24, false)), .val (.tmp 9)⟩,
      ⟨(some 27), (some (24, false)), .nilcheck (.tmp 26)⟩,
      ⟨(some 28), (some (24, false)), .faddr (.tmp 27) 2⟩,
      ⟨(some 29), (some (24, false)), .load none (.tmp 28)⟩,
      ⟨(some 30), (some (24, false)), .len .sl (.tmp 29)⟩,
      ⟨(some 31), (some (24, false)), .bin .geq (.tmp 25) (.tmp 30)⟩,
      ⟨(some 32), none, .pick (.tmp 24) (.const (.bool true)) (.tmp 31)⟩,
      ⟨(some 21), none, .val (.tmp 32)⟩]⟩]) [2, 9, 21])
  (.after (.cond (.tmp 21) (.seq (.after (.region [⟨false, [], [⟨(some 6), none, .val (.const (.ptr none))⟩,
      ⟨(some 7), none, .val (.const (.ptr none))⟩,
      ⟨(some 8), none, .val (.const (.int .i64 2))⟩]⟩]) [6, 7, 8])
  (.live [6, 7, 8] (.ret))) (.skip)) [2, 9]))) [2, 9]))) [2, 9])
  (.seq (.after (.region [⟨true, [], [⟨(some 33), none, .val (.tmp 9)⟩,
      ⟨(some 34), none, .val (.tmp 9)⟩,
      ⟨(some 35), none, .nilcheck (.tmp 34)⟩,
      ⟨(some 36), none, .faddr (.tmp 35) 2⟩,
      ⟨(some 37), none, .load none (.tmp 36)⟩,
      ⟨(some 38), none, .val (.tmp 2)⟩,
      ⟨(some 39), none, .iaddr 2 (.tmp 37) (.tmp 38)⟩,
      ⟨(some 6), none, .val (.tmp 33)⟩]⟩, ⟨false, [], [⟨(some 7), none, .val (.tmp 39)⟩,
      ⟨(some 8), none, .val (.const (.int .i64 0))⟩]⟩]) [6, 7, 8])
  (.live [6, 7, 8] (.ret))))), none⟩
/-- (*carpetbag.carpetbagref27.Heap).At -/
def code314 : AFunc := ⟨false, false, 2, 26, [.cell 4 (some 3), .tmp 5],
  .seq (.after (.region [⟨false, [], [⟨(some 4), none, .lalloc [.int .i64 0, .str [], .slice none 0 (some 0)]⟩,
      ⟨(some 5), none, .val (.const (.bool false))⟩]⟩]) [0, 1, 4])
  (.seq (.seq (.after (.region [⟨false, [], [⟨(some 6), none, .val (.tmp 1)⟩,
      ⟨(some 7), none, .bin .lss (.tmp 6) (.const (.int .i64 1))⟩,
      ⟨(some 8), none, .val (.tmp 7)⟩,
      ⟨(some 9), (some (8, false)), .val (.tmp 1)⟩,
      ⟨(some 10), (some (8, false)), .val (.tmp 0)⟩,
      ⟨(some 11), (some (8, false)), .nilcheck (.tmp 10)⟩,
      ⟨(some 12), (some (8, false)), .faddr (.tmp 11) 1⟩,
      ⟨(some 13), (some (8, false)), .load none (.tmp 12)⟩,
      ⟨(some 14), (some (8, false)), .len .sl (.tmp 13)⟩,
      ⟨(some 15), (some (8, false)), .bin .gtr (.tmp 9) (.tmp 14)⟩,
      ⟨(some 16), none, .pick (.tmp 8) (.const (.bool true)) (.tmp 15)⟩]⟩]) [0, 1, 4, 16])
  (.after (.cond (.tmp 16) (.seq (.after (.region [⟨false, [], [⟨(some 17), none, .build [.int .i64 0, .str [], .slice none 0 (some 0)] []⟩,
      ⟨none, none, .store 3 (.tmp 4) (.tmp 17)⟩,
      ⟨(some 5), none, .val (.const (.bool false))⟩]⟩]) [4, 5])
  (.live [4, 5] (.ret))) (.skip)) [0, 1, 4]))
  (.seq (.after (.region [⟨false, [], [⟨(some 18), none, .val (.tmp 0)⟩,
      ⟨(some 19), none, .nilcheck (.tmp 18)⟩,
      ⟨(some 20), none, .faddr (.tmp 19) 1⟩,
      ⟨(some 21), none, .load none (.tmp 20)⟩,
      ⟨(some 22), none, .val (.tmp 1)⟩,
      ⟨(some 23), none, .bin .sub (.tmp 22) (.const (.int .i64 1))⟩,
      ⟨(some 24), none, .iaddr 3 (.tmp 21) (.tmp 23)⟩,
      ⟨(some 25), none, .load (some 3) (.tmp 24)⟩,
      ⟨none, none, .store 3 (.tmp 4) (.tmp 25)⟩,
      ⟨(some 5), none, .val (.const (.bool true))⟩]⟩]) [4, 5])
  (.live [4, 5] (.ret)))), none⟩
/-- (*carpetbag.heap.Heap).at -/
def code315 : AFunc := ⟨false, false, 2, 23, [.tmp 4, .tmp 5],
  .seq (.after (.region [⟨false, [], [⟨(some 4), none, .val (.const (.ptr none))⟩,
      ⟨(some 5), none, .val (.const (.int .i64 0))⟩]⟩]) [0, 1])
  (.seq (.seq (.after (.region [⟨false, [], [⟨(some 6), none, .val (.tmp 0)⟩,
      ⟨(some 7), none, .eqnil .ptr false (.tmp 6) (.const (.ptr none))⟩,
      ⟨(some 8), none, .val (.tmp 7)⟩,
      ⟨(some 9), (some (8, false)), .val (.tmp 0)⟩,
      ⟨(some 10), (some (8, false)), .nilcheck (.tmp 9)⟩,
      ⟨(some 11), (some (8, false)), .faddr (.tmp 10) 3⟩,
      ⟨(some 12), (some (8, false)), .load none (.tmp 11)⟩,
      ⟨(some 13), (some (8, false)), .val (.tmp 1)⟩,
      ⟨(some 14), (some (8, false)), .ext (.lookup (.one .i) (.ptr none) false) [.tmp 12, .tmp 13]⟩,
      ⟨(some 15), (some (8, false)), .eqnil .ptr false (.tmp 14) (.const (.ptr none))⟩,
      ⟨(some 16), none, .pick (.tmp 8) (.const (.bool true)) (.tmp 15)⟩]⟩]) [0, 1, 16])
  (.after (.cond (.tmp 16) (.seq (.after (.region [⟨false, [], [⟨(some 4), none, .val (.const (.ptr none))⟩,
      ⟨(some 5), none, .val (.const (.int .i64 11))⟩]⟩]) [4, 5])
  (.live [4, 5] (.ret))) (.skip)) [0, 1]))
  (.seq (.after (.region [⟨false, [], [⟨(some 17), none, .val (.tmp 0)⟩,
      ⟨(some 18), none, .nilcheck (.tmp 17)⟩,
      ⟨(some 19), none, .faddr (.tmp 18) 3⟩,
      ⟨(some 20), none, .load none (.tmp 19)⟩,
      ⟨(some 21), none, .val (.tmp 1)⟩,
      ⟨(some 22), none, .ext (.lookup (.one .i) (.ptr none) false) [.tmp 20, .tmp 21]⟩,
      ⟨(some 4), none, .val (.tmp 22)⟩,
      ⟨(some 5), none, .val (.const (.int .i64 0))⟩]⟩]) [4, 5])
  (.live [4, 5] (.ret)))), none⟩
/-- carpetbag.carpetbaglaw27.types -/
def code317 : AFunc := ⟨false, false, 1, 8, [.tmp 2],
  .seq (.after (.region [⟨false, [], [⟨(some 2), none, .val (.const (.str []))⟩]⟩]) [0])
  (.seq (.after (.region [⟨false, [], [⟨(some 3), none, .mkslice 1 4 [.str [], .str [], .str [], .str []] [(0, 1, .const (.str [91, 73])), (1, 1, .const (.str [91, 66])), (2, 1, .const (.str [91, 76, 65, 59])), (3, 1, .const (.str [91, 91, 73]))]⟩,
      ⟨(some 4), none, .val (.tmp 0)⟩,
      ⟨(some 5), none, .bin .rem (.tmp 4) (.const (.int .u8 4))⟩,
      ⟨(some 6), none, .iaddr 1 (.tmp 3) (.tmp 5)⟩,
      ⟨(some 7), none, .load none (.tmp 6)⟩,
      ⟨(some 2), none, .val (.tmp 7)⟩]⟩]) [2])
  (.live [2] (.ret))), none⟩
def code316L0 : ACode :=
  .live [0, 1, 9, 30, 31, 32, 99, 100, 101] (.seq (.after (.region [⟨false, [], [⟨(some 102), none, .bin .lss (.tmp 101) (.tmp 100)⟩]⟩]) [0, 1, 9, 30, 31, 32, 99, 100, 101, 102])
  (.seq (.after (.cond (.tmp 102) (.skip) (.live [0, 1, 30, 31, 32] (.exit 2))) [0, 1, 9, 30, 31, 32, 99, 100, 101])
  (.seq (.after (.block 3 (.seq (.after (.region [⟨false, [], [⟨(some 103), none, .val (.tmp 101)⟩,
      ⟨(some 104), none, .iaddr 2 (.tmp 99) (.tmp 101)⟩,
      ⟨(some 105), none, .load (some 2) (.tmp 104)⟩,
      ⟨(some 18), none, .lalloc [.int .i64 0, .bool false]⟩,
      ⟨(some 17), none, .val (.tmp 103)⟩,
      ⟨none, none, .store 2 (.tmp 18) (.tmp 105)⟩]⟩]) [0, 1, 9, 17, 18, 30, 31, 32, 99, 100, 101])
  (.seq (.after (.region [⟨false, [], [⟨(some 107), none, .val (.tmp 0)⟩,
      ⟨(some 108), none, .val (.tmp 9)⟩,
      ⟨(some 109), none, .val (.tmp 17)⟩,
      ⟨(some 110), none, .callg 304 [.tmp 107, .tmp 108, .tmp 109]⟩,
      ⟨(some 106), none, .val (.tmp 110)⟩,
      ⟨(some 111), none, .extract (.tmp 106) 0⟩,
      ⟨(some 112), none, .extract (.tmp 106) 1⟩,
      ⟨(some 19), none, .lalloc [.int .i64 0, .bool false]⟩,
      ⟨none, none, .store 2 (.tmp 19) (.tmp 111)⟩,
      ⟨(some 20), none, .val (.tmp 112)⟩]⟩]) [0, 1, 9, 18, 19, 20, 30, 31, 32, 99, 100, 101])
  (.seq (.after (.region [⟨false, [], [⟨(some 113), none, .val (.tmp 20)⟩,
      ⟨(some 114), none, .bin .neq (.tmp 113) (.const (.int .i64 0))⟩,
      ⟨(some 115), none, .val (.tmp 114)⟩,
      ⟨(some 116), (some (115, false)), .load (some 2) (.tmp 18)⟩,
      ⟨(some 117), (some (115, false)), .load (some 2) (.tmp 19)⟩,
      ⟨(some 118), (some (115, false)), .ext (.pure (.eqcells true [.i, .b])) [.tmp 116, .tmp 117]⟩,
      ⟨(some 119), none, .pick (.tmp 115) (.const (.bool true)) (.tmp 118)⟩]⟩]) [0, 1, 9, 30, 31, 32, 99, 100, 101, 119])
  (.after (.cond (.tmp 119) (.seq (.after (.region [⟨false, [], [⟨(some 6), none, .val (.const (.bool false))⟩]⟩]) [6])
  (.live [6] (.ret))) (.skip)) [0, 1, 9, 30, 31, 32, 99, 100, 101]))))) [0, 1, 9, 30, 31, 32, 99, 100, 101])
  (.after (.region [⟨false, [], [⟨(some 120), none, .bin .add (.tmp 101) (.const (.int .i64 1))⟩,
      ⟨(some 101), none, .val (.tmp 120)⟩]⟩]) [0, 1, 9, 30, 31, 32, 99, 100, 101]))))
def code316L1 : ACode :=
  .live [0, 1, 30, 31, 32] (.seq (.after (.region [⟨false, [], [⟨(some 33), none, .bin .lss (.tmp 32) (.tmp 31)⟩]⟩]) [0, 1, 30, 31, 32, 33])
  (.seq (.after (.cond (.tmp 33) (.skip) (.live [] (.exit 0))) [0, 1, 30, 31, 32])
  (.seq (.after (.block 1 (.seq (.after (.region [⟨false, [], [⟨(some 34), none, .val (.tmp 32)⟩,
      ⟨(some 35), none, .iaddr 1 (.tmp 30) (.tmp 32)⟩,
      ⟨(some 36), none, .load none (.tmp 35)⟩,
      ⟨(some 7), none, .val (.tmp 34)⟩,
      ⟨(some 8), none, .val (.tmp 36)⟩]⟩]) [0, 1, 7, 8, 30, 31, 32])
  (.seq (.seq (.after (.region [⟨false, [], [⟨(some 37), none, .val (.tmp 8)⟩,
      ⟨(some 38), none, .un .not (.tmp 37)⟩]⟩]) [0, 1, 7, 30, 31, 32, 38])
  (.after (.cond (.tmp 38) (.live [0, 1, 30, 31, 32] (.exit 1)) (.skip)) [0, 1, 7, 30, 31, 32]))
  (.seq (.after (.region [⟨false, [], [⟨(some 39), none, .val (.tmp 7)⟩,
      ⟨(some 9), none, .val (.tmp 39)⟩]⟩]) [0, 1, 9, 30, 31, 32])
  (.seq (.after (.region [⟨false, [], [⟨(some 41), none, .val (.tmp 1)⟩,
      ⟨(some 42), none, .val (.tmp 9)⟩,
      ⟨(some 43), none, .callg 314 [.tmp 41, .tmp 42]⟩,
      ⟨(some 40), none, .val (.tmp 43)⟩,
      ⟨(some 44), none, .extract (.tmp 40) 0⟩,
      ⟨(some 45), none, .extract (.tmp 40) 1⟩,
      ⟨(some 10), none, .lalloc [.int .i64 0, .str [], .slice none 0 (some 0)]⟩,
      ⟨none, none, .store 3 (.tmp 10) (.tmp 44)⟩,
      ⟨(some 11), none, .val (.tmp 45)⟩]⟩]) [0, 1, 9, 10, 30, 31, 32])
  (.seq (.after (.region [⟨false, [], [⟨(some 47), none, .val (.tmp 0)⟩,
      ⟨(some 48), none, .val (.tmp 9)⟩,
      ⟨(some 49), none, .callg 290 [.tmp 47, .tmp 48]⟩,
      ⟨(some 46), none, .val (.tmp 49)⟩,
      ⟨(some 50), none, .extract (.tmp 46) 0⟩,
      ⟨(some 51), none, .extract (.tmp 46) 1⟩,
      ⟨(some 12), none, .val (.tmp 50)⟩,
      ⟨(some 13), none, .val (.tmp 51)⟩]⟩]) [0, 1, 9, 10, 12, 13, 30, 31, 32])
  (.seq (.after (.region [⟨false, [], [⟨(some 53), none, .val (.tmp 0)⟩,
      ⟨(some 54), none, .val (.tmp 9)⟩,
      ⟨(some 55), none, .callg 306 [.tmp 53, .tmp 54]⟩,
      ⟨(some 52), none, .val (.tmp 55)⟩,
      ⟨(some 56), none, .extract (.tmp 52) 0⟩,
      ⟨(some 57), none, .extract (.tmp 52) 1⟩,
      ⟨(some 58), none, .extract (.tmp 52) 2⟩,
      ⟨(some 14), none, .val (.tmp 56)⟩,
      ⟨(some 15), none, .val (.tmp 57)⟩,
      ⟨(some 16), none, .val (.tmp 58)⟩]⟩]) [0, 1, 9, 10, 12, 13, 14, 15, 16, 30, 31, 32])
  (.seq (.seq (.after (.region [⟨false, [], [⟨(some 59), none, .val (.tmp 13)⟩,
      ⟨(some 60), none, .bin .neq (.tmp 59) (.const (.int .i64 0))⟩,
      ⟨(some 61), none, .val (.tmp 60)⟩,
      ⟨(some 62), (some (61, false)), .val (.tmp 16)⟩,
      ⟨(some 63), (some (61, false)), .bin .neq (.tmp 62) (.const (.int .i64 0))⟩,
      ⟨(some 64), none, .pick (.tmp 61) (.const (.bool true)) (.tmp 63)⟩,
      ⟨(some 65), none, .val (.tmp 64)⟩,
      ⟨(some 66), (some (65, false)), .val (.tmp 12)⟩,
      ⟨(some 67), (some (65, false)), .faddr (.tmp 10) 2⟩,
      ⟨(some 68), (some (65, false)), .load none (.tmp 67)⟩,
      ⟨(some 69), (some (65, false)), .len .sl (.tmp 68)⟩,
      ⟨(some 70), (some (65, false)), .bin .neq (.tmp 66) (.tmp 69)⟩,
      ⟨(some 71), none, .pick (.tmp 65) (.const (.bool true)) (.tmp 70)⟩,
      ⟨(some 72), none, .val (.tmp 71)⟩,
      ⟨(some 73), (some (72, false)), .val (.tmp 15)⟩,
      ⟨(some 74), (some (72, false)), .faddr (.tmp 10) 1⟩,
      ⟨(some 75), (some (72, false)), .load none (.tmp 74)⟩,
      ⟨(some 76), (some (72, false)), .bin .neq (.tmp 73) (.tmp 75)⟩,
      ⟨(some 77), none, .pick (.tmp 72) (.const (.bool true)) (.tmp 76)⟩,
      ⟨(some 78), none, .val (.tmp 77)⟩,
      ⟨(some 79), (some (78, false)), .faddr (.tmp 10) 1⟩,
      ⟨(some 80), (some (78, false)), .load none (.tmp 79)⟩,
      ⟨(some 81), (some (78, false)), .bin .eql (.tmp 80) (.const (.str []))⟩,
      ⟨(some 82), (some (78, false)), .val (.tmp 81)⟩,
      ⟨(some 83), (some (82, true)), .val (.tmp 14)⟩,
      ⟨(some 84), (some (82, true)), .faddr (.tmp 10) 0⟩,
      ⟨(some 85), (some (82, true)), .load none (.tmp 84)⟩,
      ⟨(some 86), (some (82, true)), .bin .neq (.tmp 83) (.tmp 85)⟩,
      ⟨(some 87), (some (78, false)), .pick (.tmp 82) (.tmp 86) (.const (.bool false))⟩,
      ⟨(some 88), none, .pick (.tmp 78) (.const (.bool true)) (.tmp 87)⟩,
      ⟨(some 89), none, .val (.tmp 88)⟩,
      ⟨(some 90), (some (89, false)), .faddr (.tmp 10) 1⟩,
      ⟨(some 91), (some (89, false)), .load none (.tmp 90)⟩,
      ⟨(some 92), (some (89, false)), .bin .neq (.tmp 91) (.const (.str []))⟩,
      ⟨(some 93), (some (89, false)), .val (.tmp 92)⟩,
      ⟨(some 94), (some (93, true)), .val (.tmp 14)⟩,
      ⟨(some 95), (some (93, true)), .bin .neq (.tmp 94) (.const (.int .i64 (-1)))⟩,
      ⟨(some 96), (some (89, false)), .pick (.tmp 93) (.tmp 95) (.const (.bool false))⟩,
      ⟨(some 97), none, .pick (.tmp 89) (.const (.bool true)) (.tmp 96)⟩]⟩]) [0, 1, 9, 10, 30, 31, 32, 97])
  (.after (.cond (.tmp 97) (.seq (.after (.region [⟨false, [], [⟨(some 6), none, .val (.const (.bool false))⟩]⟩]) [6])
  (.live [6] (.ret))) (.skip)) [0, 1, 9, 10, 30, 31, 32]))
  (.seq (.after (.region [⟨false, [], [⟨(some 98), none, .faddr (.tmp 10) 2⟩,
      ⟨(some 99), none, .load none (.tmp 98)⟩,
      ⟨(some 100), none, .len .sl (.tmp 99)⟩,
      ⟨(some 101), none, .val (.const (.int .i64 0))⟩]⟩]) [0, 1, 9, 30, 31, 32, 99, 100, 101])
  (.after (.block 2 (.loop code316L0)) [0, 1, 30, 31, 32])))))))))) [0, 1, 30, 31, 32])
  (.after (.region [⟨false, [], [⟨(some 121), none, .bin .add (.tmp 32) (.const (.int .i64 1))⟩,
      ⟨(some 32), none, .val (.tmp 121)⟩]⟩]) [0, 1, 30, 31, 32]))))
/-- carpetbag.carpetbaglaw27.same -/
def code316 : AFunc := ⟨false, false, 3, 122, [.tmp 6],
  .seq (.after (.region [⟨false, [], [⟨(some 6), none, .val (.const (.bool false))⟩]⟩]) [0, 1, 2])
  (.seq (.seq (.after (.region [⟨false, [], [⟨(some 21), none, .val (.tmp 0)⟩,
      ⟨(some 22), none, .val (.tmp 2)⟩,
      ⟨(some 23), none, .callg 303 [.tmp 21, .tmp 22]⟩,
      ⟨(some 24), none, .val (.tmp 1)⟩,
      ⟨(some 25), none, .val (.tmp 2)⟩,
      ⟨(some 26), none, .callg 310 [.tmp 24, .tmp 25]⟩,
      ⟨(some 27), none, .bin .neq (.tmp 23) (.tmp 26)⟩]⟩]) [0, 1, 2, 27])
  (.after (.cond (.tmp 27) (.seq (.after (.region [⟨false, [], [⟨(some 6), none, .val (.const (.bool false))⟩]⟩]) [6])
  (.live [6] (.ret))) (.skip)) [0, 1, 2]))
  (.seq (.seq (.after (.region [⟨false, [], [⟨(some 28), none, .val (.tmp 1)⟩,
      ⟨(some 29), none, .val (.tmp 2)⟩,
      ⟨(some 30), none, .callg 293 [.tmp 28, .tmp 29]⟩,
      ⟨(some 31), none, .len .sl (.tmp 30)⟩,
      ⟨(some 32), none, .val (.const (.int .i64 0))⟩]⟩]) [0, 1, 30, 31, 32])
  (.after (.block 0 (.loop code316L1)) []))
  (.seq (.after (.region [⟨false, [], [⟨(some 6), none, .val (.const (.bool true))⟩]⟩]) [6])
  (.live [6] (.ret))))), none⟩
/-- strings.HasPrefix -/
def code88 : AFunc := ⟨false, false, 2, 8, [.tmp 4],
  .seq (.after (.region [⟨false, [], [⟨(some 4), none, .val (.const (.bool false))⟩]⟩]) [0, 1])
  (.seq (.after (.region [⟨false, [], [⟨(some 5), none, .val (.tmp 0)⟩,
      ⟨(some 6), none, .val (.tmp 1)⟩,
      ⟨(some 7), none, .callg 140 [.tmp 5, .tmp 6]⟩,
      ⟨(some 4), none, .val (.tmp 7)⟩]⟩]) [4])
  (.live [4] (.ret))), none⟩
def code318L0 : ACode :=
  .live [1, 2, 3, 8, 9, 10] (.seq (.after (.region [⟨false, [], [⟨(some 11), none, .bin .lss (.tmp 10) (.tmp 9)⟩]⟩]) [1, 2, 3, 8, 9, 10, 11])
  (.seq (.after (.cond (.tmp 11) (.skip) (.live [] (.exit 0))) [1, 2, 3, 8, 9, 10])
  (.seq (.after (.block 1 (.seq (.after (.region [⟨false, [], [⟨(some 12), none, .iaddr 2 (.tmp 8) (.tmp 10)⟩,
      ⟨(some 13), none, .load (some 2) (.tmp 12)⟩,
      ⟨(some 6), none, .lalloc [.int .i64 0, .bool false]⟩,
      ⟨none, none, .store 2 (.tmp 6) (.tmp 13)⟩]⟩]) [1, 2, 3, 6, 8, 9, 10])
  (.seq (.after (.region [⟨true, [], [⟨(some 14), none, .load none (.tmp 1)⟩,
      ⟨(some 15), none, .nilcheck (.tmp 14)⟩,
      ⟨(some 16), none, .faddr (.tmp 15) 3⟩,
      ⟨(some 17), none, .load none (.tmp 16)⟩,
      ⟨(some 18), none, .faddr (.tmp 6) 0⟩,
      ⟨(some 19), none, .load none (.tmp 18)⟩]⟩, ⟨false, [], [⟨(some 20), none, .ext (.lookup (.one .i) (.ptr none) false) [.tmp 17, .tmp 19]⟩,
      ⟨(some 7), none, .val (.tmp 20)⟩]⟩]) [1, 2, 3, 6, 7, 8, 9, 10])
  (.seq (.after (.region [⟨false, [], [⟨(some 21), none, .faddr (.tmp 6) 1⟩,
      ⟨(some 22), none, .load none (.tmp 21)⟩,
      ⟨(some 23), none, .val (.tmp 22)⟩,
      ⟨(some 24), (some (23, true)), .val (.tmp 7)⟩,
      ⟨(some 25), (some (23, true)), .eqnil .ptr true (.tmp 24) (.const (.ptr none))⟩,
      ⟨(some 26), none, .pick (.tmp 23) (.tmp 25) (.const (.bool false))⟩,
      ⟨(some 27), none, .val (.tmp 26)⟩,
      ⟨(some 28), (some (27, true)), .load none (.tmp 2)⟩,
      ⟨(some 29), (some (27, true)), .faddr (.tmp 6) 0⟩,
      ⟨(some 30), (some (27, true)), .load none (.tmp 29)⟩,
      ⟨(some 31), (some (27, true)), .ext (.lookup (.one .i) (.bool false) false) [.tmp 28, .tmp 30]⟩,
      ⟨(some 32), (some (27, true)), .un .not (.tmp 31)⟩,
      ⟨(some 33), none, .pick (.tmp 27) (.tmp 32) (.const (.bool false))⟩]⟩]) [1, 2, 3, 6, 7, 8, 9, 10, 33])
  (.after (.cond (.tmp 33) (.seq (.after (.region [⟨false, [], [⟨(some 34), none, .load none (.tmp 2)⟩,
      ⟨(some 35), none, .faddr (.tmp 6) 0⟩,
      ⟨(some 36), none, .load none (.tmp 35)⟩,
      ⟨none, none, .ext (.mapupd (.one .i)) [.tmp 34, .tmp 36, .const (.bool true)]⟩]⟩]) [1, 2, 3, 7, 8, 9, 10])
  (.after (.region [⟨false, [], [⟨(some 37), none, .load none (.tmp 3)⟩,
      ⟨(some 38), none, .val (.tmp 7)⟩,
      ⟨(some 39), none, .mkslice 1 1 [.ptr none] [(0, 1, .tmp 38)]⟩,
      ⟨(some 40), none, .append 1 8 (.tmp 37) (.tmp 39)⟩,
      ⟨none, none, .store 1 (.tmp 3) (.tmp 40)⟩]⟩]) [1, 2, 3, 8, 9, 10])) (.skip)) [1, 2, 3, 8, 9, 10]))))) [1, 2, 3, 8, 9, 10])
  (.after (.region [⟨false, [], [⟨(some 41), none, .bin .add (.tmp 10) (.const (.int .i64 1))⟩,
      ⟨(some 10), none, .val (.tmp 41)⟩]⟩]) [1, 2, 3, 8, 9, 10]))))
/-- (*carpetbag.heap.Heap).reach-1 -/
def code318 : AFunc := ⟨false, false, 4, 42, [],
  .seq (.after (.region [⟨false, [], [⟨(some 8), none, .val (.tmp 0)⟩,
      ⟨(some 9), none, .len .sl (.tmp 8)⟩,
      ⟨(some 10), none, .val (.const (.int .i64 0))⟩]⟩]) [1, 2, 3, 8, 9, 10])
  (.after (.block 0 (.loop code318L0)) []), none⟩
/-- internal.stringslite.HasPrefix -/
def code140 : AFunc := ⟨false, false, 2, 18, [.tmp 4],
  .seq (.after (.region [⟨false, [], [⟨(some 4), none, .val (.const (.bool false))⟩]⟩]) [0, 1])
  (.seq (.after (.region [⟨false, [], [⟨(some 5), none, .val (.tmp 0)⟩,
      ⟨(some 6), none, .len .str (.tmp 5)⟩,
      ⟨(some 7), none, .val (.tmp 1)⟩,
      ⟨(some 8), none, .len .str (.tmp 7)⟩,
      ⟨(some 9), none, .bin .geq (.tmp 6) (.tmp 8)⟩,
      ⟨(some 10), none, .val (.tmp 9)⟩,
      ⟨(some 11), (some (10, true)), .val (.tmp 0)⟩,
      ⟨(some 12), (some (10, true)), .val (.tmp 1)⟩,
      ⟨(some 13), (some (10, true)), .len .str (.tmp 12)⟩,
      ⟨(some 14), (some (10, true)), .slice .str (.tmp 11) none (some (.tmp 13)) none⟩,
      ⟨(some 15), (some (10, true)), .val (.tmp 1)⟩,
      ⟨(some 16), (some (10, true)), .bin .eql (.tmp 14) (.tmp 15)⟩,
      ⟨(some 17), none, .pick (.tmp 10) (.tmp 16) (.const (.bool false))⟩,
      ⟨(some 4), none, .val (.tmp 17)⟩]⟩]) [4])
  (.live [4] (.ret))), none⟩
def T : Nat → Option AFunc := fun g => List.lookup g [(24, code24), (291, code291), (301, code301), (302, code302), (307, code307), (299, code299), (298, code298), (297, code297), (296, code296), (292, code292), (100295, code100295), (294, code294), (290, code290), (293, code293), (300, code300), (304, code304), (306, code306), (305, code305), (303, code303), (308, code308), (309, code309), (310, code310), (312, code312), (311, code311), (313, code313), (314, code314), (315, code315), (317, code317), (316, code316), (88, code88), (318, code318), (140, code140)]
theorem t24 : T 24 = some code24 := rfl
theorem t291 : T 291 = some code291 := rfl
theorem t301 : T 301 = some code301 := rfl
theorem t302 : T 302 = some code302 := rfl
theorem t307 : T 307 = some code307 := rfl
theorem t299 : T 299 = some code299 := rfl
theorem t298 : T 298 = some code298 := rfl
theorem t297 : T 297 = some code297 := rfl
theorem t296 : T 296 = some code296 := rfl
theorem t292 : T 292 = some code292 := rfl
theorem t100295 : T 100295 = some code100295 := rfl
theorem t294 : T 294 = some code294 := rfl
theorem t290 : T 290 = some code290 := rfl
theorem t293 : T 293 = some code293 := rfl
theorem t300 : T 300 = some code300 := rfl
theorem t304 : T 304 = some code304 := rfl
theorem t306 : T 306 = some code306 := rfl
theorem t305 : T 305 = some code305 := rfl
theorem t303 : T 303 = some code303 := rfl
theorem t308 : T 308 = some code308 := rfl
theorem t309 : T 309 = some code309 := rfl
theorem t310 : T 310 = some code310 := rfl
theorem t312 : T 312 = some code312 := rfl
theorem t311 : T 311 = some code311 := rfl
theorem t313 : T 313 = some code313 := rfl
theorem t314 : T 314 = some code314 := rfl
theorem t315 : T 315 = some code315 := rfl
theorem t317 : T 317 = some code317 := rfl
theorem t316 : T 316 = some code316 := rfl
theorem t88 : T 88 = some code88 := rfl
theorem t318 : T 318 = some code318 := rfl
theorem t140 : T 140 = some code140 := rfl
end Go.Abs.AbsHeap

/-
  From the model's code to the abstract machine's: a function that may say no, asked by the kernel of each function. 'Hint': which slots are wanted later, which variables stay in their frame, and in which parts a statement whose order is open falls: none of these is trusted.
-/
namespace Go.Abs

structure Env where
  P : Program
  gid : FuncId → Option Nat
  rnd : Nat → Option ARound

inductive Hint where
  | leaf
  | stuck
  | reg (segs : List (Bool × Nat)) (locs : List Nat)
  | seq (a b : Hint)
  | cond (a b : Hint)
  | block (a : Hint)
  | loop (a : Hint)
  | live (l : List Nat) (a : Hint)
  | after (a : Hint) (l : List Nat)
  | rangeFunc (g : Nat) (caps : List Nat) (a b : Hint)
  | next

def toA1 : Value → Option AVal
  | .bool b => some (.bool b)
  | .int k n => some (.int k n)
  | .string s => some (.str s.data.toList)
  | .pointer none => some (.ptr none)
  | .slice none 0 0 => some (.slice none 0 (some 0))
  | .map none => some (.map none)
  | .nilFunc => some .nilFunc
  | .nilIface => some .nilIface
  | _ => none

def toAs : List Value → Option (List AVal)
  | [] => some []
  | v :: r => match toA1 v, toAs r with
    | some a, some as => some (a :: as)
    | _, _ => none

def toA : Value → Option AVal
  | .agg cs => (toAs cs.toList).map .agg
  | v => toA1 v

def cOpd (E : Env) : Operand → Option Opd
  | .tmp t => some (.tmp t)
  | .const v => (toA v).map .const
  | .func f => (E.gid f).map fun g => .const (.func g [] [])
  | .global _ => none

def cOpds (E : Env) : List Operand → Option (List Opd)
  | [] => some []
  | x :: r => match cOpd E x, cOpds E r with
    | some a, some as => some (a :: as)
    | _, _ => none

def cOpt (E : Env) : Option Operand → Option (Option Opd)
  | none => some none
  | some x => (cOpd E x).map some

def zeroOf (P : Program) (t : TypeId) : Option (List AVal) :=
  match P.info? t with
  | some i => match i.zero with
    | some z => toAs z.cells.toList
    | none => none
  | none => none

def sizeT (P : Program) (t : TypeId) : Option Nat := (P.info? t).map (·.size)

/-- What a part of that type is: one cell (none), or so many. -/
def partT (P : Program) (t : TypeId) : Option (Option Nat) :=
  match P.underlying t with
  | some (.struct _) | some (.array _ _) => (sizeT P t).map some
  | some _ => some none
  | none => none

/-- Of how many cells an element is: of an array's variable one of its elements. -/
def eszOf (P : Program) (t : TypeId) : Option Nat :=
  match P.underlying t with
  | some (.array _ e) => sizeT P e
  | _ => sizeT P t

def cParts (E : Env) (place : Nat → Option (Nat × Nat)) : List (Nat × Operand) → Option (List (Nat × Nat × Opd))
  | [] => some []
  | (i, x) :: r => match place i, cOpd E x, cParts E place r with
    | some (o, n), some a, some as => some ((o, n, a) :: as)
    | _, _, _ => none

def fieldPlaces (P : Program) : List Field → Option (List (Nat × Nat))
  | [] => some []
  | f :: r => match sizeT P f.type, fieldPlaces P r with
    | some n, some l => some ((f.offset, n) :: l)
    | _, _ => none

/-- The cells of a type all of whose parts may be compared at once. -/
def ckFields (g : TypeId → Option (List CK)) (P : Program) : Nat → List Field → Option (List CK)
  | _, [] => some []
  | off, f :: r => match g f.type with
    | some l => if f.offset = off ∧ f.name ≠ "_" ∧ sizeT P f.type = some l.length ∧ 0 < l.length then (ckFields g P (off + l.length) r).map (l ++ ·) else none
    | none => none

def ckOf (P : Program) : Nat → TypeId → Option (List CK)
  | 0, _ => none
  | n + 1, t => match P.underlying t with
    | some .bool => some [.b]
    | some (.int _) => some [.i]
    | some .string => some [.s]
    | some (.struct fs) => if P.stoodInHeld t then none else ckFields (ckOf P n) P 0 fs.toList
    | some (.array k e) => match ckOf P n e with
      | some l => if sizeT P e = some l.length ∧ 0 < l.length then some (List.replicate k l).flatten else none
      | none => none
    | _ => none

def keyT (P : Program) (t : TypeId) : Option KeyT :=
  if sizeT P t = none then none else
  match P.underlying t with
  | some .bool => some (.one .b)
  | some (.int _) => some (.one .i)
  | some .string => some (.one .s)
  | some (.struct _) => (ckOf P 2 t).map .agg
  | _ => none

/-- The zero value. -/
def zeroA (P : Program) (t : TypeId) : Option AVal :=
  match P.info? t with
  | some i => match i.zero with
    | some z => toA z
    | none => none
  | none => none

def cEq (d : TypeDesc) (neg : Bool) (a b : Opd) : Option AOp :=
  match d with
  | .bool => some (.beq neg a b)
  | .pointer _ => some (.eqnil .ptr neg a b)
  | .slice _ => some (.eqnil .slice neg a b)
  | .map _ _ => some (.eqnil .map neg a b)
  | .func _ _ _ => some (.eqnil .func neg a b)
  | _ => none

def cBin (E : Env) (op : BinOp) (t : TypeId) (x y : Operand) : Option AOp :=
  match cOpd E x, cOpd E y with
  | some a, some b =>
    match E.P.underlying t with
    | some (.int _) | some .string => some (.bin op a b)
    | some (.struct _) | some (.array _ _) =>
      if E.P.eqGuardType E.P.depth t then none else
      match op, ckOf E.P 20 t with
      | .eql, some ks => some (.ext (.pure (.eqcells false ks)) [a, b])
      | .neq, some ks => some (.ext (.pure (.eqcells true ks)) [a, b])
      | _, _ => none
    | some d =>
      match op with
      | .eql => cEq d false a b
      | .neq => cEq d true a b
      | _ => none
    | none => none
  | _, _ => none

def isByte (P : Program) (t : TypeId) : Bool :=
  match P.underlying t with
  | some (.int .u8) => true
  | _ => false

def cConv (E : Env) (src dst : TypeId) (x : Operand) : Option AOp :=
  match cOpd E x, E.P.underlying src, E.P.underlying dst with
  | some a, some (.int _), some (.int k) => some (.conv (.int k) a)
  | some a, some .string, some .string => some (.conv .str a)
  | some a, some .string, some (.slice e) => if isByte E.P e then some (.conv .bytes a) else none
  | some a, some (.slice e), some .string => if isByte E.P e then some (.conv .string a) else none
  | _, _, _ => none

/-- A function for which the model stands in. -/
def primOf (P : Program) (f : FuncId) : Option PrimK :=
  match P.funcs[f]? with
  | some fn =>
    if fn.body.isNone = true ∧ fn.origin = "" then
      if fn.name = "internal/bytealg.IndexByteString" then some .indexByte
      else if fn.name = "internal/bytealg.CountString" then some .countByte
      else none
    else none
  | none => none

def cCall (E : Env) (c : Call) : Option AOp :=
  match c.callee with
  | .value (.func f) => match E.gid f, cOpds E c.args.toList with
    | some g, some as => some (.callg g as)
    | none, some as => (primOf E.P f).map fun k => .ext (.pure (.prim k)) as
    | _, none => none
  | .value x => match cOpd E x, cOpds E c.args.toList with
    | some a, some as => some (.call a as)
    | _, _ => none
  | .builtin b =>
    match b, c.argTypes.toList, c.args.toList with
    | .len, [t], [x] => match E.P.underlying t with
      | some .string => (cOpd E x).map (.len .str)
      | some (.slice _) => (cOpd E x).map (.len .sl)
      | some (.map _ _) => (cOpd E x).map (.len .map)
      | _ => none
    | .append, [t, u], [x, y] => match E.P.underlying t, E.P.underlying u, cOpd E x, cOpd E y with
      | some (.slice e), some (.slice _), some a, some b | some (.slice e), some .string, some a, some b => match E.P.info? e with
        | some i => match i.zero with
          | some z => if z.cells.size = i.size then some (.append i.size i.bytes a b) else none
          | none => none
        | none => none
      | _, _, _, _ => none
    | .cap, [t], [x] => match E.P.underlying t with
      | some (.slice _) => (cOpd E x).map fun a => .ext (.pure .cap) [a]
      | _ => none
    | .delete, t :: _, [x, y] => match E.P.underlying t with
      | some (.map k _) => match keyT E.P k, cOpd E x, cOpd E y with
        | some kn, some a, some b => some (.ext (.delete kn) [a, b])
        | _, _, _ => none
      | _ => none
    | .min, _, xs => (cOpds E xs).map (.minmax false)
    | .max, _, xs => (cOpds E xs).map (.minmax true)
    | _, _, _ => none
  | _ => none

def cOp (E : Env) (loc : Bool) (op : Op) : Option AOp :=
  match op with
  | .move x | .assign x => (cOpd E x).map .val
  | .pick c a b => match cOpd E c, cOpd E a, cOpd E b with
    | some c, some a, some b => some (.pick c a b)
    | _, _, _ => none
  | .alloc t => match zeroOf E.P t, eszOf E.P t with
    | some z, some e => some (if loc then .lalloc z else .alloc e z)
    | _, _ => none
  | .box _ x => (cOpd E x).map fun a => if loc then .lbox a else .box a
  | .build t ps => match E.P.underlying t, zeroOf E.P t with
    | some (.struct fs), some z => match fieldPlaces E.P fs.toList with
      | some pl => (cParts E (pl[·]?) ps.toList).map (.build z)
      | none => none
    | some (.array _ e), some z => match sizeT E.P e with
      | some n => (cParts E (fun i => some (i * n, n)) ps.toList).map (.build z)
      | none => none
    | _, _ => none
  | .buildSlice t len ps => match E.P.underlying t with
    | some (.slice e) => match sizeT E.P e, zeroOf E.P e with
      | some n, some z => if len * n ≤ 16777216 ∧ z.length = n ∧ 0 < n then (cParts E (fun i => some (i * n, n)) ps.toList).map (.mkslice n len (rep len z)) else none
      | _, _ => none
    | _ => none
  | .load t a => match partT E.P t, cOpd E a with
    | some n, some a => some (.load n a)
    | _, _ => none
  | .store t a x => match sizeT E.P t, cOpd E a, cOpd E x with
    | some n, some a, some x => some (.store n a x)
    | _, _, _ => none
  | .nilCheck x => (cOpd E x).map .nilcheck
  | .binOp op t x y _ => cBin E op t x y
  | .unOp op _ x => (cOpd E x).map (.un op)
  | .convert s d x => cConv E s d x
  | .makeFunc (.func f) first caps => match E.gid f, cOpds E first.toList, cOpds E caps.toList with
    | some g, some f, some c => some (.mkfunc g f c)
    | _, _, _ => none
  | .makeSlice t l c => match E.P.underlying t with
    | some (.slice e) => match E.P.info? e, zeroOf E.P e, cOpd E l, cOpd E c with
      | some i, some z, some l, some c => if z.length = i.size ∧ 0 < i.size then some (.make i.size i.bytes z l c) else none
      | _, _, _, _ => none
    | _ => none
  | .slice t x lo hi mx => match cOpd E x, cOpt E lo, cOpt E hi, cOpt E mx with
    | some x, some lo, some hi, some mx => match E.P.underlying t with
      | some .string => some (.slice .str x lo hi mx)
      | some (.slice e) => (sizeT E.P e).map fun n => .slice (.sl n) x lo hi mx
      | some (.array n e) => (sizeT E.P e).map fun k => .slice (.arr n k) x lo hi mx
      | _ => none
    | _, _, _, _ => none
  | .fieldAddr t x f => match E.P.underlying t, cOpd E x with
    | some (.struct fs), some x => match fs[f]? with
      | some fl => match sizeT E.P fl.type with
        | some (_ + 1) => some (.faddr x fl.offset)
        | _ => none
      | none => none
    | _, _ => none
  | .field t x f => match E.P.underlying t, cOpd E x with
    | some (.struct fs), some x => match fs[f]? with
      | some fl => (partT E.P fl.type).map fun n => .field x fl.offset n
      | none => none
    | _, _ => none
  | .indexAddr t x i => match E.P.underlying t, cOpd E x, cOpd E i with
    | some (.slice e), some x, some i => (sizeT E.P e).map fun n => .iaddr n x i
    | some (.array len e), some x, some i => (sizeT E.P e).map fun n => .aaddr len n x i
    | _, _, _ => none
  | .index t x i => match E.P.underlying t, cOpd E x, cOpd E i with
    | some .string, some x, some i => some (.index x i)
    | some (.array len e), some x, some i => match sizeT E.P e, partT E.P e with
      | some n, some k => some (.aindex len n k x i)
      | _, _ => none
    | _, _, _ => none
  | .extract x i => (cOpd E x).map fun a => .extract a i
  | .call c => cCall E c
  | .range t x => match E.P.underlying t with
    | some (.map _ _) => (cOpd E x).map fun a => .ext .mkiter [a]
    | _ => none
  | .entry x => (cOpd E x).map fun a => .ext .entry [a]
  | .makeMap _ none => some (.ext .mkmap [])
  | .makeMap t (some (.const (.int _ _))) => match E.P.underlying t with
    | some (.map _ _) => some (.ext .mkmap [])
    | _ => none
  | .lookup t x i ok => match E.P.underlying t with
    | some (.map k e) => match keyT E.P k, zeroA E.P e, cOpd E x, cOpd E i with
      | some kn, some z, some x, some i => some (.ext (.lookup kn z ok) [x, i])
      | _, _, _, _ => none
    | _ => none
  | .mapUpdate t x k v | .insert t x k v => match E.P.underlying t with
    | some (.map kt _) => match keyT E.P kt, cOpd E x, cOpd E k, cOpd E v with
      | some kn, some x, some k, some v => some (.ext (.mapupd kn) [x, k, v])
      | _, _, _, _ => none
    | _ => none
  | _ => none

/-- What the machine does not know: it stops there. -/
def cOpS (E : Env) (loc : Bool) (op : Op) : AOp :=
  match cOp E loc op with
  | some a => a
  | none => .nextStr (.const (.bool false))

def cOper (E : Env) (nt : Nat) (ops : Array Oper) (loc : Bool) (o : Oper) : Option AOper :=
  if (o.dst.all fun d => d < nt) && (!loc || o.dst.isSome) then
    match o.guard with
    | none => some ⟨o.dst, none, cOpS E loc o.op⟩
    | some (j, want) => match (ops[j]?).bind (·.dst) with
      | some d => some ⟨o.dst, some (d, want), cOpS E loc o.op⟩
      | none => none
  else none

def cOpers (E : Env) (nt : Nat) (ops : Array Oper) (locs : List Nat) (i : Nat) : List Oper → Option (List AOper)
  | [] => some []
  | o :: r => match cOper E nt ops (locs.contains i) o, cOpers E nt ops locs (i + 1) r with
    | some a, some as => some (a :: as)
    | _, _ => none

/-- Operations that make an object; calls of functions whose numbers tell that they do. -/
def makes : AOp → Bool
  | .alloc _ _ | .box _ | .mkslice _ _ _ _ | .make _ _ _ _ _ | .append _ _ _ _ | .conv .bytes _ | .ext .mkmap _ | .ext .mkiter _ => true
  | .callg g _ => decide (100000 ≤ g)
  | _ => false

/-- Operations on memory that change nothing of it; calls. -/
def ExtOp.soft : ExtOp → Bool
  | .mapupd _ | .delete _ | .entry => false
  | _ => true

def soft : AOp → Bool
  | .lalloc _ | .lbox _ | .store _ _ _ | .copy _ _ _ => false
  | .ext k _ => k.soft
  | _ => true

/-- For a part in which objects are made: which operations of it each waits for. -/
def softMasks (bef : List Nat) (p : Nat) (ops : List AOper) : List Nat :=
  if ops.any fun o => makes o.op then (List.range ops.length).map fun x => bef.getD (p + x) 0 >>> p else []

def splitSegs (bef : List Nat) : Nat → List (Bool × Nat) → List AOper → Option (List Seg)
  | _, [], [] => some []
  | _, [], _ :: _ => none
  | p, (q, n) :: r, ops => if n ≤ ops.length then (splitSegs bef (p + n) r (ops.drop n)).map (⟨q, if q then softMasks bef p (ops.take n) else [], ops.take n⟩ :: ·) else none

/-- Operations that change no variable of the frame. -/
def calm : AOp → Bool
  | .lalloc _ | .lbox _ | .store _ _ _ | .copy _ _ _ => false
  | .ext k _ => k.soft
  | _ => true

/-- For each operation those before it (as bits), in the order of the text. -/
def maskOf (acc : List Nat) (o : Oper) : Nat := o.after.toList.foldl (fun s e => if Region.binds .any e then s ||| 2 ^ e.on ||| acc.getD e.on 0 else s) 0
def befs : List Oper → List Nat → List Nat
  | [], acc => acc
  | o :: r, acc => befs r (acc ++ [maskOf acc o])

/-- From p on each operation waits for all before p. -/
def waits (bef : List Nat) (p : Nat) : Bool :=
  (List.range bef.length).all fun j => j < p || (List.range p).all fun i => (bef.getD j 0).testBit i

/-- Two operations of a quiet part: what one sets, the other neither sets nor looks at, unless one waits for the other. -/
def apart (bef : List Nat) (i j : Nat) (oi oj : AOper) : Bool :=
  match oj.dst with
  | some d =>
    (i == j || oi.dst != some d) &&
    (i == j || !(oi.reads.contains d) || (j < i && (bef.getD i 0).testBit j) || (i < j && (bef.getD j 0).testBit i))
  | none => true

/-- The parts of a statement whose order is open: those of a quiet part may come in any order; else each waits for all before it. -/
def segsOk (as : List AOper) (bef : List Nat) : Nat → List (Bool × Nat) → Bool
  | p, [] => p == as.length
  | p, (true, n) :: r =>
    waits bef p && decide (p + n ≤ as.length) &&
    ((List.range n).all fun x => (List.range n).all fun y =>
      match as[p + x]?, as[p + y]? with
      | some oi, some oj => apart bef (p + x) (p + y) oi oj
      | _, _ => false) &&
    ((List.range n).all fun x => match as[p + x]? with | some o => calm o.op && (softMasks bef p ((as.drop p).take n) == [] || soft o.op) | none => false) &&
    segsOk as bef (p + n) r
  | p, (false, n) :: r => decide (p + n ≤ as.length) && ((List.range n).all fun x => waits bef (p + x)) && segsOk as bef (p + n) r

def edgesBack (ops : Array Oper) : Bool :=
  (List.range ops.size).all fun i => match ops[i]? with
    | some o => o.after.all fun e => !Region.binds .any e || e.on < i
    | none => true

def cRegion (E : Env) (nt : Nat) (segs : List (Bool × Nat)) (locs : List Nat) (ops : Array Oper) (draw : Bool) : Option (List Seg) :=
  match cOpers E nt ops locs 0 ops.toList with
  | some as =>
    if draw then
      if edgesBack ops && segsOk as (befs ops.toList []) 0 segs then splitSegs (befs ops.toList []) 0 segs as else none
    else some [⟨false, [], as⟩]
  | none => none

/-- inR: in a round of a loop over a function: there none stands. -/
def cCode (E : Env) (nt : Nat) (inR : Bool) : Hint → Code → Option ACode
  | .stuck, _ => some (.cond (.const (.str [])) .skip .skip)
  | .leaf, .skip => some .skip
  | .leaf, .exit id => some (.exit id)
  | .leaf, .ret => some .ret
  | .reg segs locs, .region _ ops draw => (cRegion E nt segs locs ops draw).map .region
  | .seq a b, .seq x y => match cCode E nt inR a x, cCode E nt inR b y with
    | some x, some y => some (.seq x y)
    | _, _ => none
  | .cond a b, .cond c x y => match cOpd E c, cCode E nt inR a x, cCode E nt inR b y with
    | some c, some x, some y => some (.cond c x y)
    | _, _, _ => none
  | .block a, .block id x => (cCode E nt inR a x).map (.block id)
  | .loop a, .loop x => (cCode E nt inR a x).map .loop
  | .rangeFunc g caps a b, .rangeFunc f ps x y => match cOpd E f, cCode E nt true a x, cCode E nt true b y with
    | some f, some x, some y => if inR = false ∧ (ps.all fun t => decide (t < nt)) = true then some (.rangeFunc f g caps ps.toList x y) else none
    | _, _, _ => none
  | .next, .region _ ops draw => match ops.toList, draw with
    | ⟨dst, .next it false, _, _, _, none⟩ :: rest, false => if (dst.all fun d => decide (d < nt)) = true then match cOpd E it, cOpers E nt ops [] 1 rest with
        | some x, some as => some (.seq (.next dst x) (.region [⟨false, [], as⟩]))
        | _, _ => none
      else none
    | _, _ => none
  | .live l a, x => (cCode E nt inR a x).map (.live l)
  | .after a l, x => (cCode E nt inR a x).map (.after · l)
  | _, _ => none

def cRes (P : Program) : ResultVar → Option ARes
  | .tmp t => some (.tmp t)
  | .cell t ty => (partT P ty).map (.cell t)

def cRess (P : Program) : List ResultVar → Option (List ARes)
  | [] => some []
  | x :: r => match cRes P x, cRess P r with
    | some a, some as => some (a :: as)
    | _, _ => none

def cFunc (E : Env) (closed : Bool) (h : Hint) (f : Func) : Option AFunc :=
  match f.body with
  | some c => match cCode E f.ntmps false h c, cRess E.P f.results.toList with
    | some a, some rs =>
      if f.params.size + f.nfree ≤ f.ntmps ∧ f.name ≠ "runtime.NumGoroutine" then some ⟨closed, a.wild, f.params.size + f.nfree, f.ntmps, rs, a, none⟩ else none
    | _, _ => none
  | none => none

end Go.Abs
