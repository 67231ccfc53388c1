/-
  The abstract machine: values, memory, operations and code with all types resolved, and the evaluator. It is a function: what the model leaves open (the order inside a statement, an array's spare room) is not to be seen in it. AbsSound shows that what it gives is what the model's call gives.
-/
import GoSem.Dispatch
namespace Go.Abs

/-- A value. Functions go by numbers of our own; a slice's capacity is known or not. -/
inductive AVal where
  | bool (b : Bool)
  | int (k : IntKind) (n : Int)
  | str (s : List UInt8)
  | ptr (a : Option (Nat × Nat))
  | slice (a : Option (Nat × Nat)) (len : Nat) (cap : Option Nat)
  | map (r : Option Nat)
  | func (g : Nat) (first caps : List AVal)
  | nilFunc
  | iface (t : Nat) (v : AVal)
  | nilIface
  | agg (cs : List AVal)
  | tuple (vs : List AVal)
  | yield (i : Nat)
  deriving Inhabited

inductive AExit where
  | normal
  | exit (id : Nat)
  | ret
  deriving DecidableEq

inductive LoopSt where
  | ready
  | busy
  | done
  deriving DecidableEq

inductive AObj where
  | dead
  | cells (esz : Nat) (cs : List AVal)
  | map (es : List (AVal × AVal × Nat)) (clock : Nat)
  | iter (s : List UInt8) (pos : Nat)
  | loop (g : Nat) (st : LoopSt) (pend : Option AExit) (slots : List (Nat × AVal))
  deriving Inhabited

/-- Memory: objects by number. Those below 'base' are never written; of those that were there, none below 'wmin' has been written. -/
structure Heap where
  objs : List AObj
  base : Nat
  wmin : Nat

def Heap.size (h : Heap) : Nat := h.objs.length
def Heap.push (h : Heap) (o : AObj) : Heap := { h with objs := h.objs ++ [o] }
def Heap.get (h : Heap) (i : Nat) : Option AObj := h.objs[i]?
def Heap.put (h : Heap) (i : Nat) (o : AObj) : Heap := { h with objs := h.objs.set i o, wmin := min h.wmin i }

inductive Slot where
  | val (v : AVal)
  | undef
  | var (cs : List AVal)
  | loc (t off : Nat)
  | gone
  deriving Inhabited

abbrev Slots := List (Nat × Slot)

def sget : Slots → Nat → Option Slot
  | [], _ => none
  | (u, s) :: r, t => if u = t then some s else sget r t

/-- What stands behind slot t's variable is forgotten: a new variable comes. -/
def unloc (t : Nat) : Slots → Slots
  | [] => []
  | (u, .loc t' off) :: r => (u, if t' = t then .gone else .loc t' off) :: unloc t r
  | x :: r => x :: unloc t r

def keep (live : List Nat) (s : Slots) : Slots :=
  live.filterMap fun t => match sget s t with
    | some (.loc _ _) => none
    | some .gone => none
    | some x => some (t, x)
    | none => none

inductive Opd where
  | tmp (t : Nat)
  | const (v : AVal)

def Opd.ev (s : Slots) : Opd → Option AVal
  | .tmp t => match sget s t with
    | some (.val v) => some v
    | _ => none
  | .const v => some v

def evs (s : Slots) : List Opd → Option (List AVal)
  | [] => some []
  | x :: r => match x.ev s, evs s r with
    | some v, some vs => some (v :: vs)
    | _, _ => none

inductive AAddr where
  | glob (i off : Nat)
  | loc (t off : Nat)

def Opd.adr (s : Slots) : Opd → Option AAddr
  | .tmp t => match sget s t with
    | some (.val (.ptr (some (i, o)))) => some (.glob i o)
    | some (.var _) => some (.loc t 0)
    | some (.loc t' o) => some (.loc t' o)
    | _ => none
  | .const _ => none

def AVal.cells? : AVal → Option (List AVal)
  | .agg cs => some cs
  | .tuple _ => none
  | v => some [v]

def AVal.isOne : AVal → Bool
  | .agg _ | .tuple _ => false
  | _ => true

inductive ConvKind where
  | int (k : IntKind)
  | str
  | bytes
  | string

inductive SliceKind where
  | str
  | sl (esz : Nat)
  | arr (n esz : Nat)

inductive NilKind where
  | ptr
  | slice
  | map
  | func

inductive LenKind where
  | str
  | sl
  | map

/-- What a cell of a key is. -/
inductive CK where
  | b
  | i
  | s

/-- A key: one cell, or so many. -/
inductive KeyT where
  | one (c : CK)
  | agg (cs : List CK)

/-- Operations on values. -/
inductive PureOp where
  | eqcells (neg : Bool) (ks : List CK)
  | cap

/-- Operations on values and memory that are asked of the operands' values alone. -/
inductive ExtOp where
  | mkmap
  | lookup (kn : KeyT) (zero : AVal) (ok : Bool)
  | mapupd (kn : KeyT)
  | delete (kn : KeyT)
  | pure (p : PureOp)

inductive AOp where
  | val (x : Opd)
  | pick (c a b : Opd)
  | alloc (esz : Nat) (zero : List AVal)
  | lalloc (zero : List AVal)
  | box (x : Opd)
  | lbox (x : Opd)
  | build (zero : List AVal) (parts : List (Nat × Nat × Opd))
  | mkslice (esz len : Nat) (zero : List AVal) (parts : List (Nat × Nat × Opd))
  | load (n : Option Nat) (a : Opd)
  | store (n : Nat) (a x : Opd)
  | bin (op : BinOp) (x y : Opd)
  | un (op : UnOp) (x : Opd)
  | conv (k : ConvKind) (x : Opd)
  | mkfunc (g : Nat) (first caps : List Opd)
  | make (esz bytes : Nat) (zero : List AVal) (len cap : Opd)
  | slice (k : SliceKind) (x : Opd) (lo hi mx : Option Opd)
  | faddr (x : Opd) (off : Nat)
  | field (x : Opd) (off : Nat) (n : Option Nat)
  | iaddr (esz : Nat) (x i : Opd)
  | aaddr (len esz : Nat) (x i : Opd)
  | index (x i : Opd)
  | aindex (len esz : Nat) (n : Option Nat) (x i : Opd)
  | extract (x : Opd) (i : Nat)
  | call (f : Opd) (args : List Opd)
  | callg (g : Nat) (args : List Opd)
  | len (k : LenKind) (x : Opd)
  | append (esz bytes : Nat) (x y : Opd)
  | copy (esz : Nat) (d s : Opd)
  | minmax (isMax : Bool) (xs : List Opd)
  | nilcheck (x : Opd)
  | eqnil (k : NilKind) (neg : Bool) (x y : Opd)
  | beq (neg : Bool) (x y : Opd)
  | ext (k : ExtOp) (xs : List Opd)
  | nextStr (x : Opd)

structure AOper where
  dst : Option Nat
  guard : Option (Nat × Bool)
  op : AOp

structure Seg where
  quiet : Bool
  soft : List Nat
  ops : List AOper

inductive ACode where
  | skip
  | region (segs : List Seg)
  | seq (a b : ACode)
  | cond (c : Opd) (t e : ACode)
  | block (id : Nat) (c : ACode)
  | loop (c : ACode)
  | exit (id : Nat)
  | ret
  | live (l : List Nat) (c : ACode)
  | after (c : ACode) (l : List Nat)
  | rangeFunc (f : Opd) (g : Nat) (caps : List Nat) (ps : List Nat) (a b : ACode)

inductive ARes where
  | tmp (t : Nat)
  | cell (t : Nat) (n : Option Nat)

/-- The body of a loop over a function: it runs as a call of its own. -/
structure ARound where
  params : List Nat
  assign : ACode
  body : ACode

/-- The loops over functions in a code. -/
def ACode.rounds : ACode → List (Nat × ARound)
  | .skip | .region _ | .exit _ | .ret => []
  | .seq a b | .cond _ a b => a.rounds ++ b.rounds
  | .block _ c | .loop c | .live _ c | .after c _ => c.rounds
  | .rangeFunc _ g _ ps a b => [(g, ⟨ps, a, b⟩)]

structure AFunc where
  closed : Bool
  nargs : Nat
  ntmps : Nat
  results : List ARes
  body : ACode
  round : Option ARound

/-! ## Numbers, texts -/

def aBits (op : BinOp) (k : IntKind) (x y : Int) : Option AVal :=
  match op with
  | .and => some (.int k (k.wrap (BitVec.ofInt k.bits x &&& BitVec.ofInt k.bits y).toNat))
  | .or => some (.int k (k.wrap (BitVec.ofInt k.bits x ||| BitVec.ofInt k.bits y).toNat))
  | .xor => some (.int k (k.wrap (BitVec.ofInt k.bits x ^^^ BitVec.ofInt k.bits y).toNat))
  | .andNot => some (.int k (k.wrap (BitVec.ofInt k.bits x &&& ~~~(BitVec.ofInt k.bits y)).toNat))
  | _ => none

def aBytesLess : List UInt8 → List UInt8 → Bool
  | _, [] => false
  | [], _ :: _ => true
  | a :: x, b :: y => a < b || (a == b && aBytesLess x y)

def aBin (op : BinOp) : AVal → AVal → Option AVal
  | .int k x, .int k' y =>
    match op with
    | .shl => if y < 0 then none else some (.int k (k.wrap (x * 2 ^ (min y.toNat k.bits))))
    | .shr => if y < 0 then none else some (.int k (x.fdiv (2 ^ (min y.toNat k.bits))))
    | _ => if k = k' then
        match op with
        | .add => some (.int k (k.wrap (x + y)))
        | .sub => some (.int k (k.wrap (x - y)))
        | .mul => some (.int k (k.wrap (x * y)))
        | .quo => if y = 0 then none else some (.int k (k.wrap (x.tdiv y)))
        | .rem => if y = 0 then none else some (.int k (x.tmod y))
        | .eql => some (.bool (decide (x = y)))
        | .neq => some (.bool (!decide (x = y)))
        | .lss => some (.bool (x < y))
        | .leq => some (.bool (x ≤ y))
        | .gtr => some (.bool (x > y))
        | .geq => some (.bool (x ≥ y))
        | op => aBits op k x y
      else none
  | .str a, .str b =>
    match op with
    | .add => if a.length + b.length ≤ 9223372036854775807 then some (.str (a ++ b)) else none
    | .eql => some (.bool (decide (a = b)))
    | .neq => some (.bool (!decide (a = b)))
    | .lss => some (.bool (aBytesLess a b))
    | .leq => some (.bool (aBytesLess a b || decide (a = b)))
    | .gtr => some (.bool !(aBytesLess a b || decide (a = b)))
    | .geq => some (.bool !(aBytesLess a b))
    | _ => none
  | _, _ => none

def aUn (op : UnOp) : AVal → Option AVal
  | .int k n => match op with
    | .neg => some (.int k (k.wrap (0 - n)))
    | .xor => aBits .xor k (if k.signed then -1 else k.max) n
    | _ => none
  | .bool b => match op with
    | .not => some (.bool !b)
    | _ => none
  | _ => none

def aMin2 (isMax : Bool) : AVal → AVal → Option AVal
  | .int k x, .int k' y => if k = k' then some (.int k (if isMax then (if x < y then y else x) else (if y < x then y else x))) else none
  | _, _ => none

def aMins (isMax : Bool) (v : AVal) : List AVal → Option AVal
  | [] => some v
  | x :: r => match aMin2 isMax v x with
    | some y => aMins isMax y r
    | none => none

/-- '==', one side being nil. -/
def aEqNil : NilKind → AVal → AVal → Option Bool
  | .ptr, .ptr none, .ptr b => some b.isNone
  | .ptr, .ptr (some _), .ptr none => some false
  | .slice, .slice none _ _, .slice b _ _ => some b.isNone
  | .slice, .slice (some _) _ _, .slice none _ _ => some false
  | .map, .map none, .map b => some b.isNone
  | .map, .map (some _), .map none => some false
  | .func, .nilFunc, .nilFunc => some true
  | .func, .nilFunc, .func _ _ _ => some false
  | .func, .func _ _ _, .nilFunc => some false
  | _, _, _ => none

/-! ## Parts of aggregates -/

/-- Cells from 'off' on, replaced. -/
def splice (cs : List AVal) (off : Nat) (xs : List AVal) : List AVal := cs.take off ++ xs ++ cs.drop (off + xs.length)

def fill (s : Slots) (cs : List AVal) : List (Nat × Nat × Opd) → Option (List AVal)
  | [] => some cs
  | (off, n, x) :: r =>
    match (x.ev s).bind AVal.cells? with
    | some xs => if xs.length = n ∧ off + n ≤ cs.length then fill s (splice cs off xs) r else none
    | none => none

/-- A part of an aggregate's cells: one cell, or n of them. -/
def part (cs : List AVal) (off : Nat) : Option Nat → Option AVal
  | none => cs[off]?
  | some n => if off + n ≤ cs.length then some (.agg ((cs.drop off).take n)) else none

/-! ## Memory -/

def cellsAt (s : Slots) (h : Heap) : AAddr → Option (List AVal × Nat)
  | .glob i o => match h.get i with
    | some (.cells _ cs) => some (cs, o)
    | _ => none
  | .loc t o => match sget s t with
    | some (.var cs) => some (cs, o)
    | _ => none

def loadAt (s : Slots) (h : Heap) (a : AAddr) (n : Option Nat) : Option AVal :=
  match cellsAt s h a with
  | some (cs, o) => part cs o n
  | none => none

def storeAt (s : Slots) (h : Heap) (a : AAddr) (xs : List AVal) : Option (Slots × Heap) :=
  match a with
  | .glob i o => match h.get i with
    | some (.cells e cs) => if h.base ≤ i ∧ o + xs.length ≤ cs.length then some (s, h.put i (.cells e (splice cs o xs))) else none
    | _ => none
  | .loc t o => match sget s t with
    | some (.var cs) => if o + xs.length ≤ cs.length then some ((t, .var (splice cs o xs)) :: s, h) else none
    | _ => none

/-- An index's number, if it lies in bounds. -/
def inBounds (n : Nat) : AVal → Option Nat
  | .int _ i => if 0 ≤ i ∧ i < n then some i.toNat else none
  | _ => none

/-- A bound's number, if it is at most n. -/
def upTo (n : Nat) : AVal → Option Nat
  | .int _ i => if 0 ≤ i ∧ i ≤ n then some i.toNat else none
  | _ => none

def optEv (s : Slots) : Option Opd → Option (Option AVal)
  | none => some none
  | some x => (x.ev s).map some

def lowB (b : Nat) : Option AVal → Option Nat
  | some l => upTo b l
  | none => some 0

/-- The three bounds of a slice expression: of a slice of length n whose capacity is 'cap'. -/
def bounds (n : Nat) (cap : Option Nat) (lo hi mx : Option AVal) : Option (Nat × Nat × Option Nat) :=
  match mx with
  | some m =>
    match upTo (cap.getD n) m with
    | some m =>
      match hi with
      | some hv => match upTo m hv with
        | some b => (lowB b lo).map fun a => (a, b, some m)
        | none => none
      | none => none
    | none => none
  | none =>
    match hi with
    | some hv => match upTo (cap.getD n) hv with
      | some b => (lowB b lo).map fun a => (a, b, cap)
      | none => none
    | none => (lowB n lo).map fun a => (a, n, cap)

/-- Are the elements of that row of so many cells? -/
def eszIs (h : Heap) (i e : Nat) : Bool :=
  match h.get i with
  | some (.cells e' _) => e' == e
  | some .dead => true
  | _ => false

def aSlice (k : SliceKind) (s : Slots) (h : Heap) (x : Opd) (lo hi mx : Option AVal) : Option AVal :=
  match k with
  | .str => match x.ev s with
    | some (.str t) => match mx with
      | none => (bounds t.length (some t.length) lo hi none).map fun (a, b, _) => .str ((t.drop a).take (b - a))
      | some _ => none
    | _ => none
  | .sl e => match x.ev s with
    | some (.slice none _ _) => (bounds 0 (some 0) lo hi mx).map fun _ => .slice none 0 (some 0)
    | some (.slice (some (i, o)) n c) => if eszIs h i e then (bounds n c lo hi mx).map fun (a, b, m) =>
        -- an empty rest of all that there is stays where it was
        .slice (some (i, if m = some a then o else o + a * e)) (b - a) (m.map (· - a))
      else none
    | _ => none
  | .arr n e => match x.adr s with
    | some (.glob i o) => match h.get i with
      | some (.cells e' cs) => if e' = e ∧ o + n * e ≤ cs.length then (bounds n (some n) lo hi mx).map fun (a, b, m) =>
          .slice (some (i, if m = some a then o else o + a * e)) (b - a) (m.map (· - a))
        else none
      | _ => none
    | _ => none

/-- A slice's elements, as cells. -/
def rowOf (esz : Nat) (h : Heap) : AVal → Option (List AVal)
  | .slice none _ _ => some []
  | .slice (some (i, o)) n _ => if n = 0 then some [] else match h.get i with
    | some (.cells e cs) => if e = esz ∧ o + n * esz ≤ cs.length then some ((cs.drop o).take (n * esz)) else none
    | _ => none
  | .str s => if esz = 1 then some (s.map fun b => .int .u8 b.toNat) else none
  | _ => none

def rowIs (h : Heap) (i e : Nat) : Bool :=
  match h.get i with
  | some (.cells e' _) => e' == e
  | _ => false

def alen : AVal → Nat
  | .slice _ m _ => m
  | .str s => s.length
  | _ => 0

/-- append: nothing appended: as it was; a slice that is known to be full, or nil: a new row; else: a new row in the elder one's place, whose number is gone. -/
def aApp (esz bytes : Nat) (h : Heap) (a : Option (Nat × Nat)) (n : Nat) (c : Option Nat) (m : Nat) (old new : List AVal) : Option (AVal × Heap) :=
  if m = 0 then some (.slice a n c, h)
  else if (n + m) * bytes ≤ 140737488355328 ∧ n + m ≤ 9223372036854775807 then
    match a with
    | none => some (.slice (some (h.size, 0)) (n + m) none, h.push (.cells esz (old ++ new)))
    | some (i, _) =>
      if c = some n then some (.slice (some (h.size, 0)) (n + m) none, h.push (.cells esz (old ++ new)))
      else if h.base ≤ i ∧ rowIs h i esz = true then some (.slice (some (h.size, 0)) (n + m) none, (h.put i .dead).push (.cells esz (old ++ new)))
      else none
  else none

def aAppend (esz bytes : Nat) (h : Heap) (x y : AVal) : Option (AVal × Heap) :=
  match x with
  | .slice a n c => match rowOf esz h (.slice a n c), rowOf esz h y with
    | some old, some new => aApp esz bytes h a n c (alen y) old new
    | _, _ => none
  | _ => none

def bytesOf : List AVal → Option (List UInt8)
  | [] => some []
  | .int .u8 n :: r => (bytesOf r).map (UInt8.ofNat n.toNat :: ·)
  | _ => none

def isVar (s : Slots) (t : Nat) : Bool :=
  match sget s t with
  | some (.var _) => true
  | _ => false

/-! ## Keys, maps -/

def akey1 : AVal → AVal → Option Bool
  | .str a, .str b => some (decide (a = b))
  | .int k a, .int k' b => if k = k' then some (decide (a = b)) else none
  | .bool a, .bool b => some (decide (a = b))
  | _, _ => none

def akeyL : List AVal → List AVal → Option Bool
  | [], [] => some true
  | a :: as, b :: bs => match akey1 a b with
    | some true => akeyL as bs
    | some false => some false
    | none => none
  | _, _ => none

def akey : AVal → AVal → Option Bool
  | .agg a, .agg b => if a.length = b.length then akeyL a b else none
  | a, b => akey1 a b

def CK.is : CK → AVal → Bool
  | .b, .bool _ => true
  | .i, .int _ _ => true
  | .s, .str _ => true
  | _, _ => false

def areKeys : List CK → List AVal → Bool
  | [], [] => true
  | k :: ks, v :: vs => k.is v && areKeys ks vs
  | _, _ => false

def isKey : KeyT → AVal → Bool
  | .one c, v => c.is v
  | .agg ks, .agg cs => areKeys ks cs
  | _, _ => false

def findA (k : AVal) : List (AVal × AVal × Nat) → Option (Option (Nat × AVal))
  | [] => some none
  | e :: es => match akey k e.1 with
    | some true => some (some (0, e.2.1))
    | some false => (findA k es).map fun r => r.map fun (i, v) => (i + 1, v)
    | none => none

/-- A map's entries; a nil map has none. -/
def entriesOf (h : Heap) : AVal → Option (List (AVal × AVal × Nat))
  | .map none => some []
  | .map (some r) => match h.get r with
    | some (.map es _) => some es
    | _ => none
  | _ => none

def evEq (neg : Bool) (ks : List CK) : AVal → AVal → Option AVal
  | .agg a, .agg b => if areKeys ks a = true ∧ a.length = b.length then (akeyL a b).map fun e => .bool (if neg then !e else e) else none
  | _, _ => none

def evCap : AVal → Option AVal
  | .slice _ _ (some c) => some (.int .i64 c)
  | _ => none

def evPure (p : PureOp) (vs : List AVal) : Option AVal :=
  match p, vs with
  | .eqcells neg ks, [x, y] => evEq neg ks x y
  | .cap, [x] => evCap x
  | _, _ => none

def evExt (k : ExtOp) (vs : List AVal) (h : Heap) : Option (AVal × Heap) :=
  match k, vs with
  | .mkmap, [] => some (.map (some h.size), h.push (.map [] 0))
  | .lookup kn zero ok, [m, k] => if isKey kn k then match entriesOf h m with
      | some es => match findA k es with
        | some (some (_, v)) => some (if ok then .tuple [v, .bool true] else v, h)
        | some none => some (if ok then .tuple [zero, .bool false] else zero, h)
        | none => none
      | none => none
    else none
  | .mapupd kn, [.map (some r), k, v] => if isKey kn k ∧ h.base ≤ r then match h.get r with
      | some (.map es clock) => match findA k es with
        | some (some (i, _)) => some (.tuple [], h.put r (.map (es.modify i fun e => (k, v, e.2.2)) clock))
        | some none => some (.tuple [], h.put r (.map (es ++ [(k, v, clock)]) (clock + 1)))
        | none => none
      | _ => none
    else none
  | .delete kn, [.map none, k] => if isKey kn k then some (.tuple [], h) else none
  | .delete kn, [.map (some r), k] => if isKey kn k ∧ h.base ≤ r then match h.get r with
      | some (.map es clock) => match findA k es with
        | some (some (i, _)) => some (.tuple [], h.put r (.map (es.eraseIdx i) clock))
        | some none => some (.tuple [], h)
        | none => none
      | _ => none
    else none
  | .pure p, vs => (evPure p vs).map fun v => (v, h)
  | _, _ => none

abbrev CallSem := Nat → List AVal → Heap → Option (AVal × Heap)

/-- Repeat cells n times. -/
def rep (n : Nat) (zero : List AVal) : List AVal := (List.replicate n zero).flatten

def ok1 (s : Slots) (h : Heap) (v : Option AVal) : Option (Slot × Slots × Heap) := v.map fun v => (.val v, s, h)

def evLen (k : LenKind) (v : AVal) (h : Heap) : Option AVal :=
  match k with
  | .str => match v with
    | .str t => some (.int .i64 t.length)
    | _ => none
  | .sl => match v with
    | .slice _ n _ => some (.int .i64 n)
    | _ => none
  | .map => match v with
    | .map none => some (.int .i64 0)
    | .map (some r) => match h.get r with
      | some (.map es _) => some (.int .i64 es.length)
      | _ => none
    | _ => none

def evConv (k : ConvKind) (v : AVal) (s : Slots) (h : Heap) : Option (Slot × Slots × Heap) :=
  match k with
  | .int k => match v with
    | .int _ n => ok1 s h (some (.int k (k.wrap n)))
    | _ => none
  | .str => match v with
    | .str t => ok1 s h (some (.str t))
    | _ => none
  | .bytes => match v with
    | .str t => some (.val (.slice (some (h.size, 0)) t.length none), s, h.push (.cells 1 (t.map fun b => .int .u8 b.toNat)))
    | _ => none
  | .string => match v with
    | .slice a n c => match (rowOf 1 h (.slice a n c)).bind bytesOf with
      | some t => ok1 s h (some (.str t))
      | none => none
    | _ => none

def evOp (call : CallSem) (dst : Nat) (o : AOp) (s : Slots) (h : Heap) : Option (Slot × Slots × Heap) :=
  match o with
  | .val x => ok1 s h (x.ev s)
  | .pick c a b => match c.ev s with
    | some (.bool true) => ok1 s h (a.ev s)
    | some (.bool false) => ok1 s h (b.ev s)
    | _ => none
  | .alloc e z => some (.val (.ptr (some (h.size, 0))), s, h.push (.cells e z))
  | .lalloc z => some (.var z, unloc dst s, h)
  | .box x => match (x.ev s).bind AVal.cells? with
    | some cs => some (.val (.ptr (some (h.size, 0))), s, h.push (.cells cs.length cs))
    | none => none
  | .lbox x => match (x.ev s).bind AVal.cells? with
    | some cs => some (.var cs, unloc dst s, h)
    | none => none
  | .build z ps => ok1 s h ((fill s z ps).map .agg)
  | .mkslice e n z ps => match fill s z ps with
    | some cs => some (.val (.slice (some (h.size, 0)) n (some n)), s, h.push (.cells e cs))
    | none => none
  | .load n a => match a.adr s with
    | some a => ok1 s h (loadAt s h a n)
    | none => none
  | .store n a x => match a.adr s, (x.ev s).bind AVal.cells? with
    | some a, some xs => if xs.length = n then (storeAt s h a xs).map fun (s', h') => (.undef, s', h') else none
    | _, _ => none
  | .bin op x y => match x.ev s, y.ev s with
    | some x, some y => ok1 s h (aBin op x y)
    | _, _ => none
  | .un op x => match x.ev s with
    | some x => ok1 s h (aUn op x)
    | none => none
  | .conv k x => match x.ev s with
    | some v => evConv k v s h
    | none => none
  | .mkfunc g f c => match evs s f, evs s c with
    | some f, some c => ok1 s h (some (.func g f c))
    | _, _ => none
  | .make e b z l c => match l.ev s, c.ev s with
    | some (.int kl n), some (.int kc m) =>
      if 0 ≤ n ∧ n ≤ m ∧ m * b ≤ 140737488355328 ∧ m ≤ 9223372036854775807 ∧ kl = .i64 ∧ kc = .i64 then
        some (.val (.slice (some (h.size, 0)) n.toNat (some m.toNat)), s, h.push (.cells e (rep m.toNat z)))
      else none
    | _, _ => none
  | .slice k x lo hi mx => match optEv s lo, optEv s hi, optEv s mx with
    | some lo, some hi, some mx => ok1 s h (aSlice k s h x lo hi mx)
    | _, _, _ => none
  | .faddr x off => match x.adr s with
    | some (.glob i o) => ok1 s h (some (.ptr (some (i, o + off))))
    | some (.loc t o) => if isVar s t then some (.loc t (o + off), s, h) else none
    | none => none
  | .field x off n => match x.ev s with
    | some (.agg cs) => ok1 s h (part cs off n)
    | _ => none
  | .iaddr e x i => match x.ev s, i.ev s with
    | some (.slice (some (b, o)) n _), some i => ok1 s h ((inBounds n i).map fun j => .ptr (some (b, o + j * e)))
    | _, _ => none
  | .aaddr n e x i => match x.adr s, i.ev s with
    | some (.glob b o), some i => ok1 s h ((inBounds n i).map fun j => .ptr (some (b, o + j * e)))
    | some (.loc t o), some i => if isVar s t then (inBounds n i).map fun j => (.loc t (o + j * e), s, h) else none
    | _, _ => none
  | .index x i => match x.ev s, i.ev s with
    | some (.str t), some i => ok1 s h ((inBounds t.length i).bind fun j => (t[j]?).map fun b => .int .u8 b.toNat)
    | _, _ => none
  | .aindex n e k x i => match x.ev s, i.ev s with
    | some (.agg cs), some i => ok1 s h ((inBounds n i).bind fun j => part cs (j * e) k)
    | _, _ => none
  | .extract x i => match x.ev s with
    | some (.tuple vs) => ok1 s h vs[i]?
    | _ => none
  | .call f args => match f.ev s, evs s args with
    | some (.func g first caps), some as => (call g (first ++ as ++ caps) h).map fun (v, h') => (.val v, s, h')
    | some (.yield i), some as => match h.get i with
      | some (.loop g _ _ _) => (call g (.ptr (some (i, 0)) :: as) h).map fun (v, h') => (.val v, s, h')
      | _ => none
    | _, _ => none
  | .callg g args => match evs s args with
    | some as => (call g as h).map fun (v, h') => (.val v, s, h')
    | none => none
  | .len k x => match x.ev s with
    | some v => ok1 s h (evLen k v h)
    | none => none
  | .append e b x y => match x.ev s, y.ev s with
    | some x, some y => (aAppend e b h x y).map fun (v, h') => (.val v, s, h')
    | _, _ => none
  | .copy _ _ _ => none
  | .minmax mx xs => match evs s xs with
    | some (x :: r) => ok1 s h (aMins mx x r)
    | _ => none
  | .nilcheck x => match x.ev s with
    | some (.ptr (some a)) => ok1 s h (some (.ptr (some a)))
    | _ => match x.adr s with
      | some (.loc t o) => if isVar s t then some (.loc t o, s, h) else none
      | _ => none
  | .eqnil k neg x y => match x.ev s, y.ev s with
    | some x, some y => ok1 s h ((aEqNil k x y).map fun b => .bool (if neg then !b else b))
    | _, _ => none
  | .beq neg x y => match x.ev s, y.ev s with
    | some (.bool a), some (.bool b) => ok1 s h (some (.bool (if neg then !decide (a = b) else decide (a = b))))
    | _, _ => none
  | .ext k xs => match evs s xs with
    | some vs => (evExt k vs h).map fun (v, h') => (.val v, s, h')
    | none => none
  | .nextStr _ => none

/-- A slot is set. -/
def setSlot (dst : Option Nat) (x : Slot) (s : Slots) : Slots :=
  match dst with
  | some d => (d, x) :: s
  | none => s

def evRun (call : CallSem) (o : AOper) (s : Slots) (h : Heap) : Option (Slots × Heap) :=
  match evOp call (o.dst.getD 0) o.op s h with
  | some (x, s', h') => some (setSlot o.dst x s', h')
  | none => none

def evOper (call : CallSem) (o : AOper) (s : Slots) (h : Heap) : Option (Slots × Heap) :=
  match o.guard with
  | none => evRun call o s h
  | some (t, want) => match sget s t with
    | some (.val (.bool b)) => if b = want then evRun call o s h else some (setSlot o.dst .undef s, h)
    | some .undef => some (setSlot o.dst .undef s, h)
    | _ => none

def evOps (call : CallSem) : List AOper → Slots → Heap → Option (Slots × Heap)
  | [], s, h => some (s, h)
  | o :: r, s, h => match evOper call o s h with
    | some (s', h') => evOps call r s' h'
    | none => none

mutual
/-- The numbers of all objects in it. -/
def AVal.ids : AVal → List Nat
  | .ptr (some (i, _)) => [i]
  | .slice (some (i, _)) _ _ => [i]
  | .map (some i) => [i]
  | .yield i => [i]
  | .func _ f c => AVal.idsL f ++ AVal.idsL c
  | .iface _ v => v.ids
  | .agg cs => AVal.idsL cs
  | .tuple vs => AVal.idsL vs
  | _ => []
def AVal.idsL : List AVal → List Nat
  | [] => []
  | v :: r => v.ids ++ AVal.idsL r
end

mutual
def AVal.ren (f : Nat → Nat) : AVal → AVal
  | .ptr (some (i, o)) => .ptr (some (f i, o))
  | .slice (some (i, o)) n c => .slice (some (f i, o)) n c
  | .map (some i) => .map (some (f i))
  | .yield i => .yield (f i)
  | .func g a c => .func g (AVal.renL f a) (AVal.renL f c)
  | .iface t v => .iface t (v.ren f)
  | .agg cs => .agg (AVal.renL f cs)
  | .tuple vs => .tuple (AVal.renL f vs)
  | v => v
def AVal.renL (f : Nat → Nat) : List AVal → List AVal
  | [] => []
  | v :: r => v.ren f :: AVal.renL f r
end

def AObj.ids : AObj → List Nat
  | .cells _ cs => AVal.idsL cs
  | .map es _ => es.flatMap fun (k, v, _) => k.ids ++ v.ids
  | .loop _ _ _ sl => AVal.idsL (sl.map (·.2))
  | _ => []

def AObj.ren (f : Nat → Nat) : AObj → AObj
  | .cells e cs => .cells e (AVal.renL f cs)
  | .map es c => .map (es.map fun (k, v, b) => (k.ren f, v.ren f, b)) c
  | .loop g st p sl => .loop g st p (sl.map fun (t, v) => (t, v.ren f))
  | o => o

/-- Operations whose order may be any: none of them changes what is there, nor a variable of the frame. -/
def evQuiet (call : CallSem) : List AOper → Slots → Heap → Option (Slots × Heap)
  | [], s, h => some (s, h)
  | o :: r, s, h => match evOper call o s { h with wmin := h.size } with
    | some (s', h') => if h'.size = h.size ∧ h'.wmin = h.size ∧ (o.dst.all fun d => !isVar s d) = true then evQuiet call r s' h else none
    | none => none

/-! ## Parts whose order is open, in which objects are made -/

def Slot.ids : Slot → List Nat
  | .val v => v.ids
  | .var cs => AVal.idsL cs
  | _ => []

/-- Number N becomes r. -/
def mv (N r : Nat) : Nat → Nat := fun i => if i = N then r else i

def Slot.ren (f : Nat → Nat) : Slot → Slot
  | .val v => .val (v.ren f)
  | x => x

def noCall : CallSem := fun _ _ _ => none

/-- The operands behind which an operation looks into the memory. -/
def heapOpds : AOp → List Opd
  | .load _ a => [a]
  | .slice _ x _ _ _ => [x]
  | .conv _ x => [x]
  | .len _ x => [x]
  | .append _ _ x y => [x, y]
  | .ext (.pure _) _ => []
  | .ext _ xs => xs
  | _ => []

def AOp.isCall : AOp → Bool
  | .call _ _ | .callg _ _ => true
  | _ => false

def Opd.reads : Opd → List Nat
  | .tmp t => [t]
  | .const _ => []

def readsL : List Opd → List Nat
  | [] => []
  | x :: r => x.reads ++ readsL r

def readsO : Option Opd → List Nat
  | some x => x.reads
  | none => []

def readsP : List (Nat × Nat × Opd) → List Nat
  | [] => []
  | (_, _, x) :: r => x.reads ++ readsP r

/-- Which slots an operation looks at. -/
def AOp.reads : AOp → List Nat
  | .val x | .box x | .lbox x | .load _ x | .un _ x | .conv _ x | .faddr x _ | .field x _ _ | .extract x _ | .len _ x | .nilcheck x | .nextStr x => x.reads
  | .pick c a b => c.reads ++ a.reads ++ b.reads
  | .alloc _ _ | .lalloc _ => []
  | .build _ ps | .mkslice _ _ _ ps => readsP ps
  | .store _ a x => a.reads ++ x.reads
  | .bin _ x y | .iaddr _ x y | .aaddr _ _ x y | .index x y | .aindex _ _ _ x y | .append _ _ x y | .copy _ x y | .eqnil _ _ x y | .beq _ x y | .make _ _ _ x y => x.reads ++ y.reads
  | .mkfunc _ f c => readsL f ++ readsL c
  | .slice _ x a b c => x.reads ++ readsO a ++ readsO b ++ readsO c
  | .call f as => f.reads ++ readsL as
  | .callg _ as => readsL as
  | .minmax _ xs => readsL xs
  | .ext _ xs => readsL xs

def AOper.reads (o : AOper) : List Nat :=
  o.op.reads ++ (match o.guard with | some (t, _) => [t] | none => [])

/-- What an operation of such a part did: at what it looked, the object that it took the place of, from where on it may have written, what it made. -/
structure Did where
  isCall : Bool
  rd : List Nat
  ch : Option Nat
  wr : Option Nat
  lo : Nat
  hi : Nat

/-- Is object i made by one of those in m? -/
def seenBy (m : Nat) : Nat → List Did → Nat → Bool
  | _, [], _ => false
  | y, d :: r, i => (m.testBit y && decide (d.lo ≤ i) && decide (i < d.hi)) || seenBy m (y + 1) r i

/-- An operation that waits for those in m may name what was there, and the objects of those that it waits for. -/
def okId (n0 m : Nat) (ds : List Did) (i : Nat) : Bool := decide (i < n0) || seenBy m 0 ds i

def allSeen (m : Nat) : Nat → List Did → Bool
  | _, [] => true
  | y, d :: r => (m.testBit y || decide (d.hi ≤ d.lo)) && allSeen m (y + 1) r

def killRange (lo hi : Nat) (os : List AObj) : List AObj := os.mapIdx fun i o => if lo ≤ i ∧ i < hi then .dead else o

/-- What one that waits for those in m can't have seen is gone. -/
def hide (m : Nat) : Nat → List Did → List AObj → List AObj
  | _, [], os => os
  | y, d :: r, os => hide m (y + 1) r (if m.testBit y || decide (d.hi ≤ d.lo) then os else killRange d.lo d.hi os)

def Did.writes (x : Did) (i : Nat) : Bool := x.ch == some i || (match x.wr with | some w => decide (w ≤ i) | none => false)

/-- Of two neither of which waits for the other: does one change what the other looks at, or changes? -/
def clash (x y : Did) : Bool :=
  (x.isCall && y.isCall) || (x.ch.isSome && y.isCall) || (y.ch.isSome && x.isCall) ||
  (y.rd ++ y.ch.toList).any x.writes || (x.rd ++ x.ch.toList).any y.writes

def noClash (m : Nat) (x : Did) : Nat → List Did → Bool
  | _, [] => true
  | y, d :: r => (m.testBit y || !clash x d) && noClash m x (y + 1) r

def slotIds (s : Slots) (t : Nat) : List Nat := match sget s t with
  | some x => x.ids
  | none => []

def dstSlot (d : Option Nat) (s : Slots) : Slot := match d with
  | some d => (sget s d).getD .undef
  | none => .undef

def rdIds (o : AOp) (s : Slots) : List Nat := (heapOpds o).flatMap fun x => match x.ev s with
  | some v => v.ids
  | none => []

/-- One operation: what it gives, the memory, what it did. -/
def openOne (call : CallSem) (n0 m : Nat) (ds : List Did) (o : AOper) (s : Slots) (h : Heap) : Option (Slot × Heap × Did) :=
  if (o.reads.flatMap (slotIds s) ++ rdIds o.op s).all (okId n0 m ds) = false then none else
  if o.op.isCall then
    match evOper call o s ⟨hide m 0 ds h.objs, h.base, h.size⟩ with
    | none => none
    | some (s', h') =>
      let y := dstSlot o.dst s'
      if h'.wmin < h.size then
        if allSeen m 0 ds then some (y, ⟨h'.objs, h.base, min h.wmin h'.wmin⟩, ⟨true, [], none, some h'.wmin, h.size, h'.size⟩) else none
      else if allSeen m 0 ds then some (y, ⟨h'.objs, h.base, h.wmin⟩, ⟨true, [], none, none, h.size, h'.size⟩)
      else if (y.ids ++ (h'.objs.drop h.size).flatMap AObj.ids).all (fun i => okId n0 m ds i || decide (h.size ≤ i)) then
        some (y, ⟨h.objs ++ h'.objs.drop h.size, h.base, h.wmin⟩, ⟨true, [], none, none, h.size, h'.size⟩)
      else none
  else
    match evOper noCall o s ⟨h.objs, h.base, h.size⟩ with
    | none => none
    | some (s', h') =>
      let y := dstSlot o.dst s'
      if h'.size = h.size then
        if h'.wmin = h.size ∧ y.ids.all (okId n0 m ds) = true then some (y, h, ⟨false, rdIds o.op s, none, none, h.size, h.size⟩) else none
      else if h'.size = h.size + 1 then
        match h'.objs[h.size]? with
        | some ob =>
          if ob.ids.all (okId n0 m ds) then
            if h'.wmin = h.size then some (y, ⟨h'.objs, h.base, h.wmin⟩, ⟨false, rdIds o.op s, none, none, h.size, h.size + 1⟩)
            else some (y, ⟨h'.objs, h.base, min h.wmin h'.wmin⟩, ⟨false, rdIds o.op s, some h'.wmin, none, h.size, h.size + 1⟩)
          else none
        | none => none
      else none

def openAll (call : CallSem) (n0 : Nat) : List Nat → List AOper → List Did → Slots → Heap → Option (Slots × Heap)
  | _, [], _, s, h => some (s, h)
  | ms, o :: r, ds, s, h => match openOne call n0 (ms.headD 0) ds o s h with
    | some (y, h', d) =>
      if (o.dst.all fun d => !isVar s d) = true ∧ noClash (ms.headD 0) d 0 ds = true then openAll call n0 ms.tail r (ds ++ [d]) (setSlot o.dst y s) h' else none
    | none => none

/-- Operations whose order may be any: what one that waits for others gives hangs on those alone. -/
def evOpen (call : CallSem) (ms : List Nat) (ops : List AOper) (s : Slots) (h : Heap) : Option (Slots × Heap) :=
  openAll call h.size ms ops [] s h

def evSegs (call : CallSem) : List Seg → Slots → Heap → Option (Slots × Heap)
  | [], s, h => some (s, h)
  | g :: r, s, h => match (if g.quiet then (if g.soft = [] then evQuiet call g.ops s h else evOpen call g.soft g.ops s h) else evOps call g.ops s h) with
    | some (s', h') => evSegs call r s' h'
    | none => none

structure St where
  s : Slots
  h : Heap

/-- Slots' values, as a loop over a function keeps them. -/
def capsOf (s : Slots) : List Nat → Option (List (Nat × AVal))
  | [] => some []
  | t :: r => match sget s t, capsOf s r with
    | some (.val v), some l => some ((t, v) :: l)
    | _, _ => none

def ofCaps : List (Nat × AVal) → Slots
  | [] => []
  | (t, v) :: r => (t, .val v) :: ofCaps r

def setArgs : List Nat → List AVal → Slots → Slots
  | t :: ts, v :: vs, s => setArgs ts vs ((t, .val v) :: s)
  | _, _, s => s

/-- A function is called. -/
def callVal (call : CallSem) (f : AVal) (args : List AVal) (h : Heap) : Option (AVal × Heap) :=
  match f with
  | .func g first caps => call g (first ++ args ++ caps) h
  | _ => none

/-- Behind a loop over a function: how it was left. -/
def loopEnd (s : Slots) (h : Heap) (i : Nat) : Option (AExit × St) :=
  match h.get i with
  | some (.loop _ st p _) => if st = .busy then none else some (p.getD .normal, ⟨s, h.put i .dead⟩)
  | _ => none

def loopN (f : St → Option (AExit × St)) : Nat → St → Option (AExit × St)
  | 0, _ => none
  | n + 1, st => match f st with
    | some (.normal, st') => loopN f n st'
    | r => r

def evCode (call : CallSem) (n : Nat) : ACode → St → Option (AExit × St)
  | .skip, st => some (.normal, st)
  | .region gs, st => (evSegs call gs st.s st.h).map fun (s, h) => (.normal, ⟨s, h⟩)
  | .seq a b, st => match evCode call n a st with
    | some (.normal, st') => evCode call n b st'
    | r => r
  | .cond c t e, st => match c.ev st.s with
    | some (.bool true) => evCode call n t st
    | some (.bool false) => evCode call n e st
    | _ => none
  | .block id c, st => match evCode call n c st with
    | some (.exit j, st') => if j = id then some (.normal, st') else some (.exit j, st')
    | r => r
  | .loop c, st => loopN (evCode call n c) n st
  | .exit id, st => some (.exit id, st)
  | .ret, st => some (.ret, st)
  | .live l c, st => evCode call n c ⟨keep l st.s, st.h⟩
  | .after c l, st => match evCode call n c st with
    | some (.normal, st') => some (.normal, ⟨keep l st'.s, st'.h⟩)
    | r => r
  | .rangeFunc f g caps _ _ _, st => match f.ev st.s, capsOf st.s caps with
    | some fv, some sl => match callVal call fv [.yield st.h.size] (st.h.push (.loop g .ready none sl)) with
      | some (_, h') => loopEnd st.s h' st.h.size
      | none => none
    | _, _ => none

/-! ## What a call leaves behind -/

mutual
/-- Are all objects' numbers below n? -/
def AVal.under (n : Nat) : AVal → Bool
  | .ptr (some (i, _)) => i < n
  | .slice (some (i, _)) _ _ => i < n
  | .map (some i) => i < n
  | .yield i => i < n
  | .func _ f c => AVal.unders n f && AVal.unders n c
  | .iface _ v => v.under n
  | .agg cs => AVal.unders n cs
  | .tuple vs => AVal.unders n vs
  | _ => true
def AVal.unders (n : Nat) : List AVal → Bool
  | [] => true
  | v :: r => v.under n && AVal.unders n r
end

/-- The new objects that can be reached, in the order in which they are met. -/
def reach (h : Heap) (n0 : Nat) : Nat → List Nat → List Nat → List Nat
  | 0, _, acc => acc
  | _ + 1, [], acc => acc
  | f + 1, i :: r, acc =>
    if i < n0 then reach h n0 f r acc
    else if acc.contains i then reach h n0 f r acc
    else reach h n0 f (((h.get i).map AObj.ids).getD [] ++ r) (acc ++ [i])

def idxIn (i : Nat) : List Nat → Nat
  | [] => 0
  | j :: r => if j = i then 0 else idxIn i r + 1

/-- Behind a call that wrote to nothing that was there: what it made and can't be reached is gone, what can be reached stands in order. -/
def finish (h0 : Heap) (v : AVal) (h : Heap) : AVal × Heap :=
  if h.wmin < h0.size then (v, { h with wmin := min h0.wmin h.wmin })
  else if v.under h0.size then (v, h0)
  else
    let k := reach h h0.size 1000 v.ids []
    let ok := (v.ids ++ k.flatMap fun i => ((h.get i).map AObj.ids).getD []).all fun i => i < h0.size || k.contains i
    let f := fun i => if i < h0.size then i else h0.size + idxIn i k
    if ok then (v.ren f, { h0 with objs := h0.objs ++ k.map fun i => ((h.get i).map (AObj.ren f)).getD .dead })
    else (v, { h with wmin := h0.wmin })

def enter (i : Nat) : List AVal → Slots
  | [] => []
  | v :: r => (i, .val v) :: enter (i + 1) r

def result1 (s : Slots) (h : Heap) : ARes → Option AVal
  | .tmp t => match sget s t with
    | some (.val v) => some v
    | _ => none
  | .cell t n => match (Opd.tmp t).adr s with
    | some a => loadAt s h a n
    | none => none

def resultsL (s : Slots) (h : Heap) : List ARes → Option (List AVal)
  | [] => some []
  | x :: r => match result1 s h x, resultsL s h r with
    | some v, some vs => some (v :: vs)
    | _, _ => none

def tupled : List AVal → AVal
  | [v] => v
  | vs => .tuple vs

def evFunc (call : CallSem) (n : Nat) (f : AFunc) (args : List AVal) (h : Heap) : Option (AVal × Heap) :=
  if args.length = f.nargs then
    match evCode call n f.body ⟨enter 0 args, { h with wmin := h.size }⟩ with
    | some (.normal, st) | some (.ret, st) => (resultsL st.s st.h f.results).map fun vs => finish h (tupled vs) st.h
    | _ => none
  else none

/-- The first half of a round: yield's arguments are laid, the record is ready. -/
def roundIn (g i : Nat) : Option (AExit × St) → Option St
  | some (.normal, st) => match st.h.get i with
    | some (.loop g' .ready p sl) => if g' = g then some ⟨st.s, st.h.put i (.loop g .busy p sl)⟩ else none
    | _ => none
  | _ => none

/-- A round's end: the record is ready anew, or tells how the loop is left. -/
def roundOut (h0 : Heap) (g i : Nat) : Option (AExit × St) → Option (AVal × Heap)
  | some (e, st) => match st.h.get i with
    | some (.loop g' _ _ sl) => if g' = g then some (finish h0 (.bool (decide (e = .normal))) (st.h.put i (.loop g (if e = .normal then .ready else .done) (if e = .normal then none else some e) sl))) else none
    | _ => none
  | none => none

def roundSlots (i : Nat) (ps : List Nat) (args : List AVal) (h : Heap) : Option Slots :=
  match h.get i with
  | some (.loop _ _ _ sl) => some (setArgs ps args (ofCaps sl))
  | _ => none

/-- A round of a loop over a function: yield is called. -/
def evRound (call : CallSem) (n g : Nat) (r : ARound) (args : List AVal) (h : Heap) : Option (AVal × Heap) :=
  match args with
  | .ptr (some (i, _)) :: as =>
    if as.length = r.params.length ∧ h.base ≤ i then match roundSlots i r.params as h with
      | some s => match roundIn g i (evCode call n r.assign ⟨s, { h with wmin := h.size }⟩) with
        | some st => roundOut h g i (evCode call n r.body st)
        | none => none
      | none => none
    else none
  | _ => none

/-- A call that neither reads nor makes what is there: it is run in a memory of its own. -/
def evClosed (r : List AVal → Heap → Option (AVal × Heap)) (args : List AVal) (h : Heap) : Option (AVal × Heap) :=
  if AVal.unders 0 args then match r args ⟨[], 0, 0⟩ with
    | some (v, _) => if v.under 0 then some (v, h) else none
    | none => none
  else none

def wrapC (closed : Bool) (r : List AVal → Heap → Option (AVal × Heap)) (args : List AVal) (h : Heap) : Option (AVal × Heap) :=
  if closed then evClosed r args h else r args h

def evCall (T : Nat → Option AFunc) : Nat → CallSem
  | 0 => fun _ _ _ => none
  | n + 1 => fun g args h => match T g with
    | some f => match f.round with
      | some r => evRound (evCall T n) n g r args h
      | none => wrapC f.closed (evFunc (evCall T n) n f) args h
    | none => none

end Go.Abs
