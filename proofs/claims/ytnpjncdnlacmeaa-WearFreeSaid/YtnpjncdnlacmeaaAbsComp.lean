/-
  From the model's code to the abstract machine's: a function that may say no, asked by the kernel of each function. 'Hint': which slots are wanted later, which variables stay in their frame, and in which parts a statement whose order is open falls: none of these is trusted.
-/
import Derived.Test.YtnpjncdnlacmeaaAbsCore
namespace Go.Abs

structure Env where
  P : Program
  gid : FuncId → Option Nat
  rnd : Nat → Option ARound

inductive Hint where
  | leaf
  | stuck
  | reg (segs : List (Bool × Nat)) (locs : List Nat)
  | seq (a b : Hint)
  | cond (a b : Hint)
  | block (a : Hint)
  | loop (a : Hint)
  | live (l : List Nat) (a : Hint)
  | after (a : Hint) (l : List Nat)
  | rangeFunc (g : Nat) (caps : List Nat) (a b : Hint)

def toA1 : Value → Option AVal
  | .bool b => some (.bool b)
  | .int k n => some (.int k n)
  | .string s => some (.str s.data.toList)
  | .pointer none => some (.ptr none)
  | .slice none 0 0 => some (.slice none 0 (some 0))
  | .map none => some (.map none)
  | .nilFunc => some .nilFunc
  | .nilIface => some .nilIface
  | _ => none

def toAs : List Value → Option (List AVal)
  | [] => some []
  | v :: r => match toA1 v, toAs r with
    | some a, some as => some (a :: as)
    | _, _ => none

def toA : Value → Option AVal
  | .agg cs => (toAs cs.toList).map .agg
  | v => toA1 v

def cOpd (E : Env) : Operand → Option Opd
  | .tmp t => some (.tmp t)
  | .const v => (toA v).map .const
  | .func f => (E.gid f).map fun g => .const (.func g [] [])
  | .global _ => none

def cOpds (E : Env) : List Operand → Option (List Opd)
  | [] => some []
  | x :: r => match cOpd E x, cOpds E r with
    | some a, some as => some (a :: as)
    | _, _ => none

def cOpt (E : Env) : Option Operand → Option (Option Opd)
  | none => some none
  | some x => (cOpd E x).map some

def zeroOf (P : Program) (t : TypeId) : Option (List AVal) :=
  match P.info? t with
  | some i => match i.zero with
    | some z => toAs z.cells.toList
    | none => none
  | none => none

def sizeT (P : Program) (t : TypeId) : Option Nat := (P.info? t).map (·.size)

/-- What a part of that type is: one cell (none), or so many. -/
def partT (P : Program) (t : TypeId) : Option (Option Nat) :=
  match P.underlying t with
  | some (.struct _) | some (.array _ _) => (sizeT P t).map some
  | some _ => some none
  | none => none

/-- Of how many cells an element is: of an array's variable one of its elements. -/
def eszOf (P : Program) (t : TypeId) : Option Nat :=
  match P.underlying t with
  | some (.array _ e) => sizeT P e
  | _ => sizeT P t

def cParts (E : Env) (place : Nat → Option (Nat × Nat)) : List (Nat × Operand) → Option (List (Nat × Nat × Opd))
  | [] => some []
  | (i, x) :: r => match place i, cOpd E x, cParts E place r with
    | some (o, n), some a, some as => some ((o, n, a) :: as)
    | _, _, _ => none

def fieldPlaces (P : Program) : List Field → Option (List (Nat × Nat))
  | [] => some []
  | f :: r => match sizeT P f.type, fieldPlaces P r with
    | some n, some l => some ((f.offset, n) :: l)
    | _, _ => none

/-- The cells of a type all of whose parts may be compared at once. -/
def ckFields (g : TypeId → Option (List CK)) (P : Program) : Nat → List Field → Option (List CK)
  | _, [] => some []
  | off, f :: r => match g f.type with
    | some l => if f.offset = off ∧ f.name ≠ "_" ∧ sizeT P f.type = some l.length ∧ 0 < l.length then (ckFields g P (off + l.length) r).map (l ++ ·) else none
    | none => none

def ckOf (P : Program) : Nat → TypeId → Option (List CK)
  | 0, _ => none
  | n + 1, t => match P.underlying t with
    | some .bool => some [.b]
    | some (.int _) => some [.i]
    | some .string => some [.s]
    | some (.struct fs) => if P.stoodInHeld t then none else ckFields (ckOf P n) P 0 fs.toList
    | some (.array k e) => match ckOf P n e with
      | some l => if sizeT P e = some l.length ∧ 0 < l.length then some (List.replicate k l).flatten else none
      | none => none
    | _ => none

def keyT (P : Program) (t : TypeId) : Option KeyT :=
  if sizeT P t = none then none else
  match P.underlying t with
  | some .bool => some (.one .b)
  | some (.int _) => some (.one .i)
  | some .string => some (.one .s)
  | some (.struct _) => (ckOf P 2 t).map .agg
  | _ => none

/-- The zero value. -/
def zeroA (P : Program) (t : TypeId) : Option AVal :=
  match P.info? t with
  | some i => match i.zero with
    | some z => toA z
    | none => none
  | none => none

def cEq (d : TypeDesc) (neg : Bool) (a b : Opd) : Option AOp :=
  match d with
  | .bool => some (.beq neg a b)
  | .pointer _ => some (.eqnil .ptr neg a b)
  | .slice _ => some (.eqnil .slice neg a b)
  | .map _ _ => some (.eqnil .map neg a b)
  | .func _ _ _ => some (.eqnil .func neg a b)
  | _ => none

def cBin (E : Env) (op : BinOp) (t : TypeId) (x y : Operand) : Option AOp :=
  match cOpd E x, cOpd E y with
  | some a, some b =>
    match E.P.underlying t with
    | some (.int _) | some .string => some (.bin op a b)
    | some (.struct _) | some (.array _ _) =>
      if E.P.eqGuardType E.P.depth t then none else
      match op, ckOf E.P 20 t with
      | .eql, some ks => some (.ext (.pure (.eqcells false ks)) [a, b])
      | .neq, some ks => some (.ext (.pure (.eqcells true ks)) [a, b])
      | _, _ => none
    | some d =>
      match op with
      | .eql => cEq d false a b
      | .neq => cEq d true a b
      | _ => none
    | none => none
  | _, _ => none

def isByte (P : Program) (t : TypeId) : Bool :=
  match P.underlying t with
  | some (.int .u8) => true
  | _ => false

def cConv (E : Env) (src dst : TypeId) (x : Operand) : Option AOp :=
  match cOpd E x, E.P.underlying src, E.P.underlying dst with
  | some a, some (.int _), some (.int k) => some (.conv (.int k) a)
  | some a, some .string, some .string => some (.conv .str a)
  | some a, some .string, some (.slice e) => if isByte E.P e then some (.conv .bytes a) else none
  | some a, some (.slice e), some .string => if isByte E.P e then some (.conv .string a) else none
  | _, _, _ => none

def cCall (E : Env) (c : Call) : Option AOp :=
  match c.callee with
  | .value (.func f) => match E.gid f, cOpds E c.args.toList with
    | some g, some as => some (.callg g as)
    | _, _ => none
  | .value x => match cOpd E x, cOpds E c.args.toList with
    | some a, some as => some (.call a as)
    | _, _ => none
  | .builtin b =>
    match b, c.argTypes.toList, c.args.toList with
    | .len, [t], [x] => match E.P.underlying t with
      | some .string => (cOpd E x).map (.len .str)
      | some (.slice _) => (cOpd E x).map (.len .sl)
      | some (.map _ _) => (cOpd E x).map (.len .map)
      | _ => none
    | .append, [t, u], [x, y] => match E.P.underlying t, E.P.underlying u, cOpd E x, cOpd E y with
      | some (.slice e), some (.slice _), some a, some b | some (.slice e), some .string, some a, some b => match E.P.info? e with
        | some i => match i.zero with
          | some z => if z.cells.size = i.size then some (.append i.size i.bytes a b) else none
          | none => none
        | none => none
      | _, _, _, _ => none
    | .cap, [t], [x] => match E.P.underlying t with
      | some (.slice _) => (cOpd E x).map fun a => .ext (.pure .cap) [a]
      | _ => none
    | .delete, t :: _, [x, y] => match E.P.underlying t with
      | some (.map k _) => match keyT E.P k, cOpd E x, cOpd E y with
        | some kn, some a, some b => some (.ext (.delete kn) [a, b])
        | _, _, _ => none
      | _ => none
    | .min, _, xs => (cOpds E xs).map (.minmax false)
    | .max, _, xs => (cOpds E xs).map (.minmax true)
    | _, _, _ => none
  | _ => none

def cOp (E : Env) (loc : Bool) (op : Op) : Option AOp :=
  match op with
  | .move x | .assign x => (cOpd E x).map .val
  | .pick c a b => match cOpd E c, cOpd E a, cOpd E b with
    | some c, some a, some b => some (.pick c a b)
    | _, _, _ => none
  | .alloc t => match zeroOf E.P t, eszOf E.P t with
    | some z, some e => some (if loc then .lalloc z else .alloc e z)
    | _, _ => none
  | .box _ x => (cOpd E x).map fun a => if loc then .lbox a else .box a
  | .build t ps => match E.P.underlying t, zeroOf E.P t with
    | some (.struct fs), some z => match fieldPlaces E.P fs.toList with
      | some pl => (cParts E (pl[·]?) ps.toList).map (.build z)
      | none => none
    | some (.array _ e), some z => match sizeT E.P e with
      | some n => (cParts E (fun i => some (i * n, n)) ps.toList).map (.build z)
      | none => none
    | _, _ => none
  | .buildSlice t len ps => match E.P.underlying t with
    | some (.slice e) => match sizeT E.P e, zeroOf E.P e with
      | some n, some z => if len * n ≤ 16777216 ∧ z.length = n ∧ 0 < n then (cParts E (fun i => some (i * n, n)) ps.toList).map (.mkslice n len (rep len z)) else none
      | _, _ => none
    | _ => none
  | .load t a => match partT E.P t, cOpd E a with
    | some n, some a => some (.load n a)
    | _, _ => none
  | .store t a x => match sizeT E.P t, cOpd E a, cOpd E x with
    | some n, some a, some x => some (.store n a x)
    | _, _, _ => none
  | .nilCheck x => (cOpd E x).map .nilcheck
  | .binOp op t x y _ => cBin E op t x y
  | .unOp op _ x => (cOpd E x).map (.un op)
  | .convert s d x => cConv E s d x
  | .makeFunc (.func f) first caps => match E.gid f, cOpds E first.toList, cOpds E caps.toList with
    | some g, some f, some c => some (.mkfunc g f c)
    | _, _, _ => none
  | .makeSlice t l c => match E.P.underlying t with
    | some (.slice e) => match E.P.info? e, zeroOf E.P e, cOpd E l, cOpd E c with
      | some i, some z, some l, some c => if z.length = i.size ∧ 0 < i.size then some (.make i.size i.bytes z l c) else none
      | _, _, _, _ => none
    | _ => none
  | .slice t x lo hi mx => match cOpd E x, cOpt E lo, cOpt E hi, cOpt E mx with
    | some x, some lo, some hi, some mx => match E.P.underlying t with
      | some .string => some (.slice .str x lo hi mx)
      | some (.slice e) => (sizeT E.P e).map fun n => .slice (.sl n) x lo hi mx
      | some (.array n e) => (sizeT E.P e).map fun k => .slice (.arr n k) x lo hi mx
      | _ => none
    | _, _, _, _ => none
  | .fieldAddr t x f => match E.P.underlying t, cOpd E x with
    | some (.struct fs), some x => match fs[f]? with
      | some fl => match sizeT E.P fl.type with
        | some (_ + 1) => some (.faddr x fl.offset)
        | _ => none
      | none => none
    | _, _ => none
  | .field t x f => match E.P.underlying t, cOpd E x with
    | some (.struct fs), some x => match fs[f]? with
      | some fl => (partT E.P fl.type).map fun n => .field x fl.offset n
      | none => none
    | _, _ => none
  | .indexAddr t x i => match E.P.underlying t, cOpd E x, cOpd E i with
    | some (.slice e), some x, some i => (sizeT E.P e).map fun n => .iaddr n x i
    | some (.array len e), some x, some i => (sizeT E.P e).map fun n => .aaddr len n x i
    | _, _, _ => none
  | .index t x i => match E.P.underlying t, cOpd E x, cOpd E i with
    | some .string, some x, some i => some (.index x i)
    | some (.array len e), some x, some i => match sizeT E.P e, partT E.P e with
      | some n, some k => some (.aindex len n k x i)
      | _, _ => none
    | _, _, _ => none
  | .extract x i => (cOpd E x).map fun a => .extract a i
  | .call c => cCall E c
  | .makeMap _ none => some (.ext .mkmap [])
  | .makeMap t (some (.const (.int _ _))) => match E.P.underlying t with
    | some (.map _ _) => some (.ext .mkmap [])
    | _ => none
  | .lookup t x i ok => match E.P.underlying t with
    | some (.map k e) => match keyT E.P k, zeroA E.P e, cOpd E x, cOpd E i with
      | some kn, some z, some x, some i => some (.ext (.lookup kn z ok) [x, i])
      | _, _, _, _ => none
    | _ => none
  | .mapUpdate t x k v | .insert t x k v => match E.P.underlying t with
    | some (.map kt _) => match keyT E.P kt, cOpd E x, cOpd E k, cOpd E v with
      | some kn, some x, some k, some v => some (.ext (.mapupd kn) [x, k, v])
      | _, _, _, _ => none
    | _ => none
  | _ => none

/-- What the machine does not know: it stops there. -/
def cOpS (E : Env) (loc : Bool) (op : Op) : AOp :=
  match cOp E loc op with
  | some a => a
  | none => .nextStr (.const (.bool false))

def cOper (E : Env) (nt : Nat) (ops : Array Oper) (loc : Bool) (o : Oper) : Option AOper :=
  if (o.dst.all fun d => d < nt) && (!loc || o.dst.isSome) then
    match o.guard with
    | none => some ⟨o.dst, none, cOpS E loc o.op⟩
    | some (j, want) => match (ops[j]?).bind (·.dst) with
      | some d => some ⟨o.dst, some (d, want), cOpS E loc o.op⟩
      | none => none
  else none

def cOpers (E : Env) (nt : Nat) (ops : Array Oper) (locs : List Nat) (i : Nat) : List Oper → Option (List AOper)
  | [] => some []
  | o :: r => match cOper E nt ops (locs.contains i) o, cOpers E nt ops locs (i + 1) r with
    | some a, some as => some (a :: as)
    | _, _ => none

/-- Operations that make an object; calls of functions whose numbers tell that they do. -/
def makes : AOp → Bool
  | .alloc _ _ | .box _ | .mkslice _ _ _ _ | .make _ _ _ _ _ | .append _ _ _ _ | .conv .bytes _ | .ext .mkmap _ => true
  | .callg g _ => decide (100000 ≤ g)
  | _ => false

/-- Operations on memory that change nothing of it; calls. -/
def ExtOp.soft : ExtOp → Bool
  | .mapupd _ | .delete _ => false
  | _ => true

def soft : AOp → Bool
  | .lalloc _ | .lbox _ | .store _ _ _ | .copy _ _ _ => false
  | .ext k _ => k.soft
  | _ => true

/-- For a part in which objects are made: which operations of it each waits for. -/
def softMasks (bef : List Nat) (p : Nat) (ops : List AOper) : List Nat :=
  if ops.any fun o => makes o.op then (List.range ops.length).map fun x => bef.getD (p + x) 0 >>> p else []

def splitSegs (bef : List Nat) : Nat → List (Bool × Nat) → List AOper → Option (List Seg)
  | _, [], [] => some []
  | _, [], _ :: _ => none
  | p, (q, n) :: r, ops => if n ≤ ops.length then (splitSegs bef (p + n) r (ops.drop n)).map (⟨q, if q then softMasks bef p (ops.take n) else [], ops.take n⟩ :: ·) else none

/-- Operations that change no variable of the frame. -/
def calm : AOp → Bool
  | .lalloc _ | .lbox _ | .store _ _ _ | .copy _ _ _ => false
  | .ext k _ => k.soft
  | _ => true

/-- For each operation those before it (as bits), in the order of the text. -/
def maskOf (acc : List Nat) (o : Oper) : Nat := o.after.toList.foldl (fun s e => if Region.binds .any e then s ||| 2 ^ e.on ||| acc.getD e.on 0 else s) 0
def befs : List Oper → List Nat → List Nat
  | [], acc => acc
  | o :: r, acc => befs r (acc ++ [maskOf acc o])

/-- From p on each operation waits for all before p. -/
def waits (bef : List Nat) (p : Nat) : Bool :=
  (List.range bef.length).all fun j => j < p || (List.range p).all fun i => (bef.getD j 0).testBit i

/-- Two operations of a quiet part: what one sets, the other neither sets nor looks at, unless one waits for the other. -/
def apart (bef : List Nat) (i j : Nat) (oi oj : AOper) : Bool :=
  match oj.dst with
  | some d =>
    (i == j || oi.dst != some d) &&
    (i == j || !(oi.reads.contains d) || (j < i && (bef.getD i 0).testBit j) || (i < j && (bef.getD j 0).testBit i))
  | none => true

/-- The parts of a statement whose order is open: those of a quiet part may come in any order; else each waits for all before it. -/
def segsOk (as : List AOper) (bef : List Nat) : Nat → List (Bool × Nat) → Bool
  | p, [] => p == as.length
  | p, (true, n) :: r =>
    waits bef p && decide (p + n ≤ as.length) &&
    ((List.range n).all fun x => (List.range n).all fun y =>
      match as[p + x]?, as[p + y]? with
      | some oi, some oj => apart bef (p + x) (p + y) oi oj
      | _, _ => false) &&
    ((List.range n).all fun x => match as[p + x]? with | some o => calm o.op && (softMasks bef p ((as.drop p).take n) == [] || soft o.op) | none => false) &&
    segsOk as bef (p + n) r
  | p, (false, n) :: r => decide (p + n ≤ as.length) && ((List.range n).all fun x => waits bef (p + x)) && segsOk as bef (p + n) r

def edgesBack (ops : Array Oper) : Bool :=
  (List.range ops.size).all fun i => match ops[i]? with
    | some o => o.after.all fun e => !Region.binds .any e || e.on < i
    | none => true

def cRegion (E : Env) (nt : Nat) (segs : List (Bool × Nat)) (locs : List Nat) (ops : Array Oper) (draw : Bool) : Option (List Seg) :=
  match cOpers E nt ops locs 0 ops.toList with
  | some as =>
    if draw then
      if edgesBack ops && segsOk as (befs ops.toList []) 0 segs then splitSegs (befs ops.toList []) 0 segs as else none
    else some [⟨false, [], as⟩]
  | none => none

/-- inR: in a round of a loop over a function: there none stands. -/
def cCode (E : Env) (nt : Nat) (inR : Bool) : Hint → Code → Option ACode
  | .stuck, _ => some (.cond (.const (.str [])) .skip .skip)
  | .leaf, .skip => some .skip
  | .leaf, .exit id => some (.exit id)
  | .leaf, .ret => some .ret
  | .reg segs locs, .region _ ops draw => (cRegion E nt segs locs ops draw).map .region
  | .seq a b, .seq x y => match cCode E nt inR a x, cCode E nt inR b y with
    | some x, some y => some (.seq x y)
    | _, _ => none
  | .cond a b, .cond c x y => match cOpd E c, cCode E nt inR a x, cCode E nt inR b y with
    | some c, some x, some y => some (.cond c x y)
    | _, _, _ => none
  | .block a, .block id x => (cCode E nt inR a x).map (.block id)
  | .loop a, .loop x => (cCode E nt inR a x).map .loop
  | .rangeFunc g caps a b, .rangeFunc f ps x y => match cOpd E f, cCode E nt true a x, cCode E nt true b y with
    | some f, some x, some y => if inR = false ∧ (ps.all fun t => decide (t < nt)) = true then some (.rangeFunc f g caps ps.toList x y) else none
    | _, _, _ => none
  | .live l a, x => (cCode E nt inR a x).map (.live l)
  | .after a l, x => (cCode E nt inR a x).map (.after · l)
  | _, _ => none

def cRes (P : Program) : ResultVar → Option ARes
  | .tmp t => some (.tmp t)
  | .cell t ty => (partT P ty).map (.cell t)

def cRess (P : Program) : List ResultVar → Option (List ARes)
  | [] => some []
  | x :: r => match cRes P x, cRess P r with
    | some a, some as => some (a :: as)
    | _, _ => none

def cFunc (E : Env) (closed : Bool) (h : Hint) (f : Func) : Option AFunc :=
  match f.body with
  | some c => match cCode E f.ntmps false h c, cRess E.P f.results.toList with
    | some a, some rs =>
      if f.params.size + f.nfree ≤ f.ntmps ∧ f.name ≠ "runtime.NumGoroutine" then some ⟨closed, f.params.size + f.nfree, f.ntmps, rs, a, none⟩ else none
    | _, _ => none
  | none => none

end Go.Abs
