/-
  Texts joined.
-/
import Derived.Test.YtfjiakbhdjcceaaGreatQ0
import GoSem.Dispatch
import Derived.Lib.Bytealg
set_option linter.unusedVariables false
set_option linter.unusedSimpArgs false
set_option maxRecDepth 100000
namespace Go.Abs
inductive AVal where
 | bool (b:Bool)
 | int (k:IntKind) (n:Int)
 | str (s:List UInt8)
 | ptr (a:Option (Nat × Nat))
 | slice (a:Option (Nat × Nat)) (len:Nat) (cap:Option Nat)
 | map (r:Option Nat)
 | func (g:Nat) (first caps:List AVal)
 | nilFunc
 | iface (t:Nat) (v:AVal)
 | nilIface
 | agg (cs:List AVal)
 | tuple (vs:List AVal)
 | yield (i:Nat)
 deriving Inhabited
inductive AExit where
 | normal
 | exit (id:Nat)
 | ret
 deriving DecidableEq
inductive LoopSt where
 | ready
 | busy
 | done
 deriving DecidableEq
inductive AObj where
 | dead
 | cells (esz:Nat) (cs:List AVal)
 | map (es:List (AVal × AVal × Nat)) (clock:Nat)
 | iter (s:List UInt8) (pos:Nat)
 | mapIter (m:Option Nat) (since:Nat) (seen:List Nat) (last:Nat)
 | loop (g:Nat) (st:LoopSt) (pend:Option AExit) (slots:List (Nat × AVal))
 deriving Inhabited
structure Heap where
 objs:List AObj
 base:Nat
 wmin:Nat
def Heap.size (h:Heap):Nat:=h.objs.length
def Heap.push (h:Heap) (o:AObj):Heap:={ h with objs:=h.objs++[o] }
def Heap.get (h:Heap) (i:Nat):Option AObj:=h.objs[i]?
def Heap.put (h:Heap) (i:Nat) (o:AObj):Heap:={ h with objs:=h.objs.set i o,wmin:=min h.wmin i }
def Heap.puts (h:Heap) (ps:List (Nat × AObj)) (xs:List AObj):Heap:=xs.foldl Heap.push (ps.foldl (fun h p=>h.put p.1 p.2) h)
def pureF (F:List AVal→Heap→Option AVal) (args:List AVal) (h:Heap):Option (AVal × List (Nat × AObj) × List AObj):=(F args h).map fun v=>(v,[],[])
inductive Slot where
 | val (v:AVal)
 | undef
 | var (cs:List AVal)
 | loc (t off:Nat)
 | gone
 deriving Inhabited
abbrev Slots:=List (Nat × Slot)
def sget:Slots→Nat→Option Slot
 | [],_=>none
 | (u,s) :: r,t=>if u=t then some s else sget r t
def qf (t:Nat):Slots→Slots
 | []=>[]
 | (u,.loc t' off) :: r=>(u,if t'=t then .gone else .loc t' off) :: qf t r
 | x :: r=>x :: qf t r
def keep (live:List Nat) (s:Slots):Slots :=
 live.filterMap fun t=>match sget s t with
  | some (.loc _ _)=>none
  | some .gone=>none
  | some x=>some (t,x)
  | none=>none
inductive Opd where
 | tmp (t:Nat)
 | const (v:AVal)
def Opd.ev (s:Slots):Opd→Option AVal
 | .tmp t=>match sget s t with
  | some (.val v)=>some v
  | _=>none
 | .const v=>some v
def evs (s:Slots):List Opd→Option (List AVal)
 | []=>some []
 | x :: r=>match x.ev s,evs s r with
  | some v,some vs=>some (v :: vs)
  | _,_=>none
inductive AAddr where
 | glob (i off:Nat)
 | loc (t off:Nat)
def Opd.adr (s:Slots):Opd→Option AAddr
 | .tmp t=>match sget s t with
  | some (.val (.ptr (some (i,o))))=>some (.glob i o)
  | some (.var _)=>some (.loc t 0)
  | some (.loc t' o)=>some (.loc t' o)
  | _=>none
 | .const _=>none
def AVal.cells?:AVal→Option (List AVal)
 | .agg cs=>some cs
 | .tuple _=>none
 | v=>some [v]
def AVal.isOne:AVal→Bool
 | .agg _ | .tuple _=>false
 | _=>true
inductive ConvKind where
 | int (k:IntKind)
 | str
 | bytes
 | string
 | same
inductive SliceKind where
 | str
 | sl (esz:Nat)
 | arr (n esz:Nat)
inductive NilKind where
 | ptr
 | slice
 | map
 | func
inductive LenKind where
 | str
 | sl
 | map
inductive CK where
 | b
 | i
 | s
inductive KeyT where
 | one (c:CK)
 | agg (cs:List CK)
inductive PrimK where
 | indexByte
 | countByte
 | noZero
inductive PureOp where
 | eqcells (neg:Bool) (ks:List CK)
 | cap
 | prim (k:PrimK)
inductive ExtOp where
 | mkmap
 | mkiter
 | lookup (kn:KeyT) (zero:AVal) (ok:Bool)
 | mapupd (kn:KeyT)
 | delete (kn:KeyT)
 | entry
 | mapentry (kn:KeyT) (zero:AVal)
 | entrystore
 | hstore (n:Nat)
 | copy (esz:Nat)
 | clear (esz:Nat) (zero:List AVal)
 | appz (esz bytes:Nat) (zero:List AVal)
 | pure (p:PureOp)
inductive AOp where
 | val (x:Opd)
 | pick (c a b:Opd)
 | alloc (esz:Nat) (zero:List AVal)
 | lalloc (zero:List AVal)
 | box (x:Opd)
 | lbox (x:Opd)
 | build (zero:List AVal) (parts:List (Nat × Nat × Opd))
 | mkslice (esz len:Nat) (zero:List AVal) (parts:List (Nat × Nat × Opd))
 | load (n:Option Nat) (a:Opd)
 | store (n:Nat) (a x:Opd)
 | bin (op:BinOp) (x y:Opd)
 | un (op:UnOp) (x:Opd)
 | conv (k:ConvKind) (x:Opd)
 | mkfunc (g:Nat) (first caps:List Opd)
 | make (esz bytes:Nat) (zero:List AVal) (len cap:Opd)
 | slice (k:SliceKind) (x:Opd) (lo hi mx:Option Opd)
 | faddr (x:Opd) (off:Nat)
 | field (x:Opd) (off:Nat) (n:Option Nat)
 | iaddr (esz:Nat) (x i:Opd)
 | aaddr (len esz:Nat) (x i:Opd)
 | index (x i:Opd)
 | aindex (len esz:Nat) (n:Option Nat) (x i:Opd)
 | extract (x:Opd) (i:Nat)
 | call (f:Opd) (args:List Opd)
 | callg (g:Nat) (args:List Opd)
 | len (k:LenKind) (x:Opd)
 | append (esz bytes:Nat) (x y:Opd)
 | copy (esz:Nat) (d s:Opd)
 | minmax (isMax:Bool) (xs:List Opd)
 | nilcheck (x:Opd)
 | eqnil (k:NilKind) (neg:Bool) (x y:Opd)
 | beq (neg:Bool) (x y:Opd)
 | ext (k:ExtOp) (xs:List Opd)
 | nextStr (x:Opd)
structure AOper where
 dst:Option Nat
 guard:Option (Nat × Bool)
 op:AOp
structure Seg where
 quiet:Bool
 soft:List Nat
 ops:List AOper
inductive ACode where
 | skip
 | region (segs:List Seg)
 | seq (a b:ACode)
 | cond (c:Opd) (t e:ACode)
 | block (id:Nat) (c:ACode)
 | loop (c:ACode)
 | exit (id:Nat)
 | ret
 | live (l:List Nat) (c:ACode)
 | after (c:ACode) (l:List Nat)
 | rangeFunc (f:Opd) (g:Nat) (caps:List Nat) (ps:List Nat) (a b:ACode)
 | next (d:Option Nat) (x:Opd)
inductive ARes where
 | tmp (t:Nat)
 | cell (t:Nat) (n:Option Nat)
structure ARound where
 params:List Nat
 assign:ACode
 body:ACode
def ACode.rounds:ACode→List (Nat × ARound)
 | .skip | .region _ | .exit _ | .ret | .next _ _=>[]
 | .seq a b | .cond _ a b=>a.rounds++b.rounds
 | .block _ c | .loop c | .live _ c | .after c _=>c.rounds
 | .rangeFunc _ g _ ps a b=>[(g,⟨ps,a,b⟩)]
def ACode.wild:ACode→Bool
 | .skip | .region _ | .exit _ | .ret | .rangeFunc _ _ _ _ _ _=>false
 | .seq a b | .cond _ a b=>a.wild || b.wild
 | .block _ c | .loop c | .live _ c | .after c _=>c.wild
 | .next _ _=>true
inductive ASpec where
 | round (r:ARound)
 | lib (f:List AVal→Heap→Option (AVal × List (Nat × AObj) × List AObj))
structure AFunc where
 closed:Bool
 wild:Bool
 nargs:Nat
 ntmps:Nat
 results:List ARes
 body:ACode
 round:Option ASpec
def aBits (op:BinOp) (k:IntKind) (x y:Int):Option AVal :=
 match op with
 | .and=>some (.int k (k.wrap (BitVec.ofInt k.bits x &&& BitVec.ofInt k.bits y).toNat))
 | .or=>some (.int k (k.wrap (BitVec.ofInt k.bits x ||| BitVec.ofInt k.bits y).toNat))
 | .xor=>some (.int k (k.wrap (BitVec.ofInt k.bits x ^^^ BitVec.ofInt k.bits y).toNat))
 | .andNot=>some (.int k (k.wrap (BitVec.ofInt k.bits x &&& ~~~(BitVec.ofInt k.bits y)).toNat))
 | _=>none
def aBytesLess:List UInt8→List UInt8→Bool
 | _,[]=>false
 | [],_ :: _=>true
 | a :: x,b :: y=>a < b || (a == b && aBytesLess x y)
def aBin (op:BinOp):AVal→AVal→Option AVal
 | .int k x,.int k' y =>
  match op with
  | .shl=>if y < 0 then none else some (.int k (k.wrap (x*2 ^ (min y.toNat k.bits))))
  | .shr=>if y < 0 then none else some (.int k (x.fdiv (2 ^ (min y.toNat k.bits))))
  | _=>if k=k' then
    match op with
    | .add=>some (.int k (k.wrap (x+y)))
    | .sub=>some (.int k (k.wrap (x - y)))
    | .mul=>some (.int k (k.wrap (x*y)))
    | .quo=>if y=0 then none else some (.int k (k.wrap (x.tdiv y)))
    | .rem=>if y=0 then none else some (.int k (x.tmod y))
    | .eql=>some (.bool (decide (x=y)))
    | .neq=>some (.bool (!decide (x=y)))
    | .lss=>some (.bool (x < y))
    | .leq=>some (.bool (x≤y))
    | .gtr=>some (.bool (x > y))
    | .geq=>some (.bool (x ≥ y))
    | op=>aBits op k x y
   else none
 | .str a,.str b =>
  match op with
  | .add=>if a.length+b.length≤9223372036854775807 then some (.str (a++b)) else none
  | .eql=>some (.bool (decide (a=b)))
  | .neq=>some (.bool (!decide (a=b)))
  | .lss=>some (.bool (aBytesLess a b))
  | .leq=>some (.bool (aBytesLess a b || decide (a=b)))
  | .gtr=>some (.bool !(aBytesLess a b || decide (a=b)))
  | .geq=>some (.bool !(aBytesLess a b))
  | _=>none
 | _,_=>none
def aUn (op:UnOp):AVal→Option AVal
 | .int k n=>match op with
  | .neg=>some (.int k (k.wrap (0 - n)))
  | .xor=>aBits .xor k (if k.signed then -1 else k.max) n
  | _=>none
 | .bool b=>match op with
  | .not=>some (.bool !b)
  | _=>none
 | _=>none
def aMin2 (isMax:Bool):AVal→AVal→Option AVal
 | .int k x,.int k' y=>if k=k' then some (.int k (if isMax then (if x < y then y else x) else (if y < x then y else x))) else none
 | _,_=>none
def aMins (isMax:Bool) (v:AVal):List AVal→Option AVal
 | []=>some v
 | x :: r=>match aMin2 isMax v x with
  | some y=>aMins isMax y r
  | none=>none
def aEqNil:NilKind→AVal→AVal→Option Bool
 | .ptr,.ptr none,.ptr b=>some b.isNone
 | .ptr,.ptr (some _),.ptr none=>some false
 | .slice,.slice none _ _,.slice b _ _=>some b.isNone
 | .slice,.slice (some _) _ _,.slice none _ _=>some false
 | .map,.map none,.map b=>some b.isNone
 | .map,.map (some _),.map none=>some false
 | .func,.nilFunc,.nilFunc=>some true
 | .func,.nilFunc,.func _ _ _=>some false
 | .func,.func _ _ _,.nilFunc=>some false
 | _,_,_=>none
def splice (cs:List AVal) (off:Nat) (xs:List AVal):List AVal:=cs.take off++xs++cs.drop (off+xs.length)
def fill (s:Slots) (cs:List AVal):List (Nat × Nat × Opd)→Option (List AVal)
 | []=>some cs
 | (off,n,x) :: r =>
  match (x.ev s).bind AVal.cells? with
  | some xs=>if xs.length=n∧off+n≤cs.length then fill s (splice cs off xs) r else none
  | none=>none
def part (cs:List AVal) (off:Nat):Option Nat→Option AVal
 | none=>cs[off]?
 | some n=>if off+n≤cs.length then some (.agg ((cs.drop off).take n)) else none
def cellsAt (s:Slots) (h:Heap):AAddr→Option (List AVal × Nat)
 | .glob i o=>match h.get i with
  | some (.cells _ cs)=>some (cs,o)
  | _=>none
 | .loc t o=>match sget s t with
  | some (.var cs)=>some (cs,o)
  | _=>none
def loadAt (s:Slots) (h:Heap) (a:AAddr) (n:Option Nat):Option AVal :=
 match cellsAt s h a with
 | some (cs,o)=>part cs o n
 | none=>none
def storeAt (s:Slots) (h:Heap) (a:AAddr) (xs:List AVal):Option (Slots × Heap) :=
 match a with
 | .glob i o=>match h.get i with
  | some (.cells e cs)=>if h.base≤i∧o+xs.length≤cs.length then some (s,h.put i (.cells e (splice cs o xs))) else none
  | _=>none
 | .loc t o=>match sget s t with
  | some (.var cs)=>if o+xs.length≤cs.length then some ((t,.var (splice cs o xs)) :: s,h) else none
  | _=>none
def inBounds (n:Nat):AVal→Option Nat
 | .int _ i=>if 0≤i∧i < n then some i.toNat else none
 | _=>none
def upTo (n:Nat):AVal→Option Nat
 | .int _ i=>if 0≤i∧i≤n then some i.toNat else none
 | _=>none
def optEv (s:Slots):Option Opd→Option (Option AVal)
 | none=>some none
 | some x=>(x.ev s).map some
def lowB (b:Nat):Option AVal→Option Nat
 | some l=>upTo b l
 | none=>some 0
def bounds (n:Nat) (cap:Option Nat) (lo hi mx:Option AVal):Option (Nat × Nat × Option Nat) :=
 match mx with
 | some m =>
  match upTo (cap.getD n) m with
  | some m =>
   match hi with
   | some hv=>match upTo m hv with
    | some b=>(lowB b lo).map fun a=>(a,b,some m)
    | none=>none
   | none=>none
  | none=>none
 | none =>
  match hi with
  | some hv=>match upTo (cap.getD n) hv with
   | some b=>(lowB b lo).map fun a=>(a,b,cap)
   | none=>none
  | none=>(lowB n lo).map fun a=>(a,n,cap)
def eszIs (h:Heap) (i e:Nat):Bool :=
 match h.get i with
 | some (.cells e' _)=>e' == e
 | some .dead=>true
 | _=>false
def aSlice (k:SliceKind) (s:Slots) (h:Heap) (x:Opd) (lo hi mx:Option AVal):Option AVal :=
 match k with
 | .str=>match x.ev s with
  | some (.str t)=>match mx with
   | none=>(bounds t.length (some t.length) lo hi none).map fun (a,b,_)=>.str ((t.drop a).take (b - a))
   | some _=>none
  | _=>none
 | .sl e=>match x.ev s with
  | some (.slice none _ _)=>(bounds 0 (some 0) lo hi mx).map fun _=>.slice none 0 (some 0)
  | some (.slice (some (i,o)) n c)=>if eszIs h i e then (bounds n c lo hi mx).map fun (a,b,m) =>
    .slice (some (i,if m=some a then o else o+a*e)) (b - a) (m.map (· - a))
   else none
  | _=>none
 | .arr n e=>match x.adr s with
  | some (.glob i o)=>match h.get i with
   | some (.cells e' cs)=>if e'=e∧o+n*e≤cs.length∧n≤9223372036854775807 then (bounds n (some n) lo hi mx).map fun (a,b,m) =>
     .slice (some (i,if m=some a then o else o+a*e)) (b - a) (m.map (· - a))
    else none
   | _=>none
  | _=>none
def il (esz:Nat) (h:Heap):AVal→Option (List AVal)
 | .slice none _ _=>some []
 | .slice (some (i,o)) n _=>if n=0 then some [] else match h.get i with
  | some (.cells e cs)=>if e=esz∧o+n*esz≤cs.length then some ((cs.drop o).take (n*esz)) else none
  | _=>none
 | .str s=>if esz=1 then some (s.map fun b=>.int .u8 b.toNat) else none
 | _=>none
def rowIs (h:Heap) (i e:Nat):Bool :=
 match h.get i with
 | some (.cells e' _)=>e' == e
 | _=>false
def alen:AVal→Nat
 | .slice _ m _=>m
 | .str s=>s.length
 | _=>0
def aApp (esz bytes:Nat) (h:Heap) (a:Option (Nat × Nat)) (n:Nat) (c:Option Nat) (m:Nat) (old new:List AVal):Option (AVal × Heap) :=
 if m=0 then some (.slice a n c,h)
 else if (n+m)*bytes≤140737488355328∧n+m≤9223372036854775807 then
  match a with
  | none=>some (.slice (some (h.size,0)) (n+m) none,h.push (.cells esz (old++new)))
  | some (i,_) =>
   if c=some n then some (.slice (some (h.size,0)) (n+m) none,h.push (.cells esz (old++new)))
   else if h.base≤i∧rowIs h i esz=true then some (.slice (some (h.size,0)) (n+m) none,(h.put i .dead).push (.cells esz (old++new)))
   else none
 else none
def d7 (esz bytes:Nat) (h:Heap) (x y:AVal):Option (AVal × Heap) :=
 match x with
 | .slice a n c=>match il esz h (.slice a n c),il esz h y with
  | some old,some new=>aApp esz bytes h a n c (alen y) old new
  | _,_=>none
 | _=>none
def bytesOf:List AVal→Option (List UInt8)
 | []=>some []
 | .int .u8 n :: r=>(bytesOf r).map (UInt8.ofNat n.toNat :: ·)
 | _=>none
def isVar (s:Slots) (t:Nat):Bool :=
 match sget s t with
 | some (.var _)=>true
 | _=>false
def akey1:AVal→AVal→Option Bool
 | .str a,.str b=>some (decide (a=b))
 | .int k a,.int k' b=>if k=k' then some (decide (a=b)) else none
 | .bool a,.bool b=>some (decide (a=b))
 | _,_=>none
def akeyL:List AVal→List AVal→Option Bool
 | [],[]=>some true
 | a :: aZ,b :: bs=>match akey1 a b with
  | some true=>akeyL aZ bs
  | some false=>some false
  | none=>none
 | _,_=>none
def akey:AVal→AVal→Option Bool
 | .agg a,.agg b=>if a.length=b.length then akeyL a b else none
 | a,b=>akey1 a b
def CK.is:CK→AVal→Bool
 | .b,.bool _=>true
 | .i,.int _ _=>true
 | .s,.str _=>true
 | _,_=>false
def areKeys:List CK→List AVal→Bool
 | [],[]=>true
 | k :: ks,v :: vs=>k.is v && areKeys ks vs
 | _,_=>false
def isKey:KeyT→AVal→Bool
 | .one c,v=>c.is v
 | .agg ks,.agg cs=>areKeys ks cs
 | _,_=>false
def findA (k:AVal):List (AVal × AVal × Nat)→Option (Option (Nat × AVal))
 | []=>some none
 | e :: es=>match akey k e.1 with
  | some true=>some (some (0,e.2.1))
  | some false=>(findA k es).map fun r=>r.map fun (i,v)=>(i+1,v)
  | none=>none
def entriesOf (h:Heap):AVal→Option (List (AVal × AVal × Nat))
 | .map none=>some []
 | .map (some r)=>match h.get r with
  | some (.map es _)=>some es
  | _=>none
 | _=>none
def evEq (neg:Bool) (ks:List CK):AVal→AVal→Option AVal
 | .agg a,.agg b=>if areKeys ks a=true∧a.length=b.length then (akeyL a b).map fun e=>.bool (if neg then !e else e) else none
 | _,_=>none
def evCap:AVal→Option AVal
 | .slice _ _ (some c)=>some (.int .i64 c)
 | _=>none
def evPrim (k:PrimK) (vs:List AVal):Option AVal :=
 match k,vs with
 | .indexByte,[.str s,.int .u8 c]=>some (.int .i64 (Lib.indexByte s c.toNat.toUInt8))
 | .countByte,[.str s,.int .u8 c]=>some (.int .i64 (Lib.countByte s c.toNat.toUInt8))
 | _,_=>none
def rep (n:Nat) (zero:List AVal):List AVal:=(List.replicate n zero).flatten
def rowK (esz:Nat) (h:Heap) (k:Nat):AVal→Option (List AVal)
 | .slice a n c=>if k≤n then il esz h (.slice a k c) else none
 | _=>none
def evPure (p:PureOp) (vs:List AVal):Option AVal :=
 match p,vs with
 | .eqcells neg ks,[x,y]=>evEq neg ks x y
 | .cap,[x]=>evCap x
 | .prim k,vs=>evPrim k vs
 | _,_=>none
def ct (k:ExtOp) (vs:List AVal) (h:Heap):Option (AVal × Heap) :=
 match k,vs with
 | .mkmap,[]=>some (.map (some h.size),h.push (.map [] 0))
 | .mkiter,[.map none]=>some (.ptr (some (h.size,0)),h.push (.mapIter none 0 [] 0))
 | .mkiter,[.map (some r)]=>match h.get r with
  | some (.map _ clock)=>some (.ptr (some (h.size,0)),h.push (.mapIter (some r) clock [] clock))
  | _=>none
 | .lookup kn zero ok,[m,k]=>if isKey kn k then match entriesOf h m with
   | some es=>match findA k es with
    | some (some (_,v))=>some (if ok then .tuple [v,.bool true] else v,h)
    | some none=>some (if ok then .tuple [zero,.bool false] else zero,h)
    | none=>none
   | none=>none
  else none
 | .mapupd kn,[.map (some r),k,v]=>if isKey kn k∧h.base≤r then match h.get r with
   | some (.map es clock)=>match findA k es with
    | some (some (i,_))=>some (.tuple [],h.put r (.map (es.modify i fun e=>(k,v,e.2.2)) clock))
    | some none=>some (.tuple [],h.put r (.map (es++[(k,v,clock)]) (clock+1)))
    | none=>none
   | _=>none
  else none
 | .delete kn,[.map none,k]=>if isKey kn k then some (.tuple [],h) else none
 | .delete kn,[.map (some r),k]=>if isKey kn k∧h.base≤r then match h.get r with
   | some (.map es clock)=>match findA k es with
    | some (some (i,_))=>some (.tuple [],h.put r (.map (es.eraseIdx i) clock))
    | some none=>some (.tuple [],h)
    | none=>none
   | _=>none
  else none
 | .entry,[.ptr (some (i,0))]=>match h.get i with
  | some (.mapIter (some m) _ seen last)=>match seen.getLast?,h.get m with
   | some st,some (.map es clock)=>if clock=last then (es.find? fun e=>e.2.2 == st).map fun e=>(.tuple [e.1,e.2.1],h) else none
   | _,_=>none
  | _=>none
 | .mapentry kn zero,[.map (some r),k]=>if isKey kn k∧h.base≤r then match h.get r with
   | some (.map es clock)=>match findA k es with
    | some (some (i,v))=>some (.tuple [v,.int .i64 ((((es[i]?).map (·.2.2)).getD 0:Nat):Int)],h.put r (.map (es.modify i fun e=>(k,e.2.1,e.2.2)) clock))
    | some none=>some (.tuple [zero,.int .i64 (clock:Int)],h.put r (.map (es++[(k,zero,clock)]) (clock+1)))
    | none=>none
   | _=>none
  else none
 | .entrystore,[.map (some r),.int .i64 st,v]=>if h.base≤r then match h.get r with
   | some (.map es clock)=>match es.findIdx? (fun e=>((e.2.2:Nat):Int) == st) with
    | some i=>some (.tuple [],h.put r (.map (es.modify i fun e=>(e.1,v,e.2.2)) clock))
    | none=>none
   | _=>none
  else none
 | .hstore n,[.ptr (some (i,o)),v]=>match v.cells?,h.get i with
  | some xs,some (.cells e cs)=>if xs.length=n∧h.base≤i∧o+xs.length≤cs.length then some (.tuple [],h.put i (.cells e (splice cs o xs))) else none
  | _,_=>none
 | .copy e,[.slice a n c,y]=>match rowK e h (min n (alen y)) y with
  | some src=>if min n (alen y)=0 then some (.int .i64 0,h) else match a with
   | some (i,o)=>match h.get i with
    | some (.cells e' cs)=>if e'=e∧h.base≤i∧o+src.length≤cs.length then some (.int .i64 (min n (alen y):Nat),h.put i (.cells e (splice cs o src))) else none
    | _=>none
   | none=>none
  | none=>none
 | .clear e z,[.slice a n c]=>if n=0 then some (.tuple [],h) else match a with
  | some (i,o)=>match h.get i with
   | some (.cells e' cs)=>if e'=e∧h.base≤i∧o+n*e≤cs.length then some (.tuple [],h.put i (.cells e (splice cs o (rep n z)))) else none
   | _=>none
  | none=>none
 | .appz e by' z,[.slice a n c,.int .i64 m]=>if m=0 then some (.slice a n c,h) else match il e h (.slice a n c),c with
  | some old,some k=>if 0 < m∧k < n+m.toNat∧(n+m.toNat)*by'≤140737488355328∧n+m.toNat≤9223372036854775807 then some (.slice (some (h.size,0)) (n+m.toNat) none,h.push (.cells e (old++rep m.toNat z))) else none
  | _,_=>none
 | .pure p,vs=>(evPure p vs).map fun v=>(v,h)
 | _,_=>none
abbrev CallSem:=Nat→List AVal→Heap→Option (AVal × Heap)
def ok1 (s:Slots) (h:Heap) (v:Option AVal):Option (Slot × Slots × Heap):=v.map fun v=>(.val v,s,h)
def evLen (k:LenKind) (v:AVal) (h:Heap):Option AVal :=
 match k with
 | .str=>match v with
  | .str t=>some (.int .i64 t.length)
  | _=>none
 | .sl=>match v with
  | .slice _ n _=>some (.int .i64 n)
  | _=>none
 | .map=>match v with
  | .map none=>some (.int .i64 0)
  | .map (some r)=>match h.get r with
   | some (.map es _)=>some (.int .i64 es.length)
   | _=>none
  | _=>none
def n8 (k:ConvKind) (v:AVal) (s:Slots) (h:Heap):Option (Slot × Slots × Heap) :=
 match k with
 | .int k=>match v with
  | .int _ n=>ok1 s h (some (.int k (k.wrap n)))
  | _=>none
 | .str=>match v with
  | .str t=>ok1 s h (some (.str t))
  | _=>none
 | .bytes=>match v with
  | .str t=>if t.length≤9223372036854775807 then some (.val (.slice (some (h.size,0)) t.length none),s,h.push (.cells 1 (t.map fun b=>.int .u8 b.toNat))) else none
  | _=>none
 | .string=>match v with
  | .slice a n c=>match (il 1 h (.slice a n c)).bind bytesOf with
   | some t=>ok1 s h (some (.str t))
   | none=>none
  | _=>none
 | .same=>match v with
  | .slice (some (i,o)) n c=>match h.get i with
   | some (.cells e cs)=>if 0 < n∧h.base≤i then some (.val (.slice (some (i,o)) n c),s,h.put i (.cells e cs)) else none
   | _=>none
  | _=>none
def c7 (call:CallSem) (dst:Nat) (o:AOp) (s:Slots) (h:Heap):Option (Slot × Slots × Heap) :=
 match o with
 | .val x=>ok1 s h (x.ev s)
 | .pick c a b=>match c.ev s with
  | some (.bool true)=>ok1 s h (a.ev s)
  | some (.bool false)=>ok1 s h (b.ev s)
  | _=>none
 | .alloc e z=>some (.val (.ptr (some (h.size,0))),s,h.push (.cells e z))
 | .lalloc z=>some (.var z,qf dst s,h)
 | .box x=>match (x.ev s).bind AVal.cells? with
  | some cs=>some (.val (.ptr (some (h.size,0))),s,h.push (.cells cs.length cs))
  | none=>none
 | .lbox x=>match (x.ev s).bind AVal.cells? with
  | some cs=>some (.var cs,qf dst s,h)
  | none=>none
 | .build z ps=>ok1 s h ((fill s z ps).map .agg)
 | .mkslice e n z ps=>match fill s z ps with
  | some cs=>some (.val (.slice (some (h.size,0)) n (some n)),s,h.push (.cells e cs))
  | none=>none
 | .load n a=>match a.adr s with
  | some a=>ok1 s h (loadAt s h a n)
  | none=>none
 | .store n a x=>match a.adr s,(x.ev s).bind AVal.cells? with
  | some a,some xs=>if xs.length=n then (storeAt s h a xs).map fun (s',h')=>(.undef,s',h') else none
  | _,_=>none
 | .bin op x y=>match x.ev s,y.ev s with
  | some x,some y=>ok1 s h (aBin op x y)
  | _,_=>none
 | .un op x=>match x.ev s with
  | some x=>ok1 s h (aUn op x)
  | none=>none
 | .conv k x=>match x.ev s with
  | some v=>n8 k v s h
  | none=>none
 | .mkfunc g f c=>match evs s f,evs s c with
  | some f,some c=>ok1 s h (some (.func g f c))
  | _,_=>none
 | .make e b z l c=>match l.ev s,c.ev s with
  | some (.int kl n),some (.int kc m) =>
   if 0≤n∧n≤m∧m*b≤140737488355328∧m≤9223372036854775807∧kl = .i64∧kc = .i64 then
    some (.val (.slice (some (h.size,0)) n.toNat (some m.toNat)),s,h.push (.cells e (rep m.toNat z)))
   else none
  | _,_=>none
 | .slice k x lo hi mx=>match optEv s lo,optEv s hi,optEv s mx with
  | some lo,some hi,some mx=>ok1 s h (aSlice k s h x lo hi mx)
  | _,_,_=>none
 | .faddr x off=>match x.adr s with
  | some (.glob i o)=>ok1 s h (some (.ptr (some (i,o+off))))
  | some (.loc t o)=>if isVar s t then some (.loc t (o+off),s,h) else none
  | none=>none
 | .field x off n=>match x.ev s with
  | some (.agg cs)=>ok1 s h (part cs off n)
  | _=>none
 | .iaddr e x i=>match x.ev s,i.ev s with
  | some (.slice (some (b,o)) n _),some i=>ok1 s h ((inBounds n i).map fun j=>.ptr (some (b,o+j*e)))
  | _,_=>none
 | .aaddr n e x i=>match x.adr s,i.ev s with
  | some (.glob b o),some i=>ok1 s h ((inBounds n i).map fun j=>.ptr (some (b,o+j*e)))
  | some (.loc t o),some i=>if isVar s t then (inBounds n i).map fun j=>(.loc t (o+j*e),s,h) else none
  | _,_=>none
 | .index x i=>match x.ev s,i.ev s with
  | some (.str t),some i=>ok1 s h ((inBounds t.length i).bind fun j=>(t[j]?).map fun b=>.int .u8 b.toNat)
  | _,_=>none
 | .aindex n e k x i=>match x.ev s,i.ev s with
  | some (.agg cs),some i=>ok1 s h ((inBounds n i).bind fun j=>part cs (j*e) k)
  | _,_=>none
 | .extract x i=>match x.ev s with
  | some (.tuple vs)=>ok1 s h vs[i]?
  | _=>none
 | .call f args=>match f.ev s,evs s args with
  | some (.func g first caps),some aZ=>(call g (first++aZ++caps) h).map fun (v,h')=>(.val v,s,h')
  | some (.yield i),some aZ=>match h.get i with
   | some (.loop g _ _ _)=>(call g (.ptr (some (i,0)) :: aZ) h).map fun (v,h')=>(.val v,s,h')
   | _=>none
  | _,_=>none
 | .callg g args=>match evs s args with
  | some aZ=>(call g aZ h).map fun (v,h')=>(.val v,s,h')
  | none=>none
 | .len k x=>match x.ev s with
  | some v=>ok1 s h (evLen k v h)
  | none=>none
 | .append e b x y=>match x.ev s,y.ev s with
  | some x,some y=>(d7 e b h x y).map fun (v,h')=>(.val v,s,h')
  | _,_=>none
 | .copy _ _ _=>none
 | .minmax mx xs=>match evs s xs with
  | some (x :: r)=>ok1 s h (aMins mx x r)
  | _=>none
 | .nilcheck x=>match x.ev s with
  | some (.ptr (some a))=>ok1 s h (some (.ptr (some a)))
  | _=>match x.adr s with
   | some (.loc t o)=>if isVar s t then some (.loc t o,s,h) else none
   | _=>none
 | .eqnil k neg x y=>match x.ev s,y.ev s with
  | some x,some y=>ok1 s h ((aEqNil k x y).map fun b=>.bool (if neg then !b else b))
  | _,_=>none
 | .beq neg x y=>match x.ev s,y.ev s with
  | some (.bool a),some (.bool b)=>ok1 s h (some (.bool (if neg then !decide (a=b) else decide (a=b))))
  | _,_=>none
 | .ext k xs=>match evs s xs with
  | some vs=>(ct k vs h).map fun (v,h')=>(.val v,s,h')
  | none=>none
 | .nextStr _=>none
def a9 (dst:Option Nat) (x:Slot) (s:Slots):Slots :=
 match dst with
 | some d=>(d,x) :: s
 | none=>s
def evRun (call:CallSem) (o:AOper) (s:Slots) (h:Heap):Option (Slots × Heap) :=
 match c7 call (o.dst.getD 0) o.op s h with
 | some (x,s',h')=>some (a9 o.dst x s',h')
 | none=>none
def dy (call:CallSem) (o:AOper) (s:Slots) (h:Heap):Option (Slots × Heap) :=
 match o.guard with
 | none=>evRun call o s h
 | some (t,want)=>match sget s t with
  | some (.val (.bool b))=>if b=want then evRun call o s h else some (a9 o.dst .undef s,h)
  | some .undef=>some (a9 o.dst .undef s,h)
  | _=>none
def evOps (call:CallSem):List AOper→Slots→Heap→Option (Slots × Heap)
 | [],s,h=>some (s,h)
 | o :: r,s,h=>match dy call o s h with
  | some (s',h')=>evOps call r s' h'
  | none=>none
mutual
def AVal.ids:AVal→List Nat
 | .ptr (some (i,_))=>[i]
 | .slice (some (i,_)) _ _=>[i]
 | .map (some i)=>[i]
 | .yield i=>[i]
 | .func _ f c=>AVal.idsL f++AVal.idsL c
 | .iface _ v=>v.ids
 | .agg cs=>AVal.idsL cs
 | .tuple vs=>AVal.idsL vs
 | _=>[]
def AVal.idsL:List AVal→List Nat
 | []=>[]
 | v :: r=>v.ids++AVal.idsL r
end
mutual
def AVal.ren (f:Nat→Nat):AVal→AVal
 | .ptr (some (i,o))=>.ptr (some (f i,o))
 | .slice (some (i,o)) n c=>.slice (some (f i,o)) n c
 | .map (some i)=>.map (some (f i))
 | .yield i=>.yield (f i)
 | .func g a c=>.func g (AVal.renL f a) (AVal.renL f c)
 | .iface t v=>.iface t (v.ren f)
 | .agg cs=>.agg (AVal.renL f cs)
 | .tuple vs=>.tuple (AVal.renL f vs)
 | v=>v
def AVal.renL (f:Nat→Nat):List AVal→List AVal
 | []=>[]
 | v :: r=>v.ren f :: AVal.renL f r
end
def AObj.ids:AObj→List Nat
 | .cells _ cs=>AVal.idsL cs
 | .map es _=>es.flatMap fun (k,v,_)=>k.ids++v.ids
 | .loop _ _ _ sl=>AVal.idsL (sl.map (·.2))
 | .mapIter (some m) _ _ _=>[m]
 | _=>[]
def AObj.ren (f:Nat→Nat):AObj→AObj
 | .cells e cs=>.cells e (AVal.renL f cs)
 | .map es c=>.map (es.map fun (k,v,b)=>(k.ren f,v.ren f,b)) c
 | .loop g st p sl=>.loop g st p (sl.map fun (t,v)=>(t,v.ren f))
 | .mapIter m a b c=>.mapIter (m.map f) a b c
 | o=>o
def evQuiet (call:CallSem):List AOper→Slots→Heap→Option (Slots × Heap)
 | [],s,h=>some (s,h)
 | o :: r,s,h=>match dy call o s { h with wmin:=h.size } with
  | some (s',h')=>if h'.size=h.size∧h'.wmin=h.size∧(o.dst.all fun d=>!isVar s d)=true then evQuiet call r s' h else none
  | none=>none
def Slot.ids:Slot→List Nat
 | .val v=>v.ids
 | .var cs=>AVal.idsL cs
 | _=>[]
def mv (N r:Nat):Nat→Nat:=fun i=>if i=N then r else i
def Slot.ren (f:Nat→Nat):Slot→Slot
 | .val v=>.val (v.ren f)
 | x=>x
def noCall:CallSem:=fun _ _ _=>none
def ef:AOp→List Opd
 | .load _ a=>[a]
 | .slice _ x _ _ _=>[x]
 | .conv _ x=>[x]
 | .len _ x=>[x]
 | .append _ _ x y=>[x,y]
 | .ext (.pure _) _=>[]
 | .ext _ xs=>xs
 | _=>[]
def AOp.isCall:AOp→Bool
 | .call _ _ | .callg _ _=>true
 | _=>false
def Opd.reads:Opd→List Nat
 | .tmp t=>[t]
 | .const _=>[]
def readsL:List Opd→List Nat
 | []=>[]
 | x :: r=>x.reads++readsL r
def readsO:Option Opd→List Nat
 | some x=>x.reads
 | none=>[]
def readsP:List (Nat × Nat × Opd)→List Nat
 | []=>[]
 | (_,_,x) :: r=>x.reads++readsP r
def AOp.reads:AOp→List Nat
 | .val x | .box x | .lbox x | .load _ x | .un _ x | .conv _ x | .faddr x _ | .field x _ _ | .extract x _ | .len _ x | .nilcheck x | .nextStr x=>x.reads
 | .pick c a b=>c.reads++a.reads++b.reads
 | .alloc _ _ | .lalloc _=>[]
 | .build _ ps | .mkslice _ _ _ ps=>readsP ps
 | .store _ a x=>a.reads++x.reads
 | .bin _ x y | .iaddr _ x y | .aaddr _ _ x y | .index x y | .aindex _ _ _ x y | .append _ _ x y | .copy _ x y | .eqnil _ _ x y | .beq _ x y | .make _ _ _ x y=>x.reads++y.reads
 | .mkfunc _ f c=>readsL f++readsL c
 | .slice _ x a b c=>x.reads++readsO a++readsO b++readsO c
 | .call f aZ=>f.reads++readsL aZ
 | .callg _ aZ=>readsL aZ
 | .minmax _ xs=>readsL xs
 | .ext _ xs=>readsL xs
def AOper.reads (o:AOper):List Nat :=
 o.op.reads++(match o.guard with | some (t,_)=>[t] | none=>[])
def AOper.news (o:AOper):Option Nat:=match o.op with
 | .lalloc _=>o.dst
 | _=>none
def newVars (ops:List AOper):List Nat:=ops.filterMap AOper.news
def AOper.sets (V:List Nat) (o:AOper):Option Nat:=match o.op with
 | .store _ (.tmp t) _=>if V.contains t then some t else o.dst
 | _=>o.dst
def looksAt (V:List Nat) (s:Slots) (t:Nat):Bool:=V.contains t || (match sget s t with
 | some (.loc u _)=>V.contains u
 | _=>false)
def quietOk (V:List Nat) (o:AOper) (s:Slots):Bool:=match o.op with
 | .lalloc _=>o.guard.isNone && (match o.dst with
  | some d=>V.contains d
  | none=>false)
 | .store _ (.tmp t) x=>o.guard.isNone && o.dst.isNone && V.contains t && isVar s t && x.reads.all fun u=>!looksAt V s u
 | _=>(o.dst.all fun d=>!isVar s d && !V.contains d) && (o.reads.all fun u=>!looksAt V s u)
def evQuietV (call:CallSem) (V:List Nat):List AOper→Slots→Heap→Option (Slots × Heap)
 | [],s,h=>some (s,h)
 | o :: r,s,h=>match dy call o s { h with wmin:=h.size } with
  | some (s',h')=>if h'.size=h.size∧h'.wmin=h.size∧quietOk V o s=true then evQuietV call V r s' h else none
  | none=>none
def noLocs (V:List Nat):Slots→Bool
 | []=>true
 | (_,.loc u _) :: r=>!V.contains u && noLocs V r
 | _ :: r=>noLocs V r
def evQ (call:CallSem) (ops:List AOper) (s:Slots) (h:Heap):Option (Slots × Heap) :=
 if newVars ops=[] then evQuiet call ops s h else if noLocs (newVars ops) s=true then evQuietV call (newVars ops) ops s h else none
mutual
def AVal.eqb:AVal→AVal→Bool
 | .bool a,.bool b=>a == b
 | .int k n,.int k' n'=>decide (k=k') && decide (n=n')
 | .str a,.str b=>decide (a=b)
 | .ptr a,.ptr b=>decide (a=b)
 | .slice a n c,.slice a' n' c'=>decide (a=a') && decide (n=n') && decide (c=c')
 | .map a,.map b=>decide (a=b)
 | .func g f c,.func g' f' c'=>decide (g=g') && AVal.eqbL f f' && AVal.eqbL c c'
 | .nilFunc,.nilFunc=>true
 | .iface t v,.iface t' v'=>decide (t=t') && v.eqb v'
 | .nilIface,.nilIface=>true
 | .agg a,.agg b=>AVal.eqbL a b
 | .tuple a,.tuple b=>AVal.eqbL a b
 | .yield a,.yield b=>decide (a=b)
 | _,_=>false
def AVal.eqbL:List AVal→List AVal→Bool
 | [],[]=>true
 | a :: r,b :: r'=>a.eqb b && AVal.eqbL r r'
 | _,_=>false
end
structure Did where
 isCall:Bool
 rd:List Nat
 ch:Option Nat
 wr:Option (Nat × List AObj × List AObj)
 lo:Nat
 hi:Nat
 ld:Option (Nat × Nat × Option Nat × AVal)
def seenBy (m:Nat):Nat→List Did→Nat→Bool
 | _,[],_=>false
 | y,d :: r,i=>(m.testBit y && decide (d.lo≤i) && decide (i < d.hi)) || seenBy m (y+1) r i
def okId (n0 m:Nat) (ds:List Did) (i:Nat):Bool:=decide (i < n0) || seenBy m 0 ds i
def allSeen (m:Nat):Nat→List Did→Bool
 | _,[]=>true
 | y,d :: r=>(m.testBit y || decide (d.hi≤d.lo)) && allSeen m (y+1) r
def killRange (lo hi:Nat) (os:List AObj):List AObj:=os.mapIdx fun i o=>if lo≤i∧i < hi then .dead else o
def hide (m:Nat):Nat→List Did→List AObj→List AObj
 | _,[],os=>os
 | y,d :: r,os=>hide m (y+1) r (if m.testBit y || decide (d.hi≤d.lo) then os else killRange d.lo d.hi os)
def cellEqb:AObj→AObj→Bool
 | .cells e a,.cells e' b=>decide (e=e') && AVal.eqbL a b
 | _,_=>false
def sameAt (A B:List AObj) (i:Nat):Bool:=match A[i]?,B[i]? with
 | some a,some b=>cellEqb a b
 | _,_=>false
def Did.writes (x:Did) (i:Nat):Bool:=x.ch == some i || (match x.wr with | some (w,A,B)=>decide (w≤i) && !sameAt A B i | none=>false)
def clash (x y:Did):Bool :=
 (x.isCall && y.isCall) || (x.ch.isSome && y.isCall) || (y.ch.isSome && x.isCall) ||
 (y.rd++y.ch.toList).any x.writes || (x.rd++x.ch.toList).any y.writes
def ldOf (o:AOper) (s:Slots) (y:Slot):Option (Nat × Nat × Option Nat × AVal) :=
 match o.op with
 | .load n a=>match o.guard,o.dst with
  | none,some _=>match a.adr s,y with
   | some (.glob i off),.val v=>some (i,off,n,v)
   | _,_=>none
  | _,_=>none
 | _=>none
def again (h:Heap):Option (Nat × Nat × Option Nat × AVal)→Bool
 | some (i,off,n,v)=>match loadAt [] h (.glob i off) n with
  | some u=>u.eqb v
  | none=>false
 | none=>false
def benign (h':Heap) (x d:Did):Bool:=x.isCall && !d.isCall && d.ch.isNone && d.wr.isNone && again h' d.ld
def je (h':Heap) (m:Nat) (x:Did):Nat→List Did→Bool
 | _,[]=>true
 | y,d :: r=>(m.testBit y || (!clash x d || benign h' x d)) && je h' m x (y+1) r
def slotIds (s:Slots) (t:Nat):List Nat:=match sget s t with
 | some x=>x.ids
 | none=>[]
def gn (d:Option Nat) (s:Slots):Slot:=match d with
 | some d=>(sget s d).getD .undef
 | none=>.undef
def ew (o:AOp) (s:Slots):List Nat:=(ef o).flatMap fun x=>match x.ev s with
 | some v=>v.ids
 | none=>[]
def lj (call:CallSem) (n0 m:Nat) (ds:List Did) (o:AOper) (s:Slots) (h:Heap):Option (Slot × Heap × Did) :=
 if (o.reads.flatMap (slotIds s)++ew o.op s).all (okId n0 m ds)=false then none else
 if o.op.isCall then
  match dy call o s ⟨hide m 0 ds h.objs,h.base,h.size⟩ with
  | none=>none
  | some (s',h') =>
   let y:=gn o.dst s'
   if h'.wmin < h.size then
    if allSeen m 0 ds then some (y,⟨h'.objs,h.base,min h.wmin h'.wmin⟩,⟨true,[],none,some (h'.wmin,h.objs,h'.objs),h.size,h'.size,none⟩) else none
   else if allSeen m 0 ds then some (y,⟨h'.objs,h.base,h.wmin⟩,⟨true,[],none,none,h.size,h'.size,none⟩)
   else if (y.ids++(h'.objs.drop h.size).flatMap AObj.ids).all (fun i=>okId n0 m ds i || decide (h.size≤i)) then
    some (y,⟨h.objs++h'.objs.drop h.size,h.base,h.wmin⟩,⟨true,[],none,none,h.size,h'.size,none⟩)
   else none
 else
  match dy noCall o s ⟨h.objs,h.base,h.size⟩ with
  | none=>none
  | some (s',h') =>
   let y:=gn o.dst s'
   if h'.size=h.size then
    if h'.wmin < h.size then
     match h'.objs[h'.wmin]? with
     | some ob=>if (y.ids++ob.ids).all (okId n0 m ds)=true then some (y,⟨h'.objs,h.base,min h.wmin h'.wmin⟩,⟨false,ew o.op s,some h'.wmin,none,h.size,h.size,ldOf o s y⟩) else none
     | none=>none
    else if h'.wmin=h.size∧y.ids.all (okId n0 m ds)=true then some (y,h,⟨false,ew o.op s,none,none,h.size,h.size,ldOf o s y⟩) else none
   else if h'.size=h.size+1 then
    match h'.objs[h.size]? with
    | some ob =>
     if ob.ids.all (okId n0 m ds) then
      if h'.wmin=h.size then some (y,⟨h'.objs,h.base,h.wmin⟩,⟨false,ew o.op s,none,none,h.size,h.size+1,ldOf o s y⟩)
      else some (y,⟨h'.objs,h.base,min h.wmin h'.wmin⟩,⟨false,ew o.op s,some h'.wmin,none,h.size,h.size+1,ldOf o s y⟩)
     else none
    | none=>none
   else none
def ik (call:CallSem) (n0:Nat):List Nat→List AOper→List Did→Slots→Heap→Option (Slots × Heap)
 | _,[],_,s,h=>some (s,h)
 | ms,o :: r,ds,s,h=>match lj call n0 (ms.headD 0) ds o s h with
  | some (y,h',d) =>
   if (o.dst.all fun d=>!isVar s d)=true∧je h' (ms.headD 0) d 0 ds=true then ik call n0 ms.tail r (ds++[d]) (a9 o.dst y s) h' else none
  | none=>none
def uq (call:CallSem) (ms:List Nat) (ops:List AOper) (s:Slots) (h:Heap):Option (Slots × Heap) :=
 ik call h.size ms ops [] s h
def jh (call:CallSem):List Seg→Slots→Heap→Option (Slots × Heap)
 | [],s,h=>some (s,h)
 | g :: r,s,h=>match (if g.quiet then (if g.soft=[] then evQ call g.ops s h else uq call g.soft g.ops s h) else evOps call g.ops s h) with
  | some (s',h')=>jh call r s' h'
  | none=>none
structure St where
 s:Slots
 h:Heap
def capsOf (s:Slots):List Nat→Option (List (Nat × AVal))
 | []=>some []
 | t :: r=>match sget s t,capsOf s r with
  | some (.val v),some l=>some ((t,v) :: l)
  | _,_=>none
def ofCaps:List (Nat × AVal)→Slots
 | []=>[]
 | (t,v) :: r=>(t,.val v) :: ofCaps r
def setArgs:List Nat→List AVal→Slots→Slots
 | t :: ts,v :: vs,s=>setArgs ts vs ((t,.val v) :: s)
 | _,_,s=>s
def callVal (call:CallSem) (f:AVal) (args:List AVal) (h:Heap):Option (AVal × Heap) :=
 match f with
 | .func g first caps=>call g (first++args++caps) h
 | _=>none
def loopEnd (s:Slots) (h:Heap) (i:Nat):Option (AExit × St) :=
 match h.get i with
 | some (.loop _ st p _)=>if st = .busy then none else some (p.getD .normal,⟨s,h.put i .dead⟩)
 | _=>none
def loopN (f:St→Option (AExit × St)):Nat→St→Option (AExit × St)
 | 0,_=>none
 | n+1,st=>match f st with
  | some (.normal,st')=>loopN f n st'
  | r=>r
def da (call:CallSem) (n:Nat):ACode→St→Option (AExit × St)
 | .skip,st=>some (.normal,st)
 | .region gs,st=>(jh call gs st.s st.h).map fun (s,h)=>(.normal,⟨s,h⟩)
 | .seq a b,st=>match da call n a st with
  | some (.normal,st')=>da call n b st'
  | r=>r
 | .cond c t e,st=>match c.ev st.s with
  | some (.bool true)=>da call n t st
  | some (.bool false)=>da call n e st
  | _=>none
 | .block id c,st=>match da call n c st with
  | some (.exit j,st')=>if j=id then some (.normal,st') else some (.exit j,st')
  | r=>r
 | .loop c,st=>loopN (da call n c) n st
 | .exit id,st=>some (.exit id,st)
 | .ret,st=>some (.ret,st)
 | .live l c,st=>da call n c ⟨keep l st.s,st.h⟩
 | .after c l,st=>match da call n c st with
  | some (.normal,st')=>some (.normal,⟨keep l st'.s,st'.h⟩)
  | r=>r
 | .rangeFunc f g caps _ _ _,st=>match f.ev st.s,capsOf st.s caps with
  | some fv,some sl=>match callVal call fv [.yield st.h.size] (st.h.push (.loop g .ready none sl)) with
   | some (_,h')=>loopEnd st.s h' st.h.size
   | none=>none
  | _,_=>none
 | .next _ _,_=>none
def flatL {α β:Type} (f:α→Option (List β)):List α→Option (List β)
 | []=>some []
 | x :: r=>match f x,flatL f r with
  | some a,some b=>some (a++b)
  | _,_=>none
def nextOuts (d:Option Nat) (x:Opd) (st:St):Option (List (AExit × St)) :=
 match x.ev st.s with
 | some (.ptr (some (i,0))) =>
  if st.h.base≤i then match st.h.get i with
   | some (.mapIter none _ _ _)=>some [(.normal,⟨a9 d (.val (.tuple [.bool false])) st.s,st.h.put i .dead⟩)]
   | some (.mapIter (some m) since seen last)=>match st.h.get m with
    | some (.map es clock)=>if (es.all fun e=>decide (e.2.2 < since))=true∧since≤last then
      match es.filter fun e=>!seen.contains e.2.2 with
      | []=>some [(.normal,⟨a9 d (.val (.tuple [.bool false])) st.s,st.h.put i .dead⟩)]
      | l=>some (l.map fun e=>(.normal,⟨a9 d (.val (.tuple [.bool true,e.1,e.2.1])) st.s,st.h.put i (.mapIter (some m) since (seen++[e.2.2]) clock)⟩))
     else none
    | _=>none
   | _=>none
  else none
 | _=>none
def loopO (f:St→Option (List (AExit × St))):Nat→St→Option (List (AExit × St))
 | 0,_=>none
 | n+1,st=>match f st with
  | some l=>flatL (fun x=>match x.1 with
   | .normal=>loopO f n x.2
   | e=>some [(e,x.2)]) l
  | none=>none
def eg (call:CallSem) (n:Nat):ACode→St→Option (List (AExit × St))
 | .seq a b,st=>match eg call n a st with
  | some l=>flatL (fun x=>match x.1 with
   | .normal=>eg call n b x.2
   | e=>some [(e,x.2)]) l
  | none=>none
 | .cond c t e,st=>match c.ev st.s with
  | some (.bool true)=>eg call n t st
  | some (.bool false)=>eg call n e st
  | _=>none
 | .block id c,st=>(eg call n c st).map fun l=>l.map fun x=>match x.1 with
  | .exit j=>if j=id then (.normal,x.2) else (.exit j,x.2)
  | e=>(e,x.2)
 | .loop c,st=>loopO (eg call n c) n st
 | .live l c,st=>eg call n c ⟨keep l st.s,st.h⟩
 | .after c l,st=>(eg call n c st).map fun ys=>ys.map fun x=>match x.1 with
  | .normal=>(.normal,⟨keep l x.2.s,x.2.h⟩)
  | e=>(e,x.2)
 | .next d x,st=>nextOuts d x st
 | c,st=>(da call n c st).map fun x=>[x]
mutual
def AVal.under (n:Nat):AVal→Bool
 | .ptr (some (i,_))=>i < n
 | .slice (some (i,_)) _ _=>i < n
 | .map (some i)=>i < n
 | .yield i=>i < n
 | .func _ f c=>AVal.unders n f && AVal.unders n c
 | .iface _ v=>v.under n
 | .agg cs=>AVal.unders n cs
 | .tuple vs=>AVal.unders n vs
 | _=>true
def AVal.unders (n:Nat):List AVal→Bool
 | []=>true
 | v :: r=>v.under n && AVal.unders n r
end
def reach (h:Heap) (n0:Nat):Nat→List Nat→List Nat→List Nat
 | 0,_,acc=>acc
 | _+1,[],acc=>acc
 | f+1,i :: r,acc =>
  if i < n0 then reach h n0 f r acc
  else if acc.contains i then reach h n0 f r acc
  else reach h n0 f (((h.get i).map AObj.ids).getD []++r) (acc++[i])
def idxIn (i:Nat):List Nat→Nat
 | []=>0
 | j :: r=>if j=i then 0 else idxIn i r+1
def dj (h0:Heap) (v:AVal) (h:Heap):AVal × Heap :=
 if h.wmin < h0.size then (v,{ h with wmin:=min h0.wmin h.wmin })
 else if v.under h0.size then (v,h0)
 else
  let k:=reach h h0.size 1000 v.ids []
  let ok:=(v.ids++k.flatMap fun i=>((h.get i).map AObj.ids).getD []).all fun i=>i < h0.size || k.contains i
  let f:=fun i=>if i < h0.size then i else h0.size+idxIn i k
  if ok then (v.ren f,{ h0 with objs:=h0.objs++k.map fun i=>((h.get i).map (AObj.ren f)).getD .dead })
  else (v,{ h with wmin:=h0.wmin })
def enter (i:Nat):List AVal→Slots
 | []=>[]
 | v :: r=>(i,.val v) :: enter (i+1) r
def result1 (s:Slots) (h:Heap):ARes→Option AVal
 | .tmp t=>match sget s t with
  | some (.val v)=>some v
  | _=>none
 | .cell t n=>match (Opd.tmp t).adr s with
  | some a=>loadAt s h a n
  | none=>none
def resultsL (s:Slots) (h:Heap):List ARes→Option (List AVal)
 | []=>some []
 | x :: r=>match result1 s h x,resultsL s h r with
  | some v,some vs=>some (v :: vs)
  | _,_=>none
def tupled:List AVal→AVal
 | [v]=>v
 | vs=>.tuple vs
def funcEnd (f:AFunc) (h:Heap):AExit × St→Option (AVal × Heap)
 | (.normal,st) | (.ret,st)=>(resultsL st.s st.h f.results).map fun vs=>dj h (tupled vs) st.h
 | _=>none
def eqbE:List (AVal × AVal × Nat)→List (AVal × AVal × Nat)→Bool
 | [],[]=>true
 | (k,v,b) :: r,(k',v',b') :: r'=>k.eqb k' && v.eqb v' && decide (b=b') && eqbE r r'
 | _,_=>false
def eqbS:List (Nat × AVal)→List (Nat × AVal)→Bool
 | [],[]=>true
 | (t,v) :: r,(t',v') :: r'=>decide (t=t') && v.eqb v' && eqbS r r'
 | _,_=>false
def AObj.eqb:AObj→AObj→Bool
 | .dead,.dead=>true
 | .cells e a,.cells e' b=>decide (e=e') && AVal.eqbL a b
 | .map a c,.map b c'=>eqbE a b && decide (c=c')
 | .iter s p,.iter s' p'=>decide (s=s') && decide (p=p')
 | .mapIter m a b c,.mapIter m' a' b' c'=>decide (m=m') && decide (a=a') && decide (b=b') && decide (c=c')
 | .loop g s p l,.loop g' s' p' l'=>decide (g=g') && decide (s=s') && decide (p=p') && eqbS l l'
 | _,_=>false
def eqbO:List AObj→List AObj→Bool
 | [],[]=>true
 | a :: r,b :: r'=>a.eqb b && eqbO r r'
 | _,_=>false
def eqbR (x y:AVal × Heap):Bool:=x.1.eqb y.1 && eqbO x.2.objs y.2.objs && decide (x.2.base=y.2.base) && decide (x.2.wmin=y.2.wmin)
def allSame:List (Option (AVal × Heap))→Option (AVal × Heap)
 | some x :: r=>if (r.all fun y=>match y with | some y=>eqbR x y | none=>false)=true then some x else none
 | _=>none
def evFunc (call:CallSem) (n:Nat) (f:AFunc) (args:List AVal) (h:Heap):Option (AVal × Heap) :=
 if args.length=f.nargs then
  if f.wild then match eg call n f.body ⟨enter 0 args,{ h with wmin:=h.size }⟩ with
   | some l=>allSame (l.map (funcEnd f h))
   | none=>none
  else match da call n f.body ⟨enter 0 args,{ h with wmin:=h.size }⟩ with
   | some x=>funcEnd f h x
   | none=>none
 else none
def mg (g i:Nat):Option (AExit × St)→Option St
 | some (.normal,st)=>match st.h.get i with
  | some (.loop g' .ready p sl)=>if g'=g then some ⟨st.s,st.h.put i (.loop g .busy p sl)⟩ else none
  | _=>none
 | _=>none
def roundOut (h0:Heap) (g i:Nat):Option (AExit × St)→Option (AVal × Heap)
 | some (e,st)=>match st.h.get i with
  | some (.loop g' _ _ sl)=>if g'=g then some (dj h0 (.bool (decide (e = .normal))) (st.h.put i (.loop g (if e = .normal then .ready else .done) (if e = .normal then none else some e) sl))) else none
  | _=>none
 | none=>none
def nd (i:Nat) (ps:List Nat) (args:List AVal) (h:Heap):Option Slots :=
 match h.get i with
 | some (.loop _ _ _ sl)=>some (setArgs ps args (ofCaps sl))
 | _=>none
def evRound (call:CallSem) (n g:Nat) (r:ARound) (args:List AVal) (h:Heap):Option (AVal × Heap) :=
 match args with
 | .ptr (some (i,_)) :: aZ =>
  if aZ.length=r.params.length∧h.base≤i then match nd i r.params aZ h with
   | some s=>match mg g i (da call n r.assign ⟨s,{ h with wmin:=h.size }⟩) with
    | some st=>roundOut h g i (da call n r.body st)
    | none=>none
   | none=>none
  else none
 | _=>none
def evClosed (r:List AVal→Heap→Option (AVal × Heap)) (args:List AVal) (h:Heap):Option (AVal × Heap) :=
 if AVal.unders 0 args then match r args ⟨[],0,0⟩ with
  | some (v,_)=>if v.under 0 then some (v,h) else none
  | none=>none
 else none
def wrapC (closed:Bool) (r:List AVal→Heap→Option (AVal × Heap)) (args:List AVal) (h:Heap):Option (AVal × Heap) :=
 if closed then evClosed r args h else r args h
def du (T:Nat→Option AFunc):Nat→CallSem
 | 0=>fun _ _ _=>none
 | n+1=>fun g args h=>match T g with
  | some f=>match f.round with
   | some (.round r)=>evRound (du T n) n g r args h
   | some (.lib f)=>(f args h).map fun r=>(r.1,h.puts r.2.1 r.2.2)
   | none=>wrapC f.closed (evFunc (du T n) n f) args h
  | none=>none
end Go.Abs

namespace Go.Abs
structure Env where
 P:Program
 gid:FuncId→Option Nat
 rnd:Nat→Option ARound
 room:Nat
 glob:Nat
 tabs:List (Nat × (Obj→Prop))
inductive Hint where
 | leaf
 | stuck
 | reg (segs:List (Bool × Nat)) (locs:List Nat)
 | seq (a b:Hint)
 | cond (a b:Hint)
 | block (a:Hint)
 | loop (a:Hint)
 | live (l:List Nat) (a:Hint)
 | after (a:Hint) (l:List Nat)
 | rangeFunc (g:Nat) (caps:List Nat) (a b:Hint)
 | next
def toA1:Value→Option AVal
 | .bool b=>some (.bool b)
 | .int k n=>some (.int k n)
 | .string s=>some (.str s.data.toList)
 | .pointer none=>some (.ptr none)
 | .slice none 0 0=>some (.slice none 0 (some 0))
 | .map none=>some (.map none)
 | .nilFunc=>some .nilFunc
 | .nilIface=>some .nilIface
 | _=>none
def toAs:List Value→Option (List AVal)
 | []=>some []
 | v :: r=>match toA1 v,toAs r with
  | some a,some aZ=>some (a :: aZ)
  | _,_=>none
def toA:Value→Option AVal
 | .agg cs=>(toAs cs.toList).map .agg
 | v=>toA1 v
def gq (E:Env):Operand→Option Opd
 | .tmp t=>some (.tmp t)
 | .const v=>(toA v).map .const
 | .func f=>(E.gid f).map fun g=>.const (.func g [] [])
 | .global _=>none
def cOpds (E:Env):List Operand→Option (List Opd)
 | []=>some []
 | x :: r=>match gq E x,cOpds E r with
  | some a,some aZ=>some (a :: aZ)
  | _,_=>none
def cOpt (E:Env):Option Operand→Option (Option Opd)
 | none=>some none
 | some x=>(gq E x).map some
def zeroOf (P:Program) (t:TypeId):Option (List AVal) :=
 match P.info? t with
 | some i=>match i.zero with
  | some z=>toAs z.cells.toList
  | none=>none
 | none=>none
def sizeT (P:Program) (t:TypeId):Option Nat:=(P.info? t).map (·.size)
def partT (P:Program) (t:TypeId):Option (Option Nat) :=
 match P.underlying t with
 | some (.struct _) | some (.array _ _)=>(sizeT P t).map some
 | some _=>some none
 | none=>none
def eszOf (P:Program) (t:TypeId):Option Nat :=
 match P.underlying t with
 | some (.array _ e)=>sizeT P e
 | _=>sizeT P t
def cParts (E:Env) (place:Nat→Option (Nat × Nat)):List (Nat × Operand)→Option (List (Nat × Nat × Opd))
 | []=>some []
 | (i,x) :: r=>match place i,gq E x,cParts E place r with
  | some (o,n),some a,some aZ=>some ((o,n,a) :: aZ)
  | _,_,_=>none
def fieldPlaces (P:Program):List Field→Option (List (Nat × Nat))
 | []=>some []
 | f :: r=>match sizeT P f.type,fieldPlaces P r with
  | some n,some l=>some ((f.offset,n) :: l)
  | _,_=>none
def ckFields (g:TypeId→Option (List CK)) (P:Program):Nat→List Field→Option (List CK)
 | _,[]=>some []
 | off,f :: r=>match g f.type with
  | some l=>if f.offset=off∧f.name ≠ "_" ∧ sizeT P f.type=some l.length∧0 < l.length then (ckFields g P (off+l.length) r).map (l ++ ·) else none
  | none=>none
def ckOf (P:Program):Nat→TypeId→Option (List CK)
 | 0,_=>none
 | n+1,t=>match P.underlying t with
  | some .bool=>some [.b]
  | some (.int _)=>some [.i]
  | some .string=>some [.s]
  | some (.struct fs)=>if P.stoodInHeld t then none else ckFields (ckOf P n) P 0 fs.toList
  | some (.array k e)=>match ckOf P n e with
   | some l=>if sizeT P e=some l.length∧0 < l.length then some (List.replicate k l).flatten else none
   | none=>none
  | _=>none
def keyT (P:Program) (t:TypeId):Option KeyT :=
 if sizeT P t=none then none else
 match P.underlying t with
 | some .bool=>some (.one .b)
 | some (.int _)=>some (.one .i)
 | some .string=>some (.one .s)
 | some (.struct _)=>(ckOf P 2 t).map .agg
 | _=>none
def zeroA (P:Program) (t:TypeId):Option AVal :=
 match P.info? t with
 | some i=>match i.zero with
  | some z=>toA z
  | none=>none
 | none=>none
def cEq (d:TypeDesc) (neg:Bool) (a b:Opd):Option AOp :=
 match d with
 | .bool=>some (.beq neg a b)
 | .pointer _=>some (.eqnil .ptr neg a b)
 | .slice _=>some (.eqnil .slice neg a b)
 | .map _ _=>some (.eqnil .map neg a b)
 | .func _ _ _=>some (.eqnil .func neg a b)
 | _=>none
def cBin (E:Env) (op:BinOp) (t:TypeId) (x y:Operand):Option AOp :=
 match gq E x,gq E y with
 | some a,some b =>
  match E.P.underlying t with
  | some (.int _) | some .string=>some (.bin op a b)
  | some (.struct _) | some (.array _ _) =>
   if E.P.eqGuardType E.P.depth t then none else
   match op,ckOf E.P 20 t with
   | .eql,some ks=>some (.ext (.pure (.eqcells false ks)) [a,b])
   | .neq,some ks=>some (.ext (.pure (.eqcells true ks)) [a,b])
   | _,_=>none
  | some d =>
   match op with
   | .eql=>cEq d false a b
   | .neq=>cEq d true a b
   | _=>none
  | none=>none
 | _,_=>none
def isByte (P:Program) (t:TypeId):Bool :=
 match P.underlying t with
 | some (.int .u8)=>true
 | _=>false
def cConv (E:Env) (src dst:TypeId) (x:Operand):Option AOp :=
 match gq E x,E.P.underlying src,E.P.underlying dst with
 | some a,some (.int _),some (.int k)=>some (.conv (.int k) a)
 | some a,some .string,some .string=>some (.conv .str a)
 | some a,some .string,some (.slice e)=>if isByte E.P e && E.room == 0 then some (.conv .bytes a) else none
 | some a,some (.slice e),some .string=>if isByte E.P e then some (.conv .string a) else none
 | some a,some (.slice e),some (.slice _)=>if isByte E.P e && src == dst && E.room == 0 then some (.conv .same a) else none
 | _,_,_=>none
def isRow (P:Program) (fn:Func):Bool :=
 match fn.resultTypes[0]? with
 | some t=>match P.underlying t with
  | some (.slice e)=>isByte P e && decide (fn.resultTypes.size=1)
  | _=>false
 | none=>false
def primOf (P:Program) (f:FuncId):Option PrimK :=
 match P.funcs[f]? with
 | some fn =>
  if fn.body.isNone=true∧fn.origin = "" then
   if fn.name = "internal/bytealg.IndexByteString" then some .indexByte
   else if fn.name = "internal/bytealg.CountString" then some .countByte
   else if fn.name = "internal/bytealg.MakeNoZero" ∧ isRow P fn=true then some .noZero
   else none
  else none
 | none=>none
def cCall (E:Env) (c:Call):Option AOp :=
 match c.callee with
 | .value (.func f)=>match E.gid f,cOpds E c.args.toList with
  | some g,some aZ=>some (.callg g aZ)
  | none,some aZ=>(primOf E.P f).map fun k=>.ext (.pure (.prim k)) aZ
  | _,none=>none
 | .value x=>match gq E x,cOpds E c.args.toList with
  | some a,some aZ=>some (.call a aZ)
  | _,_=>none
 | .builtin b =>
  match b,c.argTypes.toList,c.args.toList with
  | .len,[t],[x]=>match E.P.underlying t with
   | some .string=>(gq E x).map (.len .str)
   | some (.slice _)=>(gq E x).map (.len .sl)
   | some (.map _ _)=>(gq E x).map (.len .map)
   | _=>none
  | .append,[t,u],[x,y]=>match E.P.underlying t,E.P.underlying u,gq E x,gq E y with
   | some (.slice e),some (.slice _),some a,some b | some (.slice e),some .string,some a,some b=>match E.P.info? e with
    | some i=>match i.zero with
     | some z=>if z.cells.size=i.size then some (.append i.size i.bytes a b) else none
     | none=>none
    | none=>none
   | some (.slice e),some (.int _),some a,some b=>match E.P.info? e,zeroOf E.P e with
    | some i,some z=>if z.length=i.size∧0 < i.size then some (.ext (.appz i.size i.bytes z) [a,b]) else none
    | _,_=>none
   | _,_,_,_=>none
  | .cap,[t],[x]=>match E.P.underlying t with
   | some (.slice _)=>(gq E x).map fun a=>.ext (.pure .cap) [a]
   | _=>none
  | .copy,[t,u],[x,y]=>match E.P.underlying t,E.P.underlying u,gq E x,gq E y with
   | some (.slice e),some (.slice _),some a,some b=>(sizeT E.P e).map fun n=>.ext (.copy n) [a,b]
   | _,_,_,_=>none
  | .clear,[t],[x]=>match E.P.underlying t with
   | some (.slice e)=>match sizeT E.P e,zeroOf E.P e,gq E x with
    | some n,some z,some a=>if z.length=n∧0 < n then some (.ext (.clear n z) [a]) else none
    | _,_,_=>none
   | _=>none
  | .delete,t :: _,[x,y]=>match E.P.underlying t with
   | some (.map k _)=>match keyT E.P k,gq E x,gq E y with
    | some kn,some a,some b=>some (.ext (.delete kn) [a,b])
    | _,_,_=>none
   | _=>none
  | .min,_,xs=>(cOpds E xs).map (.minmax false)
  | .max,_,xs=>(cOpds E xs).map (.minmax true)
  | _,_,_=>none
 | _=>none
def cOp (E:Env) (loc:Bool) (op:Op):Option AOp :=
 match op with
 | .move x | .assign x=>(gq E x).map .val
 | .pick c a b=>match gq E c,gq E a,gq E b with
  | some c,some a,some b=>some (.pick c a b)
  | _,_,_=>none
 | .alloc t=>match zeroOf E.P t,eszOf E.P t with
  | some z,some e=>some (if loc then .lalloc z else .alloc e z)
  | _,_=>none
 | .box _ x=>(gq E x).map fun a=>if loc then .lbox a else .box a
 | .build t ps=>match E.P.underlying t,zeroOf E.P t with
  | some (.struct fs),some z=>match fieldPlaces E.P fs.toList with
   | some pl=>(cParts E (pl[·]?) ps.toList).map (.build z)
   | none=>none
  | some (.array _ e),some z=>match sizeT E.P e with
   | some n=>(cParts E (fun i=>some (i*n,n)) ps.toList).map (.build z)
   | none=>none
  | _,_=>none
 | .buildSlice t len ps=>match E.P.underlying t with
  | some (.slice e)=>match sizeT E.P e,zeroOf E.P e with
   | some n,some z=>if len*n≤16777216∧z.length=n∧0 < n then (cParts E (fun i=>some (i*n,n)) ps.toList).map (.mkslice n len (rep len z)) else none
   | _,_=>none
  | _=>none
 | .load t a=>match partT E.P t,gq E a with
  | some n,some a=>some (.load n a)
  | _,_=>none
 | .store t a x=>match sizeT E.P t,gq E a,gq E x with
  | some n,some a,some x=>some (if loc then .ext (.hstore n) [a,x] else .store n a x)
  | _,_,_=>none
 | .nilCheck x=>(gq E x).map .nilcheck
 | .binOp op t x y _=>cBin E op t x y
 | .unOp op _ x=>(gq E x).map (.un op)
 | .convert s d x=>cConv E s d x
 | .makeFunc (.func f) first caps=>match E.gid f,cOpds E first.toList,cOpds E caps.toList with
  | some g,some f,some c=>some (.mkfunc g f c)
  | _,_,_=>none
 | .makeSlice t l c=>match E.P.underlying t with
  | some (.slice e)=>match E.P.info? e,zeroOf E.P e,gq E l,gq E c with
   | some i,some z,some l,some c=>if z.length=i.size∧0 < i.size then some (.make i.size i.bytes z l c) else none
   | _,_,_,_=>none
  | _=>none
 | .slice t x lo hi mx=>match gq E x,cOpt E lo,cOpt E hi,cOpt E mx with
  | some x,some lo,some hi,some mx=>match E.P.underlying t with
   | some .string=>some (.slice .str x lo hi mx)
   | some (.slice e)=>(sizeT E.P e).map fun n=>.slice (.sl n) x lo hi mx
   | some (.array n e)=>(sizeT E.P e).map fun k=>.slice (.arr n k) x lo hi mx
   | _=>none
  | _,_,_,_=>none
 | .fieldAddr t x f=>match E.P.underlying t,gq E x with
  | some (.struct fs),some x=>match fs[f]? with
   | some fl=>match sizeT E.P fl.type with
    | some (_+1)=>some (.faddr x fl.offset)
    | _=>none
   | none=>none
  | _,_=>none
 | .field t x f=>match E.P.underlying t,gq E x with
  | some (.struct fs),some x=>match fs[f]? with
   | some fl=>(partT E.P fl.type).map fun n=>.field x fl.offset n
   | none=>none
  | _,_=>none
 | .indexAddr t x i=>match E.P.underlying t,gq E x,gq E i with
  | some (.slice e),some x,some i=>(sizeT E.P e).map fun n=>.iaddr n x i
  | some (.array len e),some x,some i=>(sizeT E.P e).map fun n=>.aaddr len n x i
  | _,_,_=>none
 | .index t x i=>match E.P.underlying t,gq E x,gq E i with
  | some .string,some x,some i=>some (.index x i)
  | some (.array len e),some x,some i=>match sizeT E.P e,partT E.P e with
   | some n,some k=>some (.aindex len n k x i)
   | _,_=>none
  | _,_,_=>none
 | .extract x i=>(gq E x).map fun a=>.extract a i
 | .call c=>cCall E c
 | .range t x=>match E.P.underlying t with
  | some (.map _ _)=>(gq E x).map fun a=>.ext .mkiter [a]
  | _=>none
 | .entry x=>(gq E x).map fun a=>.ext .entry [a]
 | .makeMap _ none=>some (.ext .mkmap [])
 | .makeMap t (some (.const (.int _ _)))=>match E.P.underlying t with
  | some (.map _ _)=>some (.ext .mkmap [])
  | _=>none
 | .lookup t x i ok=>match E.P.underlying t with
  | some (.map k e)=>match keyT E.P k,zeroA E.P e,gq E x,gq E i with
   | some kn,some z,some x,some i=>some (.ext (.lookup kn z ok) [x,i])
   | _,_,_,_=>none
  | _=>none
 | .mapUpdate t x k v | .insert t x k v=>match E.P.underlying t with
  | some (.map kt _)=>match keyT E.P kt,gq E x,gq E k,gq E v with
   | some kn,some x,some k,some v=>some (.ext (.mapupd kn) [x,k,v])
   | _,_,_,_=>none
  | _=>none
 | .mapEntry t x k=>match E.P.underlying t with
  | some (.map kt e)=>match keyT E.P kt,zeroA E.P e,gq E x,gq E k with
   | some kn,some z,some x,some k=>some (.ext (.mapentry kn z) [x,k])
   | _,_,_,_=>none
  | _=>none
 | .entryStore _ x st v=>match gq E x,gq E st,gq E v with
  | some x,some st,some v=>some (.ext .entrystore [x,st,v])
  | _,_,_=>none
 | _=>none
def cOpS (E:Env) (loc:Bool) (op:Op):AOp :=
 match cOp E loc op with
 | some a=>a
 | none=>.nextStr (.const (.bool false))
def isStore:Op→Bool
 | .store _ _ _=>true
 | _=>false
def kr (E:Env) (nt:Nat) (ops:Array Oper) (loc:Bool) (o:Oper):Option AOper :=
 if (o.dst.all fun d=>d < nt) && (!loc || o.dst.isSome || isStore o.op) then
  match o.guard with
  | none=>some ⟨o.dst,none,cOpS E loc o.op⟩
  | some (j,want)=>match (ops[j]?).bind (·.dst) with
   | some d=>some ⟨o.dst,some (d,want),cOpS E loc o.op⟩
   | none=>none
 else none
def ll (E:Env) (nt:Nat) (ops:Array Oper) (locs:List Nat) (i:Nat):List Oper→Option (List AOper)
 | []=>some []
 | o :: r=>match kr E nt ops (locs.contains i) o,ll E nt ops locs (i+1) r with
  | some a,some aZ=>some (a :: aZ)
  | _,_=>none
def makes:AOp→Bool
 | .alloc _ _ | .box _ | .mkslice _ _ _ _ | .make _ _ _ _ _ | .append _ _ _ _ | .conv .bytes _ | .conv .same _ | .ext .mkmap _ | .ext .mkiter _ | .ext (.hstore _) _ | .ext (.copy _) _ | .ext (.appz _ _ _) _ | .ext (.clear _ _) _ | .ext (.mapupd _) _ | .ext (.delete _) _ | .ext (.mapentry _ _) _ | .ext .entrystore _=>true
 | .callg g _=>decide (100000≤g)
 | _=>false
def ExtOp.soft:ExtOp→Bool
 | .entry=>false
 | _=>true
def soft:AOp→Bool
 | .lalloc _ | .lbox _ | .store _ _ _ | .copy _ _ _=>false
 | .ext k _=>k.soft
 | _=>true
def rn (bef:List Nat) (p:Nat) (ops:List AOper):List Nat :=
 if ops.any fun o=>makes o.op then (List.range ops.length).map fun x=>bef.getD (p+x) 0 >>> p else []
def splitSegs (bef:List Nat):Nat→List (Bool × Nat)→List AOper→Option (List Seg)
 | _,[],[]=>some []
 | _,[],_ :: _=>none
 | p,(q,n) :: r,ops=>if n≤ops.length then (splitSegs bef (p+n) r (ops.drop n)).map (⟨q,if q then rn bef p (ops.take n) else [],ops.take n⟩ :: ·) else none
def calm:AOp→Bool
 | .lalloc _ | .lbox _ | .store _ _ _ | .copy _ _ _=>false
 | .ext k _=>k.soft
 | _=>true
def maskOf (acc:List Nat) (o:Oper):Nat:=o.after.toList.foldl (fun s e=>if Region.binds .any e then s ||| 2 ^ e.on ||| acc.getD e.on 0 else s) 0
def befs:List Oper→List Nat→List Nat
 | [],acc=>acc
 | o :: r,acc=>befs r (acc++[maskOf acc o])
def waits (bef:List Nat) (p:Nat):Bool :=
 (List.range bef.length).all fun j=>j < p || (List.range p).all fun i=>(bef.getD j 0).testBit i
def apart (bef:List Nat) (i j:Nat) (oi oj:AOper):Bool :=
 match oj.dst with
 | some d =>
  (i == j || oi.dst != some d) &&
  (i == j || !(oi.reads.contains d) || (j < i && (bef.getD i 0).testBit j) || (i < j && (bef.getD j 0).testBit i))
 | none=>true
def apartV (V:List Nat) (bef:List Nat) (i j:Nat) (oi oj:AOper):Bool :=
 match oj.sets V with
 | some d=>i == j || ((oi.sets V != some d) && !(oi.reads.contains d)) || (j < i && (bef.getD i 0).testBit j) || (i < j && (bef.getD j 0).testBit i)
 | none=>true
def quietV (V:List Nat) (o:AOper):Bool:=match o.op with
 | .lalloc _=>true
 | .store _ (.tmp t) _=>V.contains t
 | _=>calm o.op
def quietSeg (bef:List Nat) (p n:Nat) (aZ:List AOper):Bool :=
 if newVars ((aZ.drop p).take n)=[] then
  ((List.range n).all fun x=>(List.range n).all fun y =>
   match aZ[p+x]?,aZ[p+y]? with
   | some oi,some oj=>apart bef (p+x) (p+y) oi oj
   | _,_=>false) &&
  ((List.range n).all fun x=>match aZ[p+x]? with | some o=>calm o.op && (rn bef p ((aZ.drop p).take n) == [] || soft o.op) | none=>false)
 else
  rn bef p ((aZ.drop p).take n) == [] &&
  ((List.range n).all fun x=>(List.range n).all fun y =>
   match aZ[p+x]?,aZ[p+y]? with
   | some oi,some oj=>apartV (newVars ((aZ.drop p).take n)) bef (p+x) (p+y) oi oj
   | _,_=>false) &&
  ((List.range n).all fun x=>match aZ[p+x]? with | some o=>quietV (newVars ((aZ.drop p).take n)) o | none=>false)
def segsOk (aZ:List AOper) (bef:List Nat):Nat→List (Bool × Nat)→Bool
 | p,[]=>p == aZ.length
 | p,(true,n) :: r =>
  waits bef p && decide (p+n≤aZ.length) && quietSeg bef p n aZ &&
  segsOk aZ bef (p+n) r
 | p,(false,n) :: r=>decide (p+n≤aZ.length) && ((List.range n).all fun x=>waits bef (p+x)) && segsOk aZ bef (p+n) r
def edgesBack (ops:Array Oper):Bool :=
 (List.range ops.size).all fun i=>match ops[i]? with
  | some o=>o.after.all fun e=>!Region.binds .any e || e.on < i
  | none=>true
def cRegion (E:Env) (nt:Nat) (segs:List (Bool × Nat)) (locs:List Nat) (ops:Array Oper) (draw:Bool):Option (List Seg) :=
 match ll E nt ops locs 0 ops.toList with
 | some aZ =>
  if draw then
   if edgesBack ops && segsOk aZ (befs ops.toList []) 0 segs then splitSegs (befs ops.toList []) 0 segs aZ else none
  else some [⟨false,[],aZ⟩]
 | none=>none
def co (E:Env) (nt:Nat) (inR:Bool):Hint→Code→Option ACode
 | .stuck,_=>some (.cond (.const (.str [])) .skip .skip)
 | .leaf,.skip=>some .skip
 | .leaf,.exit id=>some (.exit id)
 | .leaf,.ret=>some .ret
 | .reg segs locs,.region _ ops draw=>(cRegion E nt segs locs ops draw).map .region
 | .seq a b,.seq x y=>match co E nt inR a x,co E nt inR b y with
  | some x,some y=>some (.seq x y)
  | _,_=>none
 | .cond a b,.cond c x y=>match gq E c,co E nt inR a x,co E nt inR b y with
  | some c,some x,some y=>some (.cond c x y)
  | _,_,_=>none
 | .block a,.block id x=>(co E nt inR a x).map (.block id)
 | .loop a,.loop x=>(co E nt inR a x).map .loop
 | .rangeFunc g caps a b,.rangeFunc f ps x y=>match gq E f,co E nt true a x,co E nt true b y with
  | some f,some x,some y=>if inR=false∧(ps.all fun t=>decide (t < nt))=true then some (.rangeFunc f g caps ps.toList x y) else none
  | _,_,_=>none
 | .next,.region _ ops draw=>match ops.toList,draw with
  | ⟨dst,.next it false,_,_,_,none⟩ :: rest,false=>if (dst.all fun d=>decide (d < nt))=true then match gq E it,ll E nt ops [] 1 rest with
    | some x,some aZ=>some (.seq (.next dst x) (.region [⟨false,[],aZ⟩]))
    | _,_=>none
   else none
  | _,_=>none
 | .live l a,x=>(co E nt inR a x).map (.live l)
 | .after a l,x=>(co E nt inR a x).map (.after · l)
 | _,_=>none
def cRes (P:Program):ResultVar→Option ARes
 | .tmp t=>some (.tmp t)
 | .cell t ty=>(partT P ty).map (.cell t)
def cRess (P:Program):List ResultVar→Option (List ARes)
 | []=>some []
 | x :: r=>match cRes P x,cRess P r with
  | some a,some aZ=>some (a :: aZ)
  | _,_=>none
def uo (E:Env) (closed:Bool) (h:Hint) (f:Func):Option AFunc :=
 match f.body with
 | some c=>match co E f.ntmps false h c,cRess E.P f.results.toList with
  | some a,some rs =>
   if f.params.size+f.nfree≤f.ntmps∧f.name ≠ "runtime.NumGoroutine" then some ⟨closed,a.wild,f.params.size+f.nfree,f.ntmps,rs,a,none⟩ else none
  | _,_=>none
 | none=>none
end Go.Abs
