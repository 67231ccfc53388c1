/-
  Texts joined.
-/
import Derived.Test.YtjmnbfijplhkfaaDoorR0
import Derived.Test.YtjmnbfijplhkfaaDoorR7
import Derived.Test.YtjmnbfijplhkfaaDoorR6
set_option linter.unusedVariables false
set_option linter.unusedSimpArgs false
set_option maxRecDepth 100000
namespace Go.Abs.AbsHier
open Go.Abs.AbsDesc
variable {os O:List AObj} {b w:Nat} {N:Nat} {S:List (Str × Str)} {F M:List (Key × Mem)} {V:List (Key × Bool)}
def objectT:Str:=[79,98,106,101,99,116]
end Go.Abs.AbsHier

namespace Go.Abs
theorem rowOf0 {e:Nat} {h:Heap} {a:Option (Nat × Nat)} {c:Option Nat}:rowOf e h (.slice a 0 c)=some []:=by
 cases a with
 | none=>rfl
 | some p=>rfl
theorem rowOfC {e n:Nat} {h:Heap} {i:Nat} {cs:List AVal} {c:Option Nat} (hg:h.objs[i]? = some (.cells e cs)) (hn:cs.length=n*e):rowOf e h (.slice (some (i,0)) n c)=some cs:=by
 unfold rowOf
 simp only
 split
 ·rename_i h0
  subst h0
  rw [Nat.zero_mul] at hn
  rw [b6 hn]
 ·have hg':h.get i=some (.cells e cs):=hg
  rw [hg']
  simp only
  have h2:True∧0+n*e≤cs.length:=⟨trivial,by omega⟩
  rw [if_pos h2,List.drop_zero,← hn,List.take_length]
theorem dy (t:Nat):sget [] t=none:=by simp
theorem dz (t:Nat) (x:Slot) (r:Slots):sget ((t,x) :: r) t=some x:=by simp
theorem d7 (u t:Nat) (x:Slot) (r:Slots) (h:u≠t):sget ((u,x) :: r) t=sget r t:=by simp [h]
end Go.Abs

namespace Go.Abs.AbsHier
open Go.Abs.AbsDesc
variable {os O:List AObj} {b w:Nat} {N:Nat} {S:List (Str × Str)} {F M:List (Key × Mem)} {V:List (Key × Bool)}
def isS (S:List (Str × Str)) (c d:Str):Bool:=(lineS S S.length c).any fun x=>decide (x=d)
end Go.Abs.AbsHier

namespace Go.Abs.AbsHier
open Go.Abs.AbsDesc
variable {os O:List AObj} {b w:Nat} {N:Nat} {S:List (Str × Str)} {F M:List (Key × Mem)} {V:List (Key × Bool)}
end Go.Abs.AbsHier

namespace Go.Abs.AbsHier
open Go.Abs.AbsDesc
variable {os O:List AObj} {b w:Nat} {N:Nat} {S:List (Str × Str)} {F M:List (Key × Mem)} {V:List (Key × Bool)}
theorem gm {α:Type} {e:Nat} {f:α→List AVal} {L:List α} {a:Option (Nat × Nat)} (h:Row os e f L a) {i:Nat} {x:α} (hx:L[i]? = some x) :
  ∃ p o cs,a=some (p,o)∧os[p]? = some (.cells e cs)∧p < os.length∧o+i*e+e≤cs.length∧(cs.drop (o+i*e)).take e=f x:=by
 obtain ⟨p,o,cs,h1,h2,h3⟩:=h.at' (ne_of_get hx)
 exact ⟨p,o,cs,h1,h2,ah h2,h3 i x hx⟩
end Go.Abs.AbsHier

namespace Go.Abs.AbsHier
open Go.Abs.AbsDesc
variable {os O:List AObj} {b w:Nat} {N:Nat} {S:List (Str × Str)} {F M:List (Key × Mem)} {V:List (Key × Bool)}
end Go.Abs.AbsHier

namespace Go.Abs.AbsHier
open Go.Abs.AbsDesc
variable {os O:List AObj} {b w:Nat} {N:Nat} {S:List (Str × Str)} {F M:List (Key × Mem)} {V:List (Key × Bool)}
def trapOk (S:List (Str × Str)) (t:TrapU):Bool:=decide (t.cls=[]) || (getE S t.cls).isSome
end Go.Abs.AbsHier

namespace Go.Abs.AbsHier
open Go.Abs.AbsDesc
variable {os O:List AObj} {b w:Nat} {N:Nat} {S:List (Str × Str)} {F M:List (Key × Mem)} {V:List (Key × Bool)}
end Go.Abs.AbsHier

namespace Go.Abs.AbsHier
open Go.Abs.AbsDesc
variable {os O:List AObj} {b w:Nat} {N:Nat}
def sysT:Str:=[115,121,115]
def throwT:Str:=[84,104,114,111,119,97,98,108,101]
def natL:List (Str × Str):=[([112,114,105,110,116],[40,73,41,86]),([112,114,105,110,116,76,111,110,103],[40,74,41,86]),([112,114,105,110,116,84,101,120,116],[40,91,66,41,86]),([97,100,100],[40,91,66,41,73]),
 ([103,101,116],[40,73,41,91,66]),([115,101,116],[40,73,91,66,41,86]),([100,101,108],[40,73,41,86]),([99,111,117,110,116],[40,41,73])]
def builtV:List (Key × Bool):=natL.map fun x=>((sysT,x.1,x.2),true)
def wO (os:List AObj) (S:List (Str × Str)) (F M:List (Key × Mem)) (V:List (Key × Bool)):List AObj :=
 os++[.cells 4 [.map (some (os.length+1)),.map (some (os.length+2)),.map (some (os.length+3)),.map (some (os.length+4))],mObj .str .str S,mObj keyF memF F,mObj keyF memF M,mObj keyF .bool V]
end Go.Abs.AbsHier

namespace Go.Abs.AbsHier
open Go.Abs.AbsDesc
variable {os O:List AObj} {b w:Nat} {N:Nat} {S:List (Str × Str)} {F M:List (Key × Mem)} {V:List (Key × Bool)}
end Go.Abs.AbsHier

namespace Go.Abs.AbsHier
open Go.Abs.AbsDesc
variable {os O:List AObj} {b w:Nat} {N:Nat} {S:List (Str × Str)} {F M:List (Key × Mem)} {V:List (Key × Bool)}
def newV (N:Nat):Option (List (Str × Str) × List (Key × Mem) × List (Key × Mem))→AVal
 | none=>.tuple [.ptr none,.int .i64 15]
 | some _=>.tuple [.ptr (some (N,0)),.int .i64 0]
def newO (os:List AObj):Option (List (Str × Str) × List (Key × Mem) × List (Key × Mem))→List AObj
 | none=>os
 | some q=>wO os q.1 q.2.1 q.2.2 builtV
end Go.Abs.AbsHier

namespace Go.Abs.AbsMake
open Go.Abs.AbsDesc Go.Abs.AbsHier
variable {os O B:List AObj} {b w:Nat}
def tapeO (tv:AVal) (p:Nat):AObj:=.cells 2 [tv,.int .i64 p]
structure Tape (O:List AObj) (tN:Nat) (tb:List UInt8) (tv:AVal) (p:Nat):Prop where
 at':O[tN]? = some (tapeO tv p)
 le:p≤tb.length
 small:tb.length≤1000
structure TapeV (O:List AObj) (tN:Nat) (tb:List UInt8) (tv:AVal):Prop where
 row:∃ a c,tv = .slice a tb.length c∧Row O 1 byteCell tb a∧∀ i o,a=some (i,o)→i≠tN
theorem set_same {O:List AObj} {i:Nat} {o:AObj} (h:O[i]? = some o):O.set i o=O:=by
 refine ia fun j=>?_
 by_cases e:i=j
 ·subst e; rw [a9,if_pos rfl,if_pos (ah h),h]
 ·rw [al e]
section
attribute [-simp] getElem?_pos getElem?_neg List.all_eq_true
attribute [local simp] gz gs nltT nltF iltT iltF ileT nleT cf
theorem s102 {tN p:Nat} {tb:List UInt8} {tv:AVal} (ht:Tape O tN tb tv p) (hv:TapeV O tN tb tv) (hb:b≤tN) {n:Int} (hn:1≤n) (hn2:n≤1000) :
  ∃ (r p':Nat) (nx:Nat→Nat),(r:Int) < n∧p'≤tb.length∧((∀ w,nx w=w)∨(∀ w,nx w=min w tN))∧∀ w,xCall T 102 [.ptr (some (tN,0)),.int .i64 n] ⟨O,b,w⟩=some (.int .i64 r,⟨O.set tN (tapeO tv p'),b,nx w⟩):=by
 obtain ⟨a,c,rfl,hr,hd⟩:=hv.row
 have h0:=ht.at'
 have hle:=ht.le
 have hsm:=ht.small
 have hl:=ah h0
 unfold tapeO at h0
 by_cases c1:n < 2
 ·refine ⟨0,p,id,by omega,hle,.inl fun w=>rfl,fun w=>?_⟩
  rw [set_same ht.at']
  simp (disch:=omega) [az t102,code102,c1]
 ·by_cases c2:tb.length≤p
  ·refine ⟨0,p,id,by omega,hle,.inl fun w=>rfl,fun w=>?_⟩
   rw [set_same ht.at']
   simp (disch:=omega) [az t102,code102,c1,h0,c2]
  ·obtain ⟨x,hx⟩:∃ x,tb[p]? = some x:=⟨_,ak (by omega)⟩
   obtain ⟨q,o,cs,ha,hp,hpl,hcs,hcv⟩:=gm hr hx
   subst ha
   have hq:q≠tN:=hd q o rfl
   have hv2:cs[o+p]? = some (.int .u8 x.toNat):=by
    have hv':(List.drop (o+p*1) cs).take 1=[.int .u8 x.toNat]:=hcv
    have:=congrArg (fun z=>z[0]?) hv'
    simpa [List.getElem?_take,c9] using this
   have hxl:=x.toNat_lt
   have hm:((x.toNat:Int).tmod n).toNat < n:=by
    rw [jb (by omega)]
    have:=Int.emod_lt_of_pos (x.toNat:Int) (show 0 < n by omega)
    have:=Int.emod_nonneg (x.toNat:Int) (show n≠0 by omega)
    omega
   have hm2:(((x.toNat:Int).tmod n).toNat:Int)=(x.toNat:Int).tmod n:=by
    rw [jb (by omega)]
    have:=Int.emod_nonneg (x.toNat:Int) (show n≠0 by omega)
    omega
   have hp2:∀ y,(O.set tN y)[q]? = some (.cells 1 cs):=fun y=>by rw [al (Ne.symm hq)]; exact hp
   have ht2:∀ y,(O.set tN y)[tN]? = some y:=fun y=>by rw [a9,if_pos rfl,if_pos hl]
   have e2:((p+1:Nat):Int)=(p:Int)+1:=by omega
   have n0:¬ n=0:=by omega
   refine ⟨((x.toNat:Int).tmod n).toNat,p+1,fun w=>min w tN,hm,by omega,.inr fun w=>rfl,fun w=>?_⟩
   rw [hm2]
   unfold tapeO
   rw [e2]
   simp (disch:=omega) [az t102,code102,c1,h0,c2,hb,hp2,ht2,hv2,n0]
end
structure Own {α:Type} (O:List AObj) (N e:Nat) (f:α→List AVal) (L:List α) (p:Option (Nat × Nat)) (c:Option Nat):Prop where
 some:∀ i o,p=some (i,o)→o=0∧c=Option.none∧N < i∧O[i]? = some (.cells e (L.flatMap f))
 none:p=Option.none→L=[]∧c=Option.some 0
def classesT:List Str:=[[],throwT,[77,97,116,104,70,97,117,108,116],[79,111,112,115],[78,117,108,108,70,97,117,108,116]]
structure InsU.short (x:InsU):Prop where
 cls:x.cls.length≤100
 name:x.name.length≤100
 desc:x.desc.length≤100
 text:x.text.length≤100
structure Leaf (O:List AObj) (N:Nat) (pc pt px:Option (Nat × Nat)) (L:List Str) (a:Option (Nat × Nat)):Prop where
 row:Row O 1 strC L a
 len:L.length≤100
 short:∀ t ∈ L,t.length≤100
 at':∀ i o,a=some (i,o)→N < i∧i < O.length∧(∀ o',pc≠some (i,o'))∧(∀ o',pt≠some (i,o'))∧(∀ o',px≠some (i,o'))
def wrO (tN:Nat) (pc pt px:Option (Nat × Nat)) (cc ct cx:Option Nat) (n nt nx:Nat) (dep bud:Int):AObj :=
 .cells 6 [.ptr (some (tN,0)),.slice pc n cc,.slice pt nt ct,.slice px nx cx,.int .i64 dep,.int .i64 bud]
structure Wr (tN:Nat) (tb:List UInt8) (tv:AVal) (B O:List AObj) (pc pt px:Option (Nat × Nat)) (cc ct cx:Option Nat) (C:List InsU) (S:List TrapU) (M:List MapU) (dep bud:Int):Prop where
 keep:∀ i,i < B.length→i≠tN→O[i]? = B[i]?
 tape:∃ p,Tape O tN tb tv p
 tv:TapeV B tN tb tv
 lt:tN < B.length
 wr:O[B.length]? = some (wrO tN pc pt px cc ct cx C.length S.length M.length dep bud)
 c:Own O B.length 7 InsU.cells C pc cc
 s:Own O B.length 4 TrapU.cells S pt ct
 m:Own O B.length 3 MapU.cells M px cx
 cs:∀ i o o',pc=some (i,o)→pt≠some (i,o')
 cm:∀ i o o',pc=some (i,o)→px≠some (i,o')
 sm:∀ i o o',pt=some (i,o)→px≠some (i,o')
 cok:∀ x ∈ C,InsU.short x
 sok:∀ x ∈ S,x.cls ∈ classesT
 mok:∀ x ∈ M,Leaf O B.length pc pt px x.locals x.la∧Leaf O B.length pc pt px x.stack x.sa
structure Ws (tN:Nat) (tb:List UInt8) (tv:AVal) (B O:List AObj) (n k:Nat) (dep:Int):Prop where
 ex:∃ pc pt px cc ct cx C S M bud,Wr tN tb tv B O pc pt px cc ct cx C S M dep bud∧C.length=n∧n≤k∧S.length≤k∧M.length≤k
section
variable {tN:Nat} {tb:List UInt8} {tv:AVal} {pc pt px:Option (Nat × Nat)} {cc ct cx:Option Nat} {C:List InsU} {S:List TrapU} {M:List MapU} {dep bud:Int}
theorem Wr.len (h:Wr tN tb tv B O pc pt px cc ct cx C S M dep bud):B.length < O.length:=ah h.wr
theorem Leaf.app {N:Nat} {L:List Str} {a:Option (Nat × Nat)} (h:Leaf O N pc pt px L a) (X:List AObj):Leaf (O++X) N pc pt px L a :=
 ⟨(Pre.app O X).row h.row,h.len,h.short,fun i o e=>by
  obtain ⟨h1,h2,h3⟩:=h.at' i o e
  exact ⟨h1,by rw [bc]; omega,h3⟩⟩
theorem Leaf.set {N j:Nat} {L:List Str} {a:Option (Nat × Nat)} {y:AObj} (h:Leaf O N pc pt px L a) (hj:∀ o,a≠some (j,o)):Leaf (O.set j y) N pc pt px L a :=
 ⟨⟨fun hne=>by
  obtain ⟨i,o,cs,h1,h2,h3⟩:=h.row.at' hne
  exact ⟨i,o,cs,h1,by rw [al (fun e=>hj o (by rw [e]; exact h1))]; exact h2,h3⟩⟩,h.len,h.short,fun i o e=>by
  obtain ⟨h1,h2,h3⟩:=h.at' i o e
  exact ⟨h1,by simpa using h2,h3⟩⟩
theorem Leaf.npc {N:Nat} {L:List Str} {a:Option (Nat × Nat)} {q:Nat} (h:Leaf O N pc pt px L a) (hq:∀ i o,a=some (i,o)→i < q):Leaf O N (some (q,0)) pt px L a :=
 ⟨h.row,h.len,h.short,fun i o e=>by
  obtain ⟨h1,h2,h3,h4,h5⟩:=h.at' i o e
  exact ⟨h1,h2,fun o' e'=>by have:=hq i o e; simp only [ap,bt] at e'; omega,h4,h5⟩⟩
theorem Leaf.npt {N:Nat} {L:List Str} {a:Option (Nat × Nat)} {q:Nat} (h:Leaf O N pc pt px L a) (hq:∀ i o,a=some (i,o)→i < q):Leaf O N pc (some (q,0)) px L a :=
 ⟨h.row,h.len,h.short,fun i o e=>by
  obtain ⟨h1,h2,h3,h4,h5⟩:=h.at' i o e
  exact ⟨h1,h2,h3,fun o' e'=>by have:=hq i o e; simp only [ap,bt] at e'; omega,h5⟩⟩
theorem Leaf.npx {N:Nat} {L:List Str} {a:Option (Nat × Nat)} {q:Nat} (h:Leaf O N pc pt px L a) (hq:∀ i o,a=some (i,o)→i < q):Leaf O N pc pt (some (q,0)) L a :=
 ⟨h.row,h.len,h.short,fun i o e=>by
  obtain ⟨h1,h2,h3,h4,h5⟩:=h.at' i o e
  exact ⟨h1,h2,h3,h4,fun o' e'=>by have:=hq i o e; simp only [ap,bt] at e'; omega⟩⟩
def killO:Option (Nat × Nat)→List AObj→List AObj
 | none,O=>O
 | some (i,_),O=>O.set i .dead
def killW:Option (Nat × Nat)→Nat→Nat
 | none,w=>w
 | some (i,_),w=>min w i
@[simp] theorem killO_len (p:Option (Nat × Nat)) (O:List AObj):(killO p O).length=O.length:=by
 cases p with
 | none=>rfl
 | some q=>obtain ⟨i,o⟩:=q; simp [killO]
theorem killW_le (p:Option (Nat × Nat)) (w:Nat):killW p w≤w:=by
 cases p with
 | none=>exact aj _
 | some q=>obtain ⟨i,o⟩:=q; exact eq ..
theorem app_own {α:Type} {e by':Nat} {f:α→List AVal} {L:List α} {p:Option (Nat × Nat)} {c:Option Nat} {N:Nat} {x:α} (hf:∀ y,(f y).length=e) (h:Own O N e f L p c) (hb:b≤N) (hl:(L.length+1)*by'≤140737488355328) (hl2:L.length≤1000000) (X:List AObj) (w:Nat) :
  aAppend e by' ⟨O++(X++[.cells e (f x)]),b,w⟩ (.slice p L.length c) (.slice (some (O.length+X.length,0)) 1 (some 1)) =
   some (.slice (some (O.length+X.length+1,0)) (L.length+1) none,⟨killO p O++(X++[.cells e (f x),.cells e ((L++[x]).flatMap f)]),b,killW p w⟩):=by
 have hfl:(L.flatMap f).length=L.length*e:=flat_len f e hf L
 have hz:rowOf e ⟨O++(X++[.cells e (f x)]),b,w⟩ (.slice (some (O.length+X.length,0)) 1 (some 1))=some (f x) :=
  rowOfC (by show (O++(X++[AObj.cells e (f x)]))[O.length+X.length]? = _; rw [f0,dh]; rfl) (by rw [hf,Nat.one_mul])
 have hs:(O++(X++[AObj.cells e (f x)])).length=O.length+X.length+1:=by simp; omega
 have he:(L++[x]).flatMap f=L.flatMap f++f x:=by simp
 cases p with
 | none =>
  obtain ⟨rfl,rfl⟩:=h.none rfl
  unfold aAppend
  simp only [hz,a7,rowOf0,aApp,alen]
  have q1:¬ (1:Nat)=0:=by decide
  have q2:(0+1)*by'≤140737488355328∧0+1≤9223372036854775807:=⟨by simpa using hl,by decide⟩
  simp only [eq_false q1,eq_true q2,if_false,if_true]
  simp [Heap.push,Heap.size,killO,killW]
  omega
 | some q =>
  obtain ⟨i,o⟩:=q
  obtain ⟨rfl,rfl,h3,h4⟩:=h.some i o rfl
  have hi:=ah h4
  have h5:(O++(X++[AObj.cells e (f x)]))[i]? = some (.cells e (L.flatMap f)):=by rw [ag hi]; exact h4
  have hz1:rowOf e ⟨O++(X++[.cells e (f x)]),b,w⟩ (.slice (some (i,0)) L.length none)=some (L.flatMap f):=rowOfC h5 hfl
  have hr:rowIs ⟨O++(X++[.cells e (f x)]),b,w⟩ i e=true:=by
   unfold rowIs Heap.get
   simp only [h5]
   simp
  unfold aAppend
  simp only [hz,hz1,aApp,alen]
  have q1:¬ (1:Nat)=0:=by decide
  have q2:(L.length+1)*by'≤140737488355328∧L.length+1≤9223372036854775807:=⟨hl,by omega⟩
  have q3:¬ (none:Option Nat)=some L.length:=by simp
  have q4:(⟨O++(X++[AObj.cells e (f x)]),b,w⟩:Heap).base≤i∧rowIs ⟨O++(X++[AObj.cells e (f x)]),b,w⟩ i e=true:=⟨by show b≤i; omega,hr⟩
  simp only [eq_false q1,eq_true q2,eq_false q3,eq_true q4,if_false,if_true]
  simp only [Heap.push,Heap.put,Heap.size,killO,killW,List.set_append_left _ _ hi,fw,hs,he,bh,b9,b0,bc,bp,a7]
end
end Go.Abs.AbsMake

namespace Go.Abs.AbsMake
open Go.Abs.AbsDesc Go.Abs.AbsHier
variable {os O B:List AObj} {b w:Nat} {tN:Nat} {tb:List UInt8} {tv:AVal} {pc pt px:Option (Nat × Nat)} {cc ct cx:Option Nat} {C:List InsU} {S:List TrapU} {M:List MapU} {dep bud:Int}
section
variable {α:Type} {N e:Nat} {f:α→List AVal} {L:List α} {p:Option (Nat × Nat)} {c:Option Nat}
theorem Own.app (h:Own O N e f L p c) (X:List AObj):Own (O++X) N e f L p c :=
 ⟨fun i o hp=>by
  obtain ⟨h1,h2,h3,h4⟩:=h.some i o hp
  exact ⟨h1,h2,h3,by rw [ag (ah h4)]; exact h4⟩,h.none⟩
theorem Own.set (h:Own O N e f L p c) {j:Nat} (y:AObj) (hj:∀ o,p≠Option.some (j,o)):Own (O.set j y) N e f L p c :=
 ⟨fun i o hp=>by
  obtain ⟨h1,h2,h3,h4⟩:=h.some i o hp
  exact ⟨h1,h2,h3,by rw [al (fun e=>hj o (by rw [e]; exact hp))]; exact h4⟩,h.none⟩
theorem Own.kill (h:Own O N e f L p c) {q:Option (Nat × Nat)} (hq:∀ i o o',q=Option.some (i,o)→p≠Option.some (i,o')):Own (killO q O) N e f L p c:=by
 cases q with
 | none=>exact h
 | some r=>obtain ⟨i,o⟩:=r; exact h.set _ fun o'=>hq i o o' rfl
theorem Leaf.kill {L:List Str} {a:Option (Nat × Nat)} (h:Leaf O N pc pt px L a) {q:Option (Nat × Nat)} (hq:∀ i o o',q=some (i,o)→a≠some (i,o')):Leaf (killO q O) N pc pt px L a:=by
 cases q with
 | none=>exact h
 | some r=>obtain ⟨i,o⟩:=r; exact h.set fun o'=>hq i o o' rfl
theorem kill_get {q:Option (Nat × Nat)} {i:Nat} (hq:∀ o,q≠some (i,o)):(killO q O)[i]? = O[i]?:=by
 cases q with
 | none=>rfl
 | some r=>obtain ⟨j,o⟩:=r; exact al fun e=>hq o (by rw [e])
end
theorem Wr.setW (h:Wr tN tb tv B O pc pt px cc ct cx C S M dep bud) (dep' bud':Int):Wr tN tb tv B (O.set B.length (wrO tN pc pt px cc ct cx C.length S.length M.length dep' bud')) pc pt px cc ct cx C S M dep' bud' where
 keep:=fun i hi ht=>by rw [al (by omega)]; exact h.keep i hi ht
 tape:=by
  obtain ⟨p,h1⟩:=h.tape
  exact ⟨p,by rw [al (by have:=h.lt; omega)]; exact h1.at',h1.le,h1.small⟩
 tv:=h.tv
 lt:=h.lt
 wr:=by rw [a9,if_pos rfl,if_pos h.len]
 c:=h.c.set _ fun o e=>by have:=(h.c.some _ _ e).2.2.1; omega
 s:=h.s.set _ fun o e=>by have:=(h.s.some _ _ e).2.2.1; omega
 m:=h.m.set _ fun o e=>by have:=(h.m.some _ _ e).2.2.1; omega
 cs:=h.cs
 cm:=h.cm
 sm:=h.sm
 cok:=h.cok
 sok:=h.sok
 mok:=fun x hx=>⟨(h.mok x hx).1.set fun o e=>by have:=((h.mok x hx).1.at' _ _ e).1; omega,(h.mok x hx).2.set fun o e=>by have:=((h.mok x hx).2.at' _ _ e).1; omega⟩
theorem Wr.setT (h:Wr tN tb tv B O pc pt px cc ct cx C S M dep bud) {p:Nat} (hp:p≤tb.length):Wr tN tb tv B (O.set tN (tapeO tv p)) pc pt px cc ct cx C S M dep bud where
 keep:=fun i hi ht=>by rw [al (by omega)]; exact h.keep i hi ht
 tape:=by
  obtain ⟨q,h1⟩:=h.tape
  exact ⟨p,by rw [a9,if_pos rfl,if_pos (by have:=h.lt; have:=h.len; omega)],hp,h1.small⟩
 tv:=h.tv
 lt:=h.lt
 wr:=by rw [al (by have:=h.lt; omega)]; exact h.wr
 c:=h.c.set _ fun o e=>by have:=(h.c.some _ _ e).2.2.1; have:=h.lt; omega
 s:=h.s.set _ fun o e=>by have:=(h.s.some _ _ e).2.2.1; have:=h.lt; omega
 m:=h.m.set _ fun o e=>by have:=(h.m.some _ _ e).2.2.1; have:=h.lt; omega
 cs:=h.cs
 cm:=h.cm
 sm:=h.sm
 cok:=h.cok
 sok:=h.sok
 mok:=fun x hx=>⟨(h.mok x hx).1.set fun o e=>by have:=((h.mok x hx).1.at' _ _ e).1; have:=h.lt; omega,(h.mok x hx).2.set fun o e=>by have:=((h.mok x hx).2.at' _ _ e).1; have:=h.lt; omega⟩
theorem Wr.app (h:Wr tN tb tv B O pc pt px cc ct cx C S M dep bud) (X:List AObj):Wr tN tb tv B (O++X) pc pt px cc ct cx C S M dep bud where
 keep:=fun i hi ht=>by have:=h.len; rw [ag (by omega)]; exact h.keep i hi ht
 tape:=by
  obtain ⟨p,h1⟩:=h.tape
  exact ⟨p,by rw [ag (ah h1.at')]; exact h1.at',h1.le,h1.small⟩
 tv:=h.tv
 lt:=h.lt
 wr:=by rw [ag h.len]; exact h.wr
 c:=h.c.app X
 s:=h.s.app X
 m:=h.m.app X
 cs:=h.cs
 cm:=h.cm
 sm:=h.sm
 cok:=h.cok
 sok:=h.sok
 mok:=fun x hx=>⟨(h.mok x hx).1.app X,(h.mok x hx).2.app X⟩
theorem Wr.addC (h:Wr tN tb tv B O pc pt px cc ct cx C S M dep bud) {x:InsU} (hx:InsU.short x) (X:List AObj) :
  Wr tN tb tv B ((killO pc O++(X++[AObj.cells 7 x.cells,AObj.cells 7 ((C++[x]).flatMap InsU.cells)])).set B.length (wrO tN (some (O.length+X.length+1,0)) pt px none ct cx (C.length+1) S.length M.length dep bud)) (some (O.length+X.length+1,0)) pt px none ct cx (C++[x]) S M dep bud:=by
 have hl:=h.len
 have hlt:=h.lt
 have hN:∀ o,pc≠some (B.length,o):=fun o e=>by have:=(h.c.some _ _ e).2.2.1; omega
 have hw:∀ Y,(killO pc O++Y)[B.length]? = some (wrO tN pc pt px cc ct cx C.length S.length M.length dep bud):=fun Y=>by
  rw [ag (by simpa using hl),kill_get hN]; exact h.wr
 have hlen:((killO pc O)++(X++[AObj.cells 7 x.cells,AObj.cells 7 ((C++[x]).flatMap InsU.cells)])).length=O.length+X.length+2:=by simp; omega
 constructor
 ·intro i hi ht
  rw [al (by omega),ag (by simp; omega),kill_get fun o e=>by have:=(h.c.some _ _ e).2.2.1; omega]
  exact h.keep i hi ht
 ·obtain ⟨p,h1⟩:=h.tape
  exact ⟨p,by
   rw [al (by omega),ag (by simp; omega),kill_get fun o e=>by have:=(h.c.some _ _ e).2.2.1; omega]
   exact h1.at',h1.le,h1.small⟩
 ·exact h.tv
 ·exact h.lt
 ·rw [a9,if_pos rfl,if_pos (by omega)]
  simp
 ·refine ⟨fun i o e=>?_,fun e=>by cases e⟩
  simp only [ap,bt] at e
  obtain ⟨rfl,rfl⟩:=e
  refine ⟨rfl,rfl,by omega,?_⟩
  rw [al (by omega),ai (by simp; omega)]
  have:O.length+X.length+1 - (killO pc O).length=X.length+1:=by simp; omega
  rw [this,f0]; rfl
 ·exact ((h.s.kill fun i o o' e=>h.cs i o o' e).app _).set _ fun o e=>by have:=(h.s.some _ _ e).2.2.1; omega
 ·exact ((h.m.kill fun i o o' e=>h.cm i o o' e).app _).set _ fun o e=>by have:=(h.m.some _ _ e).2.2.1; omega
 ·intro i o o' e e'
  have:=ah (h.s.some _ _ e').2.2.2
  simp only [ap,bt] at e
  omega
 ·intro i o o' e e'
  have:=ah (h.m.some _ _ e').2.2.2
  simp only [ap,bt] at e
  omega
 ·exact h.sm
 ·intro y hy
  rcases bf.1 hy with hy | hy
  ·exact h.cok y hy
  ·rw [bo.1 hy]; exact hx
 ·exact h.sok
 ·intro y hy
  obtain ⟨h1,h2⟩:=h.mok y hy
  have go:∀ {L:List Str} {a:Option (Nat × Nat)},Leaf O B.length pc pt px L a→Leaf ((killO pc O++(X++[AObj.cells 7 x.cells,AObj.cells 7 ((C++[x]).flatMap InsU.cells)])).set B.length (wrO tN (some (O.length+X.length+1,0)) pt px none ct cx (C.length+1) S.length M.length dep bud)) B.length (some (O.length+X.length+1,0)) pt px L a:=fun hL =>
   (((hL.kill fun i o o' e e'=>(hL.at' _ _ e').2.2.1 _ e).app _).set fun o e=>by have:=(hL.at' _ _ e).1; omega).npc fun i o e=>by have:=(hL.at' _ _ e).2.1; omega
  exact ⟨go h1,go h2⟩
end Go.Abs.AbsMake

namespace Go.Abs.AbsMake
open Go.Abs.AbsDesc Go.Abs.AbsHier
variable {os O B:List AObj} {b w:Nat} {tN:Nat} {tb:List UInt8} {tv:AVal} {n k:Nat} {dep:Int}
def Did (tN:Nat) (tb:List UInt8) (tv:AVal) (B:List AObj) (b:Nat) (g:Nat) (args:List AVal) (v:AVal) (O:List AObj) (P:List AObj→Prop):Prop :=
 ∃ O' m,P O'∧tN≤m∧m≤B.length∧∀ w,xCall T g args ⟨O,b,w⟩=some (v,⟨O',b,min w m⟩)
theorem Ws.code (h:Ws tN tb tv B O n k dep) (hb:b≤tN) (hk:k≤100000) {x:InsU} (hx:InsU.short x) :
  ∃ pc pt px cc ct cx nt nx bud cs,O[B.length]? = some (.cells 6 [.ptr (some (tN,0)),.slice pc n cc,.slice pt nt ct,.slice px nx cx,.int .i64 dep,.int .i64 bud])∧tN < B.length∧B.length < O.length∧(∀ w,w≤B.length→killW pc w=w)∧(∀ w,B.length≤w→B.length≤killW pc w) ∧
   (killO pc O)[B.length]? = some (.cells 6 [.ptr (some (tN,0)),.slice pc n cc,.slice pt nt ct,.slice px nx cx,.int .i64 dep,.int .i64 bud]) ∧
   (∀ w,aAppend 7 88 ⟨O++[AObj.cells 7 x.cells],b,w⟩ (.slice pc n cc) (.slice (some (O.length,0)) 1 (some 1))=some (.slice (some (O.length+1,0)) (n+1) none,⟨killO pc O++[AObj.cells 7 x.cells,AObj.cells 7 cs],b,killW pc w⟩)) ∧
   Ws tN tb tv B ((killO pc O++[AObj.cells 7 x.cells,AObj.cells 7 cs]).set B.length (.cells 6 [.ptr (some (tN,0)),.slice (some (O.length+1,0)) (n+1) none,.slice pt nt ct,.slice px nx cx,.int .i64 dep,.int .i64 bud])) (n+1) (k+1) dep:=by
 obtain ⟨pc,pt,px,cc,ct,cx,C,S,M,bud,hW,rfl,h2,h3,h4⟩:=h.ex
 have h1:=app_own (b:=b) (by':=88) (x:=x) (f:=InsU.cells) (fun _=>rfl) hW.c (by have:=hW.lt; omega) (by omega) (by omega) []
 have h5:=hW.addC hx []
 simp only [b0,a7,fm] at h1 h5
 refine ⟨pc,pt,px,cc,ct,cx,S.length,M.length,bud,_,hW.wr,hW.lt,hW.len,fun w hw=>?_,fun w hw=>?_,?_,h1,⟨_,_,_,_,_,_,_,_,_,_,h5,by simp,by omega,by omega,by omega⟩⟩
 ·cases pc with
  | none=>rfl
  | some q=>obtain ⟨i,o⟩:=q; have:=(hW.c.some _ _ rfl).2.2.1; simp only [killW]; omega
 ·cases pc with
  | none=>exact hw
  | some q=>obtain ⟨i,o⟩:=q; have:=(hW.c.some _ _ rfl).2.2.1; simp only [killW]; omega
 ·rw [kill_get fun o e=>by have:=(hW.c.some _ _ e).2.2.1; omega]; exact hW.wr
section
attribute [-simp] getElem?_pos getElem?_neg List.all_eq_true
attribute [local simp] gz gs nltT nltF iltT iltF ileT nleT cf
theorem s150 (h:Ws tN tb tv B O n k dep) (hb:b≤tN) (hk:k≤100000) {op nn:Int} :
  Did tN tb tv B b 150 [.ptr (some (B.length,0)),.int .u8 op,.int .i64 nn] (.tuple []) O fun O'=>Ws tN tb tv B O' (n+1) (k+1) dep:=by
 obtain ⟨pc,pt,px,cc,ct,cx,nt,nx,bud,cs,h1,h2,h3,h4,h5,h6,h7,h8⟩:=h.code (x:=⟨op,nn,0,[],[],[],[]⟩) hb hk ⟨by simp,by simp,by simp,by simp⟩
 refine ⟨_,B.length,h8,by omega,aj _,fun w=>?_⟩
 have hkw:=h5 O.length (by omega)
 have h9:∀ X,(killO pc O++X)[B.length]? = _:=fun X=>(ag (l₂:=X) (by simpa using h3)).trans h6
 simp only [InsU.cells] at h7
 simp (disch:=omega) [az t150,code150,-aAppend,h1,h7,h6,h9,hkw,InsU.cells]
theorem s154 (h:Ws tN tb tv B O n k dep) (hb:b≤tN) (hk:k≤100000) {op:Int} {c m d:Str} (hc:c.length≤100) (hm:m.length≤100) (hd:d.length≤100) :
  Did tN tb tv B b 154 [.ptr (some (B.length,0)),.int .u8 op,.str c,.str m,.str d] (.tuple []) O fun O'=>Ws tN tb tv B O' (n+1) (k+1) dep:=by
 obtain ⟨pc,pt,px,cc,ct,cx,nt,nx,bud,cs,h1,h2,h3,h4,h5,h6,h7,h8⟩:=h.code (x:=⟨op,0,0,c,m,d,[]⟩) hb hk ⟨hc,hm,hd,by simp⟩
 refine ⟨_,B.length,h8,by omega,aj _,fun w=>?_⟩
 have hkw:=h5 O.length (by omega)
 have h9:∀ X,(killO pc O++X)[B.length]? = _:=fun X=>(ag (l₂:=X) (by simpa using h3)).trans h6
 simp only [InsU.cells] at h7
 simp (disch:=omega) [az t154,code154,-aAppend,h1,h7,h6,h9,hkw,InsU.cells]
end
theorem Ws.len (h:Ws tN tb tv B O n k dep):tN < B.length∧B.length < O.length:=by
 obtain ⟨_,_,_,_,_,_,_,_,_,_,hW,_⟩:=h.ex
 exact ⟨hW.lt,hW.len⟩
theorem Ws.app (h:Ws tN tb tv B O n k dep) (X:List AObj):Ws tN tb tv B (O++X) n k dep:=by
 obtain ⟨_,_,_,_,_,_,_,_,_,_,hW,h1⟩:=h.ex
 exact ⟨_,_,_,_,_,_,_,_,_,_,hW.app X,h1⟩
theorem Ws.le (h:Ws tN tb tv B O n k dep) {k':Nat} (hk:k≤k'):Ws tN tb tv B O n k' dep:=by
 obtain ⟨_,_,_,_,_,_,_,_,_,_,hW,h1,h2,h3,h4⟩:=h.ex
 exact ⟨_,_,_,_,_,_,_,_,_,_,hW,h1,by omega,by omega,by omega⟩
theorem Ws.at' (h:Ws tN tb tv B O n k dep):∃ pc pt px cc ct cx nt nx bud,O[B.length]? = some (.cells 6 [.ptr (some (tN,0)),.slice pc n cc,.slice pt nt ct,.slice px nx cx,.int .i64 dep,.int .i64 bud]) ∧
  ∀ dep' bud',Ws tN tb tv B (O.set B.length (.cells 6 [.ptr (some (tN,0)),.slice pc n cc,.slice pt nt ct,.slice px nx cx,.int .i64 dep',.int .i64 bud'])) n k dep':=by
 obtain ⟨pc,pt,px,cc,ct,cx,C,S,M,bud,hW,rfl,h2,h3,h4⟩:=h.ex
 exact ⟨pc,pt,px,cc,ct,cx,S.length,M.length,bud,hW.wr,fun dep' bud'=>⟨_,_,_,_,_,_,_,_,_,_,hW.setW dep' bud',rfl,h2,h3,h4⟩⟩
theorem Ws.next (h:Ws tN tb tv B O n k dep) (hb:b≤tN) {x:Int} (hx:1≤x) (hx2:x≤1000) :
  ∃ (r:Nat) (O':List AObj) (nx:Nat→Nat),(r:Int) < x∧Ws tN tb tv B O' n k dep∧O'.length=O.length∧(∀ i,i≠tN→O'[i]? = O[i]?)∧((∀ w,nx w=w)∨(∀ w,nx w=min w tN))∧∀ w,xCall T 102 [.ptr (some (tN,0)),.int .i64 x] ⟨O,b,w⟩=some (.int .i64 r,⟨O',b,nx w⟩):=by
 obtain ⟨pc,pt,px,cc,ct,cx,C,S,M,bud,hW,h1⟩:=h.ex
 obtain ⟨p,hp⟩:=hW.tape
 have hv:TapeV O tN tb tv:=by
  obtain ⟨a,c,e,hr,hd⟩:=hW.tv.row
  refine ⟨a,c,e,⟨fun hne=>?_⟩,hd⟩
  obtain ⟨i,o,cs,e1,e2,e3⟩:=hr.at' hne
  exact ⟨i,o,cs,e1,by rw [hW.keep i (ah e2) (hd i o e1)]; exact e2,e3⟩
 obtain ⟨r,p',nx,q1,q2,q3,q4⟩:=s102 hp hv hb hx hx2
 exact ⟨r,_,nx,q1,⟨_,_,_,_,_,_,_,_,_,_,hW.setT q2,h1⟩,by simp,fun i hi=>al (Ne.symm hi),q3,q4⟩
theorem nx_min {nx:Nat→Nat} (hx:(∀ w,nx w=w)∨(∀ w,nx w=min w tN)) {m:Nat} (hm:tN≤m):∃ m',tN≤m'∧m'≤m∧∀ w,min (nx w) m=min w m':=by
 rcases hx with h | h
 ·exact ⟨m,hm,aj _,fun w=>by rw [h]⟩
 ·exact ⟨tN,aj _,hm,fun w=>by rw [h]; omega⟩
theorem nx_le {nx:Nat→Nat} (hx:(∀ w,nx w=w)∨(∀ w,nx w=min w tN)) (w:Nat):nx w≤w:=by
 rcases hx with h | h
 ·rw [h]; exact aj _
 ·rw [h]; exact eq ..
section
attribute [-simp] getElem?_pos getElem?_neg List.all_eq_true
attribute [local simp] gz gs nltT nltF iltT iltF ileT nleT cf
theorem s153 (h:Ws tN tb tv B O n k dep) (hb:b≤tN) (hk:k≤100000) {x:Int} (hx:-100≤x) (hx2:x≤200) :
  Did tN tb tv B b 153 [.ptr (some (B.length,0)),.int .i64 x] (.tuple []) O fun O'=>Ws tN tb tv B O' (n+1) (k+1) dep:=by
 obtain ⟨_,hBO⟩:=h.len
 have c5:-128≤x:=by omega
 have c6:-32768≤x:=by omega
 have c7:x < 32768:=by omega
 have c8:IntKind.i64.wrap (3+x)=3+x:=cf (by omega)
 by_cases c3:-1≤x∧x≤5
 ·obtain ⟨c1,c2⟩:=c3
  obtain ⟨O1,m1,p1,l1,u1,e1⟩:=s150 h hb hk (op:=IntKind.u8.wrap (3+x)) (nn:=0)
  refine ⟨O1,m1,p1,l1,u1,fun w=>?_⟩
  simp (disch:=omega) [az t153,code153,e1,c1,c2,c8]
 ·by_cases c4:x < 128
  ·obtain ⟨O1,m1,p1,l1,u1,e1⟩:=s150 h hb hk (op:=16) (nn:=x)
   refine ⟨O1,m1,p1,l1,u1,fun w=>?_⟩
   by_cases c1:-1≤x
   ·have c2:¬ x≤5:=fun e=>c3 ⟨c1,e⟩
    simp (disch:=omega) [az t153,code153,e1,c1,c2,c4,c5]
   ·simp (disch:=omega) [az t153,code153,e1,c1,c4,c5]
  ·obtain ⟨O1,m1,p1,l1,u1,e1⟩:=s150 h hb hk (op:=17) (nn:=x)
   refine ⟨O1,m1,p1,l1,u1,fun w=>?_⟩
   have c1:-1≤x:=by omega
   have c2:¬ x≤5:=by omega
   simp (disch:=omega) [az t153,code153,e1,c1,c2,c4,c5,c6,c7]
end
theorem bytes_get (L:List Int) {r:Nat} (hr:r < L.length):∃ y,(L.map (AVal.int .u8))[r]? = some (.int .u8 y):=by
 rw [co,ak hr]
 exact ⟨_,rfl⟩
def KK:Nat→Nat
 | 0=>2
 | d+1=>2*KK d+1
def Expr (tN:Nat) (tb:List UInt8) (tv:AVal) (B:List AObj) (b:Nat) (dep:Int) (g:Nat) (x:Int) (j:Nat):Prop :=
 ∀ (O:List AObj) (n k:Nat),Ws tN tb tv B O n k dep→k+j≤100000→Did tN tb tv B b g [.ptr (some (B.length,0)),.int .i64 x] (.tuple []) O fun O'=>∃ n',n≤n'∧Ws tN tb tv B O' n' (k+j) dep
def acts151:List Int:=[96,100,104,108,126,130,120,112,128,124]
theorem Ws.put (h:Ws tN tb tv B O n k dep) (hb:b≤tN) (hk:k≤100000) {x:InsU} (hx:InsU.short x) :
  ∃ pc pt px cc ct cx nt nx bud cs,O[B.length]? = some (.cells 6 [.ptr (some (tN,0)),.slice pc n cc,.slice pt nt ct,.slice px nx cx,.int .i64 dep,.int .i64 bud]) ∧
   (killO pc O)[B.length]? = some (.cells 6 [.ptr (some (tN,0)),.slice pc n cc,.slice pt nt ct,.slice px nx cx,.int .i64 dep,.int .i64 bud]) ∧
   (∀ X,(killO pc O++X)[B.length]? = some (.cells 6 [.ptr (some (tN,0)),.slice pc n cc,.slice pt nt ct,.slice px nx cx,.int .i64 dep,.int .i64 bud])) ∧
   (∀ w,aAppend 7 88 ⟨O++[AObj.cells 7 x.cells],b,w⟩ (.slice pc n cc) (.slice (some (O.length,0)) 1 (some 1))=some (.slice (some (O.length+1,0)) (n+1) none,⟨killO pc O++[AObj.cells 7 x.cells,AObj.cells 7 cs],b,killW pc w⟩)) ∧
   (∀ w,min (killW pc w) B.length=min w B.length)∧(∀ w,B.length≤w→B.length≤killW pc w)∧(∀ w,killW pc w≤w) ∧
   Ws tN tb tv B ((killO pc O++[AObj.cells 7 x.cells,AObj.cells 7 cs]).set B.length (.cells 6 [.ptr (some (tN,0)),.slice (some (O.length+1,0)) (n+1) none,.slice pt nt ct,.slice px nx cx,.int .i64 dep,.int .i64 bud])) (n+1) (k+1) dep:=by
 obtain ⟨pc,pt,px,cc,ct,cx,nt,nx,bud,cs,h1,h2,h3,h4,h5,h6,h7,h8⟩:=h.code (b:=b) (x:=x) hb hk hx
 exact ⟨pc,pt,px,cc,ct,cx,nt,nx,bud,cs,h1,h6,fun X=>(ag (l₂:=X) (by simpa using h3)).trans h6,h7,fun w=>by
  rcases Nat.le_total w B.length with q | q
  ·rw [h4 w q]
  ·have:=h5 w q; omega,h5,killW_le pc,h8⟩
theorem Ws.lows (h:Ws tN tb tv B O n k dep) {t d bd:AVal} {n' nt nx:Nat} {pc pt px:Option (Nat × Nat)} {cc ct cx:Option Nat} (h1:O[B.length]? = some (.cells 6 [t,.slice pc n' cc,.slice pt nt ct,.slice px nx cx,d,bd])) :
  (∀ i o,pc=some (i,o)→i < O.length∧B.length < i)∧(∀ i o,pt=some (i,o)→i < O.length∧B.length < i)∧(∀ i o,px=some (i,o)→i < O.length∧B.length < i):=by
 obtain ⟨_,_,_,_,_,_,_,_,_,_,hW,_⟩:=h.ex
 have e:=hW.wr.symm.trans h1
 simp only [wrO,ap,AObj.cells.injEq,eb,AVal.slice.injEq,true_and,and_true] at e
 obtain ⟨_,⟨e1,_⟩,⟨e2,_⟩,⟨e3,_⟩,_⟩:=e
 subst e1 e2 e3
 exact ⟨fun i o e=>⟨ah (hW.c.some i o e).2.2.2,(hW.c.some i o e).2.2.1⟩,fun i o e=>⟨ah (hW.s.some i o e).2.2.2,(hW.s.some i o e).2.2.1⟩,fun i o e=>⟨ah (hW.m.some i o e).2.2.2,(hW.m.some i o e).2.2.1⟩⟩
theorem ids_ins:∀ C:List InsU,AVal.idsL (C.flatMap InsU.cells)=[]
 | []=>rfl
 | x :: C=>by rw [cg,idsL_app,ids_ins C]; simp [InsU.cells,AVal.idsL,AVal.ids]
theorem Ws.codeIds (h:Ws tN tb tv B O n k dep) {t d bd:AVal} {n' nt nx q o:Nat} {pt px:Option (Nat × Nat)} {cc ct cx:Option Nat} {cs:List AVal} (h1:O[B.length]? = some (.cells 6 [t,.slice (some (q,o)) n' cc,.slice pt nt ct,.slice px nx cx,d,bd])) (h2:O[q]? = some (.cells 7 cs)):AVal.idsL cs=[]:=by
 obtain ⟨_,_,_,_,_,_,_,_,_,_,hW,_⟩:=h.ex
 have e:=hW.wr.symm.trans h1
 simp only [wrO,ap,AObj.cells.injEq,eb,AVal.slice.injEq,true_and,and_true] at e
 obtain ⟨_,⟨e1,_⟩,_⟩:=e
 subst e1
 have:=(hW.c.some _ _ rfl).2.2.2
 rw [h2,ap,AObj.cells.injEq] at this
 rw [this.2,ids_ins]
theorem okSl {n0 m q:Nat} {ds:List _root_.Go.Abs.Did} {p:Option (Nat × Nat)} {c:Option Nat} (h:∀ i o,p=some (i,o)→i < n0):(AVal.slice p q c).ids.all (okId n0 m ds)=true:=by
 cases p with
 | none=>rfl
 | some x=>obtain ⟨i,o⟩:=x; simp [AVal.ids,okId,h i o rfl]
theorem KK_pos (d:Nat):2≤KK d:=by
 cases d with
 | zero=>exact aj _
 | succ d=>have:=KK_pos d; simp only [KK]; omega
end Go.Abs.AbsMake

namespace Go.Abs.AbsMake
open Go.Abs.AbsDesc Go.Abs.AbsHier
variable {os O B:List AObj} {b w:Nat} {tN:Nat} {tb:List UInt8} {tv:AVal} {pc pt px:Option (Nat × Nat)} {cc ct cx:Option Nat} {C:List InsU} {S:List TrapU} {M:List MapU} {dep bud:Int} {n k:Nat}
theorem Wr.addM (h:Wr tN tb tv B O pc pt px cc ct cx C S M dep bud) {x:MapU} (X:List AObj) (hx1:Leaf (O++X) B.length pc pt px x.locals x.la) (hx2:Leaf (O++X) B.length pc pt px x.stack x.sa) :
  Wr tN tb tv B ((killO px O++(X++[AObj.cells 3 x.cells,AObj.cells 3 ((M++[x]).flatMap MapU.cells)])).set B.length (wrO tN pc pt (some (O.length+X.length+1,0)) cc ct none C.length S.length (M.length+1) dep bud)) pc pt (some (O.length+X.length+1,0)) cc ct none C S (M++[x]) dep bud:=by
 have hl:=h.len
 have hlt:=h.lt
 have hN:∀ o,px≠some (B.length,o):=fun o e=>by have:=(h.m.some _ _ e).2.2.1; omega
 have hlen:((killO px O)++(X++[AObj.cells 3 x.cells,AObj.cells 3 ((M++[x]).flatMap MapU.cells)])).length=O.length+X.length+2:=by simp; omega
 constructor
 ·intro i hi ht
  rw [al (by omega),ag (by simp; omega),kill_get fun o e=>by have:=(h.m.some _ _ e).2.2.1; omega]
  exact h.keep i hi ht
 ·obtain ⟨p,h1⟩:=h.tape
  exact ⟨p,by
   rw [al (by omega),ag (by simp; omega),kill_get fun o e=>by have:=(h.m.some _ _ e).2.2.1; omega]
   exact h1.at',h1.le,h1.small⟩
 ·exact h.tv
 ·exact h.lt
 ·rw [a9,if_pos rfl,if_pos (by omega)]
  simp
 ·exact ((h.c.kill fun i o o' e e'=>h.cm i o' o e' e).app _).set _ fun o e=>by have:=(h.c.some _ _ e).2.2.1; omega
 ·exact ((h.s.kill fun i o o' e e'=>h.sm i o' o e' e).app _).set _ fun o e=>by have:=(h.s.some _ _ e).2.2.1; omega
 ·refine ⟨fun i o e=>?_,fun e=>by cases e⟩
  simp only [ap,bt] at e
  obtain ⟨rfl,rfl⟩:=e
  refine ⟨rfl,rfl,by omega,?_⟩
  rw [al (by omega),ai (by simp; omega)]
  have:O.length+X.length+1 - (killO px O).length=X.length+1:=by simp; omega
  rw [this,f0]; rfl
 ·exact h.cs
 ·intro i o o' e e'
  have:=ah (h.c.some _ _ e).2.2.2
  simp only [ap,bt] at e'
  omega
 ·intro i o o' e e'
  have:=ah (h.s.some _ _ e).2.2.2
  simp only [ap,bt] at e'
  omega
 ·exact h.cok
 ·exact h.sok
 ·intro y hy
  have go:∀ {L:List Str} {a:Option (Nat × Nat)},Leaf (O++X) B.length pc pt px L a→Leaf ((killO px O++(X++[AObj.cells 3 x.cells,AObj.cells 3 ((M++[x]).flatMap MapU.cells)])).set B.length (wrO tN pc pt (some (O.length+X.length+1,0)) cc ct none C.length S.length (M.length+1) dep bud)) B.length pc pt (some (O.length+X.length+1,0)) L a:=fun {L a} hL=>by
   have e1:killO px O++(X++[AObj.cells 3 x.cells,AObj.cells 3 ((M++[x]).flatMap MapU.cells)])=killO px (O++X)++[AObj.cells 3 x.cells,AObj.cells 3 ((M++[x]).flatMap MapU.cells)]:=by
    cases px with
    | none=>simp [killO]
    | some q =>
     obtain ⟨i,o⟩:=q
     have:=ah (h.m.some _ _ rfl).2.2.2
     simp only [killO,List.set_append_left _ _ this,bh]
   rw [e1]
   exact (((hL.kill fun i o o' e e'=>(hL.at' _ _ e').2.2.2.2 _ e).app _).set fun o e=>by have:=(hL.at' _ _ e).1; omega).npx fun i o e=>by have:=(hL.at' _ _ e).2.1; simp at this; omega
  rcases bf.1 hy with hy | hy
  ·obtain ⟨h1,h2⟩:=h.mok y hy
   exact ⟨go (h1.app X),go (h2.app X)⟩
  ·rw [bo.1 hy]
   exact ⟨go hx1,go hx2⟩
theorem Wr.addS (h:Wr tN tb tv B O pc pt px cc ct cx C S M dep bud) {x:TrapU} (hx:x.cls ∈ classesT) (X:List AObj) :
  Wr tN tb tv B ((killO pt O++(X++[AObj.cells 4 x.cells,AObj.cells 4 ((S++[x]).flatMap TrapU.cells)])).set B.length (wrO tN pc (some (O.length+X.length+1,0)) px cc none cx C.length (S.length+1) M.length dep bud)) pc (some (O.length+X.length+1,0)) px cc none cx C (S++[x]) M dep bud:=by
 have hl:=h.len
 have hlt:=h.lt
 have hN:∀ o,pt≠some (B.length,o):=fun o e=>by have:=(h.s.some _ _ e).2.2.1; omega
 have hlen:((killO pt O)++(X++[AObj.cells 4 x.cells,AObj.cells 4 ((S++[x]).flatMap TrapU.cells)])).length=O.length+X.length+2:=by simp; omega
 constructor
 ·intro i hi ht
  rw [al (by omega),ag (by simp; omega),kill_get fun o e=>by have:=(h.s.some _ _ e).2.2.1; omega]
  exact h.keep i hi ht
 ·obtain ⟨p,h1⟩:=h.tape
  exact ⟨p,by
   rw [al (by omega),ag (by simp; omega),kill_get fun o e=>by have:=(h.s.some _ _ e).2.2.1; omega]
   exact h1.at',h1.le,h1.small⟩
 ·exact h.tv
 ·exact h.lt
 ·rw [a9,if_pos rfl,if_pos (by omega)]
  simp
 ·exact ((h.c.kill fun i o o' e e'=>h.cs i o' o e' e).app _).set _ fun o e=>by have:=(h.c.some _ _ e).2.2.1; omega
 ·refine ⟨fun i o e=>?_,fun e=>by cases e⟩
  simp only [ap,bt] at e
  obtain ⟨rfl,rfl⟩:=e
  refine ⟨rfl,rfl,by omega,?_⟩
  rw [al (by omega),ai (by simp; omega)]
  have:O.length+X.length+1 - (killO pt O).length=X.length+1:=by simp; omega
  rw [this,f0]; rfl
 ·exact ((h.m.kill fun i o o' e=>h.sm i o o' e).app _).set _ fun o e=>by have:=(h.m.some _ _ e).2.2.1; omega
 ·intro i o o' e e'
  have:=ah (h.c.some _ _ e).2.2.2
  simp only [ap,bt] at e'
  omega
 ·exact h.cm
 ·intro i o o' e e'
  have:=ah (h.m.some _ _ e').2.2.2
  simp only [ap,bt] at e
  omega
 ·exact h.cok
 ·intro y hy
  rcases bf.1 hy with hy | hy
  ·exact h.sok y hy
  ·rw [bo.1 hy]; exact hx
 ·intro y hy
  obtain ⟨h1,h2⟩:=h.mok y hy
  have go:∀ {L:List Str} {a:Option (Nat × Nat)},Leaf O B.length pc pt px L a→Leaf ((killO pt O++(X++[AObj.cells 4 x.cells,AObj.cells 4 ((S++[x]).flatMap TrapU.cells)])).set B.length (wrO tN pc (some (O.length+X.length+1,0)) px cc none cx C.length (S.length+1) M.length dep bud)) B.length pc (some (O.length+X.length+1,0)) px L a:=fun hL =>
   (((hL.kill fun i o o' e e'=>(hL.at' _ _ e').2.2.2.1 _ e).app _).set fun o e=>by have:=(hL.at' _ _ e).1; omega).npt fun i o e=>by have:=(hL.at' _ _ e).2.1; omega
  exact ⟨go h1,go h2⟩
theorem flat_set {α:Type} {e:Nat} {f:α→List AVal} (hf:∀ y,(f y).length=e):∀ (L:List α) (i j:Nat) (x y:α) (v:AVal),L[i]? = some x→j < e→(f x).set j v=f y→(L.flatMap f).set (i*e+j) v=(L.set i y).flatMap f
 | [],i,j,x,y,v,h,_,_=>by simp at h
 | a :: L,0,j,x,y,v,h,hj,hy=>by
  simp only [bi,ap] at h
  subst h
  rw [cg,Nat.zero_mul,dc,List.set_append_left _ _ (by rw [hf]; exact hj),hy,List.set_cons_zero,cg]
 | a :: L,i+1,j,x,y,v,h,hj,hy=>by
  simp only [List.getElem?_cons_succ] at h
  have e1:(i+1)*e+j=(f a).length+(i*e+j):=by rw [hf,dr,Nat.one_mul]; omega
  rw [cg,e1,List.set_append_right _ _ (by omega),Nat.add_sub_cancel_left,flat_set hf L i j x y v h hj hy,List.set_cons_succ,cg]
theorem Wr.setN (h:Wr tN tb tv B O pc pt px cc ct cx C S M dep bud) {q o i:Nat} (hp:pc=some (q,o)) (hi:i < C.length) (z:Int) :
  ∃ C',C'.length=C.length∧Wr tN tb tv B (O.set q (.cells 7 ((C.flatMap InsU.cells).set (i*7+1) (.int .i64 z)))) pc pt px cc ct cx C' S M dep bud:=by
 obtain ⟨x,hx⟩:∃ x,C[i]? = some x:=⟨_,ak hi⟩
 obtain ⟨h1,h2,h3,h4⟩:=h.c.some q o hp
 have hlt:=h.lt
 have hql:=ah h4
 refine ⟨C.set i { x with n:=z },by simp,?_⟩
 rw [flat_set (e:=7) (fun _=>rfl) C i 1 x { x with n:=z } (.int .i64 z) hx (by decide) rfl]
 constructor
 ·intro j hj ht
  rw [al (by omega)]
  exact h.keep j hj ht
 ·obtain ⟨p,h5⟩:=h.tape
  exact ⟨p,by rw [al (by omega)]; exact h5.at',h5.le,h5.small⟩
 ·exact h.tv
 ·exact h.lt
 ·rw [al (by omega),fw]; exact h.wr
 ·refine ⟨fun i' o' e=>?_,fun e=>by rw [hp] at e; cases e⟩
  have e':=hp.symm.trans e
  simp only [ap,bt] at e'
  obtain ⟨rfl,rfl⟩:=e'
  exact ⟨h1,h2,h3,by rw [a9,if_pos rfl,if_pos hql]⟩
 ·exact h.s.set _ fun o' e=>h.cs _ _ _ hp e
 ·exact h.m.set _ fun o' e=>h.cm _ _ _ hp e
 ·exact h.cs
 ·exact h.cm
 ·exact h.sm
 ·intro y hy
  rcases List.mem_or_eq_of_mem_set hy with hy | hy
  ·exact h.cok y hy
  ·have:=h.cok x (a8 hx)
   rw [hy]
   exact ⟨this.cls,this.name,this.desc,this.text⟩
 ·exact h.sok
 ·exact fun y hy=>⟨(h.mok y hy).1.set fun o' e=>((h.mok y hy).1.at' _ _ e).2.2.1 _ hp,(h.mok y hy).2.set fun o' e=>((h.mok y hy).2.at' _ _ e).2.2.1 _ hp⟩
end Go.Abs.AbsMake

namespace Go.Abs.AbsMake
open Go.Abs.AbsDesc Go.Abs.AbsHier
variable {os O B:List AObj} {b w:Nat} {tN:Nat} {tb:List UInt8} {tv:AVal} {pc pt px:Option (Nat × Nat)} {cc ct cx:Option Nat} {C:List InsU} {S:List TrapU} {M:List MapU} {dep bud:Int} {n k:Nat}
theorem leaf0 {N:Nat}:Leaf O N pc pt px [] none:=⟨⟨fun h=>absurd rfl h⟩,by decide,by simp,fun _ _ e=>by cases e⟩
theorem Wr.leaf1 (h:Wr tN tb tv B O pc pt px cc ct cx C S M dep bud) {q:Nat} {L:List Str} (hq:B.length < q) (hO:O[q]? = some (.cells 1 (L.flatMap strC))) (hl:L.length≤100) (hs:∀ t ∈ L,t.length≤100):Leaf O B.length pc pt px L (some (q,0)) :=
 ⟨Row.mk0 (fun _=>rfl) hO,hl,hs,fun i o e=>by
  simp only [ap,bt] at e
  obtain ⟨rfl,rfl⟩:=e
  refine ⟨hq,ah hO,fun o' e=>?_,fun o' e=>?_,fun o' e=>?_⟩
  ·have:=(h.c.some _ _ e).2.2.2; rw [hO] at this; simp at this
  ·have:=(h.s.some _ _ e).2.2.2; rw [hO] at this; simp at this
  ·have:=(h.m.some _ _ e).2.2.2; rw [hO] at this; simp at this⟩
def localsL:List Str:=[[73],[73],[73],[74],[76,65,59],[91,73],[91,66]]
theorem s222 (hb:b≤O.length):xCall T 222 [] ⟨O,b,w⟩=some (.slice (some (O.length,0)) 7 (some 7),⟨O++[.cells 1 (localsL.flatMap strC)],b,w⟩):=by
 have e:localsL.flatMap strC=[.str [73],.str [73],.str [73],.str [74],.str [76,65,59],.str [91,73],.str [91,66]]:=rfl
 rw [e]
 simp (disch:=omega) [-getElem?_pos,-getElem?_neg,-List.all_eq_true,gz,gs,nltT,nltF,iltT,iltF,ileT,nleT,cf,az t222,code222,reach_step,reach_done,f0,dh]
end Go.Abs.AbsMake

namespace Go.Abs.AbsMake
open Go.Abs.AbsDesc Go.Abs.AbsHier
variable {os O B:List AObj} {b w:Nat} {tN:Nat} {tb:List UInt8} {tv:AVal} {pc pt px:Option (Nat × Nat)} {cc ct cx:Option Nat} {C:List InsU} {S:List TrapU} {M:List MapU} {dep bud:Int} {n k:Nat}
theorem Own.row {α:Type} {N e:Nat} {f:α→List AVal} {L:List α} {p:Option (Nat × Nat)} {c:Option Nat} (hf:∀ x,(f x).length=e) (h:Own O N e f L p c):Row O e f L p:=by
 cases p with
 | none=>obtain ⟨rfl,_⟩:=h.none rfl; exact ⟨fun h=>absurd rfl h⟩
 | some q =>
  obtain ⟨i,o⟩:=q
  obtain ⟨rfl,_,_,h4⟩:=h.some i o rfl
  exact Row.mk0 hf h4
theorem take_get {cs L:List AVal} {m e k:Nat} (h:List.take e (List.drop m cs)=L) (hk:k < e):cs[m+k]? = L[k]?:=by
 rw [← h,dg hk,c9]
inductive StackOf (O:List AObj) (N:Nat):Option (Nat × Nat)→Option Nat→List Str→Prop
 | nil:StackOf O N none (some 0) []
 | one (q:Nat) (s:Str):N < q→s.length≤100→O[q]? = some (.cells 1 [.str s])→StackOf O N (some (q,0)) (some 1) [s]
theorem ids_slice {n m:Nat} {a:Option (Nat × Nat)} {c:Option Nat} (h:under n a):∀ i ∈ (AVal.slice a m c).ids,i < n:=by
 cases a with
 | none=>simp [AVal.ids]
 | some p=>obtain ⟨j,o⟩:=p; simp only [AVal.ids,bo]; rintro i rfl; exact h _ _ rfl
theorem ids_map {n:Nat}:∀ {M:List MapU},(∀ x ∈ M,under n x.la∧under n x.sa)→∀ i ∈ AVal.idsL (M.flatMap MapU.cells),i < n
 | [],_=>by simp [AVal.idsL]
 | x :: M,h=>by
  intro i hi
  rw [cg,idsL_app,bf] at hi
  rcases hi with hi | hi
  ·simp only [MapU.cells,AVal.idsL,AVal.ids,b0,ig,bf] at hi
   rcases hi with hi | hi
   ·exact ids_slice (h x (av ..)).1 i hi
   ·exact ids_slice (h x (av ..)).2 i hi
  ·exact ids_map (fun y hy=>h y (bq _ hy)) i hi
theorem all_okId {n0:Nat} {l:List Nat} (h:∀ i ∈ l,i < n0+1) (hm:n0 ∈ l) (m:Nat) (ds:List Go.Abs.Did):l.all (okId n0 m ds)=okId n0 m ds n0:=by
 rw [Bool.eq_iff_iff,am]
 constructor
 ·intro hh; exact hh _ hm
 ·intro hh i hi
  rcases aw i n0 with q | q
  ·simp [okId,q]
  ·have:=h i hi
   rw [show i=n0 by omega]; exact hh
set_option maxHeartbeats 1600000 in
theorem s208 (h:Ws tN tb tv B O n k dep) (hb:b≤tN) (hk:k+1≤100000) {sa:Option (Nat × Nat)} {sc:Option Nat} {L:List Str} (hst:StackOf O B.length sa sc L) {a0 a1 a2 a3 a4 a5:AVal} (hat:O[B.length]? = some (.cells 6 [a0,a1,a2,a3,a4,a5])) :
  ∃ (O':List AObj) (nx:Nat→Nat) (a3':AVal),Ws tN tb tv B O' n (k+1) dep∧O'[B.length]? = some (.cells 6 [a0,a1,a2,a3',a4,a5])∧O.length≤O'.length∧((∀ w,nx w=w)∨(∀ w,nx w=min w B.length)) ∧
   ∀ w,xCall T 100208 [.ptr (some (B.length,0)),.slice sa L.length sc] ⟨O,b,w⟩=some (.int .i64 n,⟨O',b,nx w⟩):=by
 obtain ⟨pc,pt,px,cc,ct,cx,C,S,M,bud,hW,rfl,h2,h3,h4⟩:=h.ex
 have hwr:=hW.wr
 have hBO:=hW.len
 have hlt:=hW.lt
 have e:=hat.symm.trans hwr
 simp only [wrO,ap,AObj.cells.injEq,eb,true_and,and_true] at e
 obtain ⟨rfl,rfl,rfl,rfl,rfl,rfl⟩:=e
 have hRm:Row O 3 MapU.cells M px:=Own.row (f:=MapU.cells) (fun _=>rfl) hW.m
 have hn1:C.length≤9223372036854775807:=by omega
 have hMl:M.length≤9223372036854775807:=by omega
 have hm:M.length=0∨∃ (l p:Nat) (cs:List AVal) (v:Int),M.length=l+1∧px=some (p,0)∧O[p]? = some (.cells 3 cs)∧l*3+3≤cs.length∧cs[l*3]? = some (.int .i64 v)∧B.length < p∧p < O.length:=by
  rcases ja M.length with c | c
  ·exact .inl c
  ·obtain ⟨y,hy⟩:∃ y,M[M.length - 1]? = some y:=⟨_,ak (by omega)⟩
   obtain ⟨p,o,cs,ha,hpp,hpl,hcs,ht⟩:=gm hRm hy
   obtain ⟨e1,e2,e3,e4⟩:=hW.m.some p o ha
   subst e1
   have:=take_get (k:=0) ht (by decide)
   rw [dc,fm] at this
   exact .inr ⟨M.length - 1,p,cs,y.at',by omega,ha,hpp,by omega,this,e3,hpl⟩
 have hX:=fun w=>s222 (O:=O) (b:=b) (w:=w) (by omega)
 have hl1:Leaf (O++[.cells 1 (localsL.flatMap strC)]) B.length pc pt px localsL (some (O.length,0)):=(hW.app _).leaf1 hBO (by rw [dh]; rfl) (by decide) (by decide)
 have hl2:Leaf (O++[.cells 1 (localsL.flatMap strC)]) B.length pc pt px L sa:=by
  cases hst with
  | nil=>exact leaf0
  | one q s q1 q2 q3=>exact (hW.app _).leaf1 q1 (by rw [ag (ah q3),q3]; rfl) (by simp) (by simpa using q2)
 obtain ⟨x,hx⟩:∃ x:MapU,x=⟨C.length,localsL,some (O.length,0),some 7,L,sa,sc⟩:=⟨_,rfl⟩
 have hcu:x.cells=[.int .i64 C.length,.slice (some (O.length,0)) 7 (some 7),.slice sa L.length sc]:=by rw [hx]; rfl
 have h1:=app_own (b:=b) (by':=56) (x:=x) (f:=MapU.cells) (fun _=>rfl) hW.m (by omega) (by omega) (by omega) [.cells 1 (localsL.flatMap strC)]
 have h5:=hW.addM (x:=x) [.cells 1 (localsL.flatMap strC)] (by rw [hx]; exact hl1) (by rw [hx]; exact hl2)
 have hidm:∀ i ∈ AVal.idsL ((M++[x]).flatMap MapU.cells),i < O.length+1:=ids_map fun y hy=>by
  have go:∀ {L:List Str} {a:Option (Nat × Nat)},Leaf (O++[.cells 1 (localsL.flatMap strC)]) B.length pc pt px L a→under (O.length+1) a:=fun hL i o e=>by have:=(hL.at' i o e).2.1; simpa using this
  rcases bf.1 hy with hy | hy
  ·exact ⟨go ((hW.mok y hy).1.app _),go ((hW.mok y hy).2.app _)⟩
  ·rw [bo.1 hy,hx]; exact ⟨go hl1,go hl2⟩
 have hmemR:O.length ∈ AVal.idsL ((M++[x]).flatMap MapU.cells):=by
  rw [List.flatMap_append,idsL_app,bf]
  right
  simp [hcu,AVal.idsL,AVal.ids]
 have hall:=all_okId hidm hmemR
 generalize (M++[x]).flatMap MapU.cells=R at *
 generalize localsL.flatMap strC=Y at *
 simp only [ce] at h1 h5
 obtain ⟨O',hO'⟩:∃ O',O'=(killO px O++([AObj.cells 1 Y]++[AObj.cells 3 x.cells,AObj.cells 3 R])).set B.length (wrO tN pc pt (some (O.length+1+1,0)) cc ct none C.length S.length (M.length+1) dep bud):=⟨_,rfl⟩
 rw [← hO'] at h5
 have hlO:O.length≤O'.length:=by rw [hO']; simp
 have key:∀ w,(M.length=0∨∃ (l p:Nat) (cs:List AVal) (v:Int),M.length=l+1∧px=some (p,0)∧O[p]? = some (.cells 3 cs)∧l*3+3≤cs.length∧cs[l*3]? = some (.int .i64 v)∧B.length < p∧p < O.length∧v≠C.length) →
   xCall T 100208 [.ptr (some (B.length,0)),.slice sa L.length sc] ⟨O,b,w⟩=some (.int .i64 C.length,⟨O',b,min w B.length⟩):=by
  intro w hm
  rw [hcu] at h1 hO'
  have hlw:=h.lows hat
  have hB1:∀ X,(killO px O++X)[B.length]? = some (AObj.cells 6 [.ptr (some (tN,0)),.slice pc C.length cc,.slice pt S.length ct,.slice px M.length cx,.int .i64 dep,.int .i64 bud]):=fun X=>by
   rw [ag (by simpa using hBO),kill_get fun o e=>by have:=(hlw.2.2 _ _ e).2; omega]; exact hat
  rcases hm with hm | ⟨l,p,cs,v,m1,m2,m3,m4,m5,m6,m7,m8⟩
  ·rw [hm] at hat h1 hO' hB1
   simp only [wrO] at hO'
   rw [hO']
   cases px with
   | none =>
    cases hst with
    | nil =>
     simp only [killO,killW,b9,b0,a7,ce] at h1 hB1 ⊢
     simp (maxSteps:=3000000) (disch:=omega) [-getElem?_pos,-getElem?_neg,-List.all_eq_true,gz,gs,nltT,nltF,iltT,iltF,ileT,nleT,cf,au,benign,again,AVal.eqb,-sget,dy,dz,d7,-aAppend,az gt,code100208,hat,hX,h1,hall,hB1,f0,dh,hm]
    | one q s q1 q2 q3 =>
     simp only [killO,killW,b9,b0,a7,ce] at h1 hB1 ⊢
     have q4:=ah q3
     simp (maxSteps:=3000000) (disch:=omega) [-getElem?_pos,-getElem?_neg,-List.all_eq_true,gz,gs,nltT,nltF,iltT,iltF,ileT,nleT,cf,au,benign,again,AVal.eqb,-sget,dy,dz,d7,-aAppend,az gt,code100208,hat,hX,h1,hall,hB1,f0,dh,hm]
   | some q0 =>
    obtain ⟨i,o⟩:=q0
    obtain ⟨l1,l2⟩:=hlw.2.2 i o rfl
    have hk0:∀ X:List AObj,(O.set i .dead++X)[O.length]? = X[0]?:=fun X=>by rw [ai (by simp)]; simp
    have hk1:∀ (X:List AObj) (j:Nat),(O.set i .dead++X)[O.length+j]? = X[j]?:=fun X j=>by rw [ai (by simp)]; simp
    have hi1:¬ i=O.length+2:=by omega
    have hi2:¬ O.length+2≤i:=by omega
    have hi3:¬ O.length+1≤i:=by omega
    have hi4:¬ O.length≤i:=by omega
    have hi5:i < O.length+2:=by omega
    have hi6:i < O.length+1:=by omega
    have hiB:i≠B.length:=by omega
    have hi7:¬ i=O.length+1:=by omega
    have hi8:¬ i=O.length:=by omega
    cases hst with
    | nil =>
     simp only [killO,killW,b9,b0,a7,ce] at h1 hB1 ⊢
     simp (maxSteps:=3000000) (disch:=omega) [-getElem?_pos,-getElem?_neg,-List.all_eq_true,gz,gs,nltT,nltF,iltT,iltF,ileT,nleT,cf,au,benign,again,AVal.eqb,-sget,dy,dz,d7,-aAppend,az gt,code100208,hat,hX,h1,hall,hB1,f0,dh,hk0,hk1,hi1,hi2,hi3,hi4,hi5,hi6,hi7,hi8,hiB,l1,l2]
    | one q s q1 q2 q3 =>
     simp only [killO,killW,b9,b0,a7,ce] at h1 hB1 ⊢
     have q4:=ah q3
     simp (maxSteps:=3000000) (disch:=omega) [-getElem?_pos,-getElem?_neg,-List.all_eq_true,gz,gs,nltT,nltF,iltT,iltF,ileT,nleT,cf,au,benign,again,AVal.eqb,-sget,dy,dz,d7,-aAppend,az gt,code100208,hat,hX,h1,hall,hB1,f0,dh,hk0,hk1,hi1,hi2,hi3,hi4,hi5,hi6,hi7,hi8,hiB,l1,l2]
  ·rw [m1] at hat h1 hO' hB1
   simp only [wrO] at hO'
   rw [hO']
   subst m2
   have hpp:=fun X=>(ag (l₂:=X) m7).trans m3
   have hk0:∀ X:List AObj,(O.set p .dead++X)[O.length]? = X[0]?:=fun X=>by rw [ai (by simp)]; simp
   have hk1:∀ (X:List AObj) (j:Nat),(O.set p .dead++X)[O.length+j]? = X[j]?:=fun X j=>by rw [ai (by simp)]; simp
   have hi1:¬ p=O.length+2:=by omega
   have hi2:¬ O.length+2≤p:=by omega
   have hi3:¬ O.length+1≤p:=by omega
   have hi4:¬ O.length≤p:=by omega
   have hi5:p < O.length+2:=by omega
   have hi6:p < O.length+1:=by omega
   have hiB:p≠B.length:=by omega
   have hi7:¬ p=O.length+1:=by omega
   have hi8:¬ p=O.length:=by omega
   cases hst with
   | nil =>
    simp only [killO,killW,b9,b0,a7,ce] at h1 hB1 ⊢
    simp (maxSteps:=3000000) (disch:=omega) [-getElem?_pos,-getElem?_neg,-List.all_eq_true,gz,gs,nltT,nltF,iltT,iltF,ileT,nleT,cf,au,benign,again,AVal.eqb,-sget,dy,dz,d7,-aAppend,az gt,code100208,hat,hX,h1,hall,hB1,f0,dh,hk0,hk1,hi1,hi2,hi3,hi4,hi5,hi6,hi7,hi8,hiB,m3,m5,m8,m6,m7]
   | one q s q1 q2 q3 =>
    simp only [killO,killW,b9,b0,a7,ce] at h1 hB1 ⊢
    have q4:=ah q3
    simp (maxSteps:=3000000) (disch:=omega) [-getElem?_pos,-getElem?_neg,-List.all_eq_true,gz,gs,nltT,nltF,iltT,iltF,ileT,nleT,cf,au,benign,again,AVal.eqb,-sget,dy,dz,d7,-aAppend,az gt,code100208,hat,hX,h1,hall,hB1,f0,dh,hk0,hk1,hi1,hi2,hi3,hi4,hi5,hi6,hi7,hi8,hiB,m3,m5,m8,m6,m7]
 rcases hm with hm | ⟨l,p,cs,v,m1,m2,m3,m4,m5,m6,m7⟩
 ·exact ⟨O',fun w=>min w B.length,_,⟨_,_,_,_,_,_,_,_,_,_,h5,rfl,by omega,by omega,by simp; omega⟩,h5.wr,hlO,.inr fun w=>rfl,fun w=>key w (.inl hm)⟩
 ·by_cases c1:v=C.length
  ·refine ⟨O,id,_,h.le (by omega),hat,aj _,.inl fun w=>rfl,fun w=>?_⟩
   subst c1 m2
   have hli:((l:Int)+1) - 1=l:=by omega
   rw [m1] at hat
   simp (maxSteps:=3000000) (disch:=omega) [-getElem?_pos,-getElem?_neg,-List.all_eq_true,gz,gs,nltT,nltF,iltT,iltF,ileT,nleT,cf,-sget,dy,dz,d7,az gt,code100208,hat,m1,m3,m5]
  ·exact ⟨O',fun w=>min w B.length,_,⟨_,_,_,_,_,_,_,_,_,_,h5,rfl,by omega,by omega,by simp; omega⟩,h5.wr,hlO,.inr fun w=>rfl,fun w=>key w (.inr ⟨l,p,cs,v,m1,m2,m3,m4,m5,m6,m7,c1⟩)⟩
end Go.Abs.AbsMake

namespace Go.Abs.AbsMake
open Go.Abs.AbsDesc Go.Abs.AbsHier
variable {os O B:List AObj} {b w:Nat} {tN:Nat} {tb:List UInt8} {tv:AVal} {n k:Nat} {dep:Int}
set_option maxHeartbeats 1000000 in
theorem k4_183 (hb:b≤tN) {x:Int} {nx1:Nat→Nat} {O1:List AObj} {j:Nat} {c0:List AVal} (h:Ws tN tb tv B O n k dep) (f2:Ws tN tb tv B O1 n k dep) (f5:(∀ w,nx1 w=w)∨(∀ w,nx1 w=min w tN))
  (f6:∀ w,xCall T 102 [.ptr (some (tN,0)),.int .i64 6] ⟨O,b,w⟩=some (.int .i64 ((4:Nat):Int),⟨O1,b,nx1 w⟩))
  (hat:O[B.length]? = some (.cells 6 (.ptr (some (tN,0)) :: c0))) (hj:1≤j) (hk:k+j≤100000) :
  Did tN tb tv B b 183 [.ptr (some (B.length,0)),.int .i64 x] (.tuple []) O fun O'=>∃ n',n≤n'∧Ws tN tb tv B O' n' (k+j) dep:=by
 obtain ⟨hlt,hBO⟩:=h.len
 have hBO1:=f2.len.2
 obtain ⟨r2,O2,nx,g1,g2,g3,g4,g5,g6⟩:=f2.next hb (x:=256) (by decide) (by decide)
 have hBO2:=g2.len.2
 have hO12:O2.length=O1.length:=g3
 obtain ⟨pc,pt,px,cc,ct,cx,nt,nx',bud,cs,h1,h6,h9,h7,hkw,hk1,hk2,h8⟩:=g2.put (b:=b) (x:=⟨20,(r2:Int)*1099511627776 - 5,0,[],[],[74],[]⟩) hb (by omega) ⟨by simp,by simp,by simp,by simp⟩
 have e11:=(g4 B.length (by omega)).symm.trans h1
 obtain ⟨lw,_,_⟩:=g2.lows h1
 have n1:¬ (r2:Int) < 0:=by omega
 have hok:=fun m ds=>okSl (n0:=O1.length) (m:=m) (q:=n) (ds:=ds) (c:=cc) (p:=pc) fun i o e=>by have:=(lw i o e).1; omega
 obtain ⟨m'',q4,q5,q6⟩:=nx_min f5 (aj tN)
 have hwl1:nx1 O.length=O.length∨nx1 O.length=tN:=by rcases f5 with g | g <;> rw [g] <;> omega
 have hwl:nx O1.length=O1.length∨nx O1.length=tN:=by rcases g5 with g | g <;> rw [g] <;> omega
 have hm1:min O1.length B.length=B.length:=by omega
 have hm2:min tN B.length=tN:=by omega
 refine ⟨_,min (nx1 O.length) (min (nx O1.length) B.length),⟨n+1,by omega,h8.le (by omega)⟩,by omega,by omega,fun w=>?_⟩
 simp only [InsU.cells] at h7 ⊢
 rw [hO12] at h7 ⊢
 rw [az t183]
 have hbits:min 40 IntKind.i64.bits=40:=rfl
 have hwl:nx O1.length=O1.length∨nx O1.length=tN:=by rcases g5 with g | g <;> rw [g] <;> omega
 have hg0:∀ X:List AObj,(O2++X)[O1.length]? = X[0]?:=fun X=>by rw [← hO12,dh]
 have hg1:∀ (X:List AObj) (i:Nat),(O2++X)[O1.length+i]? = X[i]?:=fun X i=>by rw [← hO12,f0]
 have hB1:∀ X:List AObj,(O2++X)[B.length]? = some (AObj.cells 6 [.ptr (some (tN,0)),.slice pc n cc,.slice pt nt ct,.slice px nx' cx,.int .i64 dep,.int .i64 bud]):=fun X=>(ag (by omega)).trans h1
 have hids:AVal.idsL cs=[]:=h8.codeIds (q:=O2.length+1) (o:=0) (cs:=cs) (by rw [a9,if_pos rfl,if_pos (by simp; omega)]) (by
  rw [al (by omega),ai (by simp)]
  simp)
 have hBn:B.length≠tN:=by omega
 have c5:0 < x∨¬ 0 < x:=by omega
 cases pc with
 | none =>
  simp only [killO,killW] at h7 h9 ⊢
  rcases c5 with c4 | c4 <;> rcases hwl with hwl | hwl <;>
   simp (maxSteps:=3000000) (disch:=omega) [-getElem?_pos,-getElem?_neg,-List.all_eq_true,gz,gs,nltT,nltF,iltT,iltF,ileT,nleT,cf,au,benign,again,AVal.eqb,hO12,hbits,hg0,hg1,hB1,-sget,dy,dz,d7,-aAppend,code183,code183B0,hat,f6,c4,g6,h1,e11,hok,h7,h9,hids,hm1,hm2,hwl]
 | some q =>
  obtain ⟨i,o⟩:=q
  obtain ⟨l1,l2⟩:=lw i o rfl
  have hk0:∀ X:List AObj,(O2.set i .dead++X)[O1.length]? = X[0]?:=fun X=>by rw [← hO12,ai (by simp)]; simp
  have hk1:∀ (X:List AObj) (j:Nat),(O2.set i .dead++X)[O1.length+j]? = X[j]?:=fun X j=>by rw [← hO12,ai (by simp)]; simp
  have hi1:¬ i=O1.length+1:=by omega
  have hi2:¬ O1.length+1≤i:=by omega
  have hi3:¬ O1.length≤i:=by omega
  have hi4:i < O1.length:=by omega
  have hi5:i < O1.length+1:=by omega
  have hBi:B.length≤i:=by omega
  have htB:tN≤i:=by omega
  have hiB:i≠B.length:=by omega
  have hit:i≠tN:=by omega
  simp only [killO,killW] at h7 h9 ⊢
  rcases c5 with c4 | c4 <;> rcases hwl with hwl | hwl <;>
   simp (maxSteps:=3000000) (disch:=omega) [-getElem?_pos,-getElem?_neg,-List.all_eq_true,gz,gs,nltT,nltF,iltT,iltF,ileT,nleT,cf,au,benign,again,AVal.eqb,hO12,hbits,hg0,hg1,hB1,-sget,dy,dz,d7,-aAppend,code183,code183B0,hat,f6,c4,g6,h1,e11,hok,h7,h9,hids,hm1,hm2,hk0,hk1,hi1,hi2,hi3,hi4,hi5,hiB,hit,hwl]
end Go.Abs.AbsMake

namespace Go.Abs.AbsMake
open Go.Abs.AbsDesc Go.Abs.AbsHier
variable {os O B:List AObj} {b w:Nat} {tN:Nat} {tb:List UInt8} {tv:AVal} {n k:Nat} {dep:Int}
section
attribute [-simp] getElem?_pos getElem?_neg List.all_eq_true
attribute [local simp] gz gs nltT nltF iltT iltF ileT nleT cf
theorem sw151 (hb:b≤tN) {d:Nat} {x:Int} (hx:-9≤x) (hx2:x≤9) (h:Ws tN tb tv B O n k dep) {j:Nat} (hj1:1≤j) (hk:k+j≤100000) {r:Nat} (hr:r < 16) (hrj:4≤r→2*KK d+1≤j)
  (hi:4≤r→Expr tN tb tv B b dep 151 (x - 1) (KK d)) (hl:4≤r→Expr tN tb tv B b dep 183 (x - 1) (KK d)) :
  ∃ O' m n',n≤n'∧Ws tN tb tv B O' n' (k+j) dep∧tN≤m∧m≤B.length∧∀ (w:Nat) (c:AExit→St→Option (AVal × Heap)),
   xK T code151B0 ⟨[(0,.val (.ptr (some (B.length,0)))),(1,.val (.int .i64 x)),(29,.val (.int .i64 r))],⟨O,b,w⟩⟩ (k:=⟨c⟩)=c .normal ⟨[],⟨O',b,min w m⟩⟩:=by
 have hKd:=KK_pos d
 have hx1:IntKind.i64.wrap (x - 1)=x - 1:=cf (by omega)
 obtain ⟨pc,pt,px,cc,ct,cx,nt,nx',bud,hat,_⟩:=h.at'
 obtain ⟨hlt,hBO⟩:=h.len
 have e0:r=0∨r=1∨r=2∨r=3∨(4≤r∧r≤7)∨r=8∨r=9∨r=10∨r=11∨r=12∨r=13∨r=14∨r=15:=by omega
 rcases e0 with rfl | rfl | rfl | rfl | h4 | rfl | rfl | rfl | rfl | rfl | rfl | rfl | rfl
 ·obtain ⟨r2,O1,nx,g1,g2,g3,g4,g5,g6⟩:=h.next hb (x:=3) (by decide) (by decide)
  obtain ⟨O2,m2,p2,l2,u2,e2⟩:=s150 g2 hb (by omega) (op:=21) (nn:=r2)
  obtain ⟨m',q1,q2,q3⟩:=nx_min g5 l2
  refine ⟨O2,m',n+1,by omega,p2.le (by omega),q1,by omega,fun w c=>?_⟩
  simp (disch:=omega) [code151B0,hat,g6,e2,q3]
 ·obtain ⟨r2,O1,nx,g1,g2,g3,g4,g5,g6⟩:=h.next hb (x:=3) (by decide) (by decide)
  obtain ⟨O2,m2,p2,l2,u2,e2⟩:=s150 g2 hb (by omega) (op:=21) (nn:=r2)
  obtain ⟨m',q1,q2,q3⟩:=nx_min g5 l2
  refine ⟨O2,m',n+1,by omega,p2.le (by omega),q1,by omega,fun w c=>?_⟩
  simp (disch:=omega) [code151B0,hat,g6,e2,q3]
 ·obtain ⟨r2,O1,nx,g1,g2,g3,g4,g5,g6⟩:=h.next hb (x:=256) (by decide) (by decide)
  obtain ⟨O2,m2,p2,l2,u2,e2⟩:=s153 g2 hb (by omega) (x:=r2 - 100) (by omega) (by omega)
  obtain ⟨m',q1,q2,q3⟩:=nx_min g5 l2
  refine ⟨O2,m',n+1,by omega,p2.le (by omega),q1,by omega,fun w c=>?_⟩
  simp (disch:=omega) [code151B0,hat,g6,e2,q3]
 ·obtain ⟨O2,m2,p2,l2,u2,e2⟩:=s154 h hb (by omega) (op:=178) (c:=[77,97,105,110]) (m:=[115]) (d:=[73]) (by decide) (by decide) (by decide)
  refine ⟨O2,m2,n+1,by omega,p2.le (by omega),l2,u2,fun w c=>?_⟩
  simp (disch:=omega) [code151B0,hat,e2]
 ·have hrj:=hrj h4.1
  have hi:=hi h4.1
  obtain ⟨O1,m1,⟨n1,k1,p1⟩,l1,u1,e1⟩:=hi O n k h (by omega)
  obtain ⟨O2,m2,⟨n2,k2,p2⟩,l2,u2,e2⟩:=hi O1 n1 _ p1 (by omega)
  obtain ⟨r2,O3,nx,g1,g2,g3,g4,g5,g6⟩:=(p2.app [.cells 1 (acts151.map (AVal.int .u8))]).next hb (x:=10) (by decide) (by decide)
  obtain ⟨y,hy⟩:=bytes_get acts151 (r:=r2) (by simp only [acts151,bp,a7]; omega)
  obtain ⟨O4,m4,p4,l4,u4,e4⟩:=s150 g2 hb (by omega) (op:=y) (nn:=0)
  obtain ⟨m',q1,q2,q3⟩:=nx_min g5 l4
  obtain ⟨_,_,_,_,_,_,_,_,_,hat2,_⟩:=p2.at'
  have hlen2:=p2.len
  have hat2:=fun X=>(ag (l₂:=X) hlen2.2).trans hat2
  have g7:=g4 O2.length (by omega)
  rw [dh] at g7
  simp only [acts151,cr,gg] at g6 g7 hy
  have hc:(r:Int)=4∨(r:Int)=5∨(r:Int)=6∨(r:Int)=7:=by omega
  refine ⟨O4,min m1 (min m2 m'),n2+1,by omega,p4.le (by omega),by omega,by omega,fun w c=>?_⟩
  rcases hc with hc | hc | hc | hc <;> simp (disch:=omega) [code151B0,hc,hx1,e1,e2,hat2,g6,g7,hy,e4,q3,aq]
 ·have hrj:=hrj (by decide)
  obtain ⟨O1,m1,⟨n1,k1,p1⟩,l1,u1,e1⟩:=hl (by decide) O n k h (by omega)
  obtain ⟨O2,m2,p2,l2,u2,e2⟩:=s150 p1 hb (by omega) (op:=136) (nn:=0)
  refine ⟨O2,min m1 m2,n1+1,by omega,p2.le (by omega),by omega,by omega,fun w c=>?_⟩
  simp (disch:=omega) [code151B0,hx1,e1,e2,aq]
 ·have hrj:=hrj (by decide)
  obtain ⟨O1,m1,p1,l1,u1,e1⟩:=s150 h hb (by omega) (op:=25) (nn:=6)
  obtain ⟨O2,m2,⟨n2,k2,p2⟩,l2,u2,e2⟩:=hi (by decide) O1 _ _ p1 (by omega)
  obtain ⟨O3,m3,p3,l3,u3,e3⟩:=s150 p2 hb (by omega) (op:=46) (nn:=0)
  refine ⟨O3,min m1 (min m2 m3),n2+1,by omega,p3.le (by omega),by omega,by omega,fun w c=>?_⟩
  simp (disch:=omega) [code151B0,hx1,e1,e2,e3,aq]
 ·have hrj:=hrj (by decide)
  obtain ⟨O1,m1,p1,l1,u1,e1⟩:=s150 h hb (by omega) (op:=25) (nn:=5)
  obtain ⟨O2,m2,p2,l2,u2,e2⟩:=s154 p1 hb (by omega) (op:=180) (c:=[65]) (m:=[102]) (d:=[73]) (by decide) (by decide) (by decide)
  refine ⟨O2,min m1 m2,n+1+1,by omega,p2.le (by omega),by omega,by omega,fun w c=>?_⟩
  simp (disch:=omega) [code151B0,hx1,e1,e2,aq]
 ·have hrj:=hrj (by decide)
  obtain ⟨O1,m1,p1,l1,u1,e1⟩:=s150 h hb (by omega) (op:=25) (nn:=5)
  obtain ⟨O2,m2,⟨n2,k2,p2⟩,l2,u2,e2⟩:=hi (by decide) O1 _ _ p1 (by omega)
  obtain ⟨O3,m3,p3,l3,u3,e3⟩:=s154 p2 hb (by omega) (op:=182) (c:=[65]) (m:=[118]) (d:=[40,73,41,73]) (by decide) (by decide) (by decide)
  refine ⟨O3,min m1 (min m2 m3),n2+1,by omega,p3.le (by omega),by omega,by omega,fun w c=>?_⟩
  simp (disch:=omega) [code151B0,hx1,e1,e2,e3,aq]
 ·have hrj:=hrj (by decide)
  obtain ⟨O2,m2,⟨n2,k2,p2⟩,l2,u2,e2⟩:=hi (by decide) O _ _ h (by omega)
  obtain ⟨O3,m3,p3,l3,u3,e3⟩:=s154 p2 hb (by omega) (op:=184) (c:=[77,97,105,110]) (m:=[104,101,108,112]) (d:=[40,73,41,73]) (by decide) (by decide) (by decide)
  refine ⟨O3,min m2 m3,n2+1,by omega,p3.le (by omega),by omega,by omega,fun w c=>?_⟩
  simp (disch:=omega) [code151B0,hx1,e2,e3,aq]
 ·have hrj:=hrj (by decide)
  obtain ⟨r2,O1,nx,g1,g2,g3,g4,g5,g6⟩:=h.next hb (x:=2) (by decide) (by decide)
  obtain ⟨O2,m2,p2,l2,u2,e2⟩:=s150 g2 hb (by omega) (op:=25) (nn:=6+r2)
  obtain ⟨O3,m3,p3,l3,u3,e3⟩:=s150 p2 hb (by omega) (op:=190) (nn:=0)
  obtain ⟨m',q1,q2,q3⟩:=nx_min g5 l2
  refine ⟨O3,min m' m3,n+1+1,by omega,p3.le (by omega),by omega,by omega,fun w c=>?_⟩
  simp (disch:=omega) [code151B0,hat,g6,e2,e3,q3,aq]
 ·have hrj:=hrj (by decide)
  obtain ⟨O1,m1,p1,l1,u1,e1⟩:=s150 h hb (by omega) (op:=25) (nn:=5)
  obtain ⟨pc,pt,px,cc,ct,cx,nt,nx,bud,cs,h1,h6,h9,h7,hkw,_,_,h8⟩:=p1.put (b:=b) (x:=⟨193,0,0,[66],[],[],[]⟩) hb (by omega) ⟨by decide,by decide,by decide,by decide⟩
  simp only [InsU.cells] at h7
  refine ⟨_,min m1 B.length,n+1+1,by omega,h8.le (by omega),by omega,by omega,fun w c=>?_⟩
  simp (disch:=omega) [code151B0,hx1,e1,-aAppend,h1,h7,h6,h9,hkw,InsU.cells,aq]
 ·have hrj:=hrj (by decide)
  obtain ⟨O1,m1,⟨n1,k1,p1⟩,l1,u1,e1⟩:=hl (by decide) O n k h (by omega)
  obtain ⟨O2,m2,⟨n2,k2,p2⟩,l2,u2,e2⟩:=hl (by decide) O1 n1 _ p1 (by omega)
  obtain ⟨O3,m3,p3,l3,u3,e3⟩:=s150 p2 hb (by omega) (op:=148) (nn:=0)
  refine ⟨O3,min m1 (min m2 m3),n2+1,by omega,p3.le (by omega),by omega,by omega,fun w c=>?_⟩
  simp (disch:=omega) [code151B0,hx1,e1,e2,e3,aq]
theorem s151_of (hb:b≤tN) {d:Nat} {x:Int} (hx:-9≤x) (hx2:x≤9) {j:Nat} (hj1:1≤j) (hj:0 < x→2*KK d+1≤j)
  (hi:0 < x→Expr tN tb tv B b dep 151 (x - 1) (KK d)) (hl:0 < x→Expr tN tb tv B b dep 183 (x - 1) (KK d)):Expr tN tb tv B b dep 151 x j:=by
 intro O n k h hk
 obtain ⟨pc,pt,px,cc,ct,cx,nt,nx',bud,hat,hset⟩:=h.at'
 obtain ⟨hlt,hBO⟩:=h.len
 have h1:=hset dep (IntKind.i64.wrap (bud - 1))
 obtain ⟨r,O2,nx,g1,g2,g3,g4,g5,g6⟩:=h1.next hb (x:=16) (by decide) (by decide)
 have hat2:=g4 B.length (by omega)
 rw [a9,if_pos rfl,if_pos hBO] at hat2
 have hset2:∀ y,(O.set B.length y)[B.length]? = some y:=fun y=>by rw [a9,if_pos rfl,if_pos hBO]
 have hr4:(r:Int).tmod 4=((r % 4:Nat):Int):=by rw [jb (by omega)]; omega
 by_cases c1:x≤0
 ·obtain ⟨O3,m3,n3,k3,p3,l3,u3,e3⟩:=sw151 (d:=d) hb hx hx2 g2 hj1 hk (r:=r % 4) (by omega) (fun h=>by omega) (fun h=>by omega) (fun h=>by omega)
  obtain ⟨m',q1,q2,q3⟩:=nx_min g5 l3
  have hmm:min B.length m'=m':=by omega
  refine ⟨O3,m',⟨n3,k3,p3⟩,q1,by omega,fun w=>?_⟩
  simp only [Int.natCast_emod,b7] at e3
  simp (disch:=omega) [az t151,code151,hat,hset2,g6,hat2,c1,hr4,e3,q3,hmm]
 ·by_cases c2:IntKind.i64.wrap (bud - 1)≤0
  ·obtain ⟨O3,m3,n3,k3,p3,l3,u3,e3⟩:=sw151 (d:=d) hb hx hx2 g2 hj1 hk (r:=r % 4) (by omega) (fun h=>by omega) (fun h=>by omega) (fun h=>by omega)
   obtain ⟨m',q1,q2,q3⟩:=nx_min g5 l3
   have hmm:min B.length m'=m':=by omega
   refine ⟨O3,m',⟨n3,k3,p3⟩,q1,by omega,fun w=>?_⟩
   simp only [Int.natCast_emod,b7] at e3
   simp (disch:=omega) [az t151,code151,hat,hset2,g6,hat2,c1,c2,hr4,e3,q3,hmm]
  ·obtain ⟨O3,m3,n3,k3,p3,l3,u3,e3⟩:=sw151 (d:=d) hb hx hx2 g2 hj1 hk (r:=r) (by omega) (fun _=>hj (by omega)) (fun _=>hi (by omega)) (fun _=>hl (by omega))
   obtain ⟨m',q1,q2,q3⟩:=nx_min g5 l3
   have hmm:min B.length m'=m':=by omega
   refine ⟨O3,m',⟨n3,k3,p3⟩,q1,by omega,fun w=>?_⟩
   simp (disch:=omega) [az t151,code151,hat,hset2,g6,hat2,c1,c2,e3,q3,hmm]
end
def acts183:List Int:=[97,101,105,109,127,131,113,129]
def acts183b:List Int:=[121,123,125]
section
attribute [-simp] getElem?_pos getElem?_neg List.all_eq_true
attribute [local simp] gz gs nltT nltF iltT iltF ileT nleT cf
theorem s183_of (hb:b≤tN) {i l j:Nat} {x:Int} (hx:-8≤x) (hx2:x≤9) (hj1:i+1≤j) (hj:0 < x→2*l+1≤j∧l+i+1≤j)
  (hi:Expr tN tb tv B b dep 151 (x - 1) i) (hl:0 < x→Expr tN tb tv B b dep 183 (x - 1) l):Expr tN tb tv B b dep 183 x j:=by
 intro O n k h hk
 have hx1:IntKind.i64.wrap (x - 1)=x - 1:=cf (by omega)
 obtain ⟨hlt,hBO⟩:=h.len
 obtain ⟨_,_,_,_,_,_,_,_,_,hat,_⟩:=h.at'
 obtain ⟨r,O1,nx1,f1,f2,f3,f4,f5,f6⟩:=h.next hb (x:=6) (by decide) (by decide)
 have hBO1:=f2.len.2
 obtain ⟨_,_,_,_,_,_,_,_,_,hat1,_⟩:=f2.at'
 by_cases c1:0 < x∧r < 2
 ·obtain ⟨c1,c2⟩:=c1
  obtain ⟨j1,j2⟩:=hj c1
  have hc:(r:Int) < 2:=by omega
  obtain ⟨O2,m2,⟨n2,k2,p2⟩,l2,u2,e2⟩:=hl c1 O1 n k f2 (by omega)
  obtain ⟨O3,m3,⟨n3,k3,p3⟩,l3,u3,e3⟩:=hl c1 O2 n2 _ p2 (by omega)
  obtain ⟨r2,O4,nx,g1,g2,g3,g4,g5,g6⟩:=(p3.app [.cells 1 (acts183.map (AVal.int .u8))]).next hb (x:=8) (by decide) (by decide)
  obtain ⟨y,hy⟩:=bytes_get acts183 (r:=r2) (by simp only [acts183,bp,a7]; omega)
  obtain ⟨O5,m5,p5,l5,u5,e5⟩:=s150 g2 hb (by omega) (op:=y) (nn:=0)
  obtain ⟨m',q1,q2,q3⟩:=nx_min g5 l5
  obtain ⟨m'',q4,q5,q6⟩:=nx_min f5 l2
  obtain ⟨_,_,_,_,_,_,_,_,_,hat3,_⟩:=p3.at'
  have hlen3:=p3.len
  have hat3:=fun X=>(ag (l₂:=X) hlen3.2).trans hat3
  have g7:=g4 O3.length (by omega)
  rw [dh] at g7
  simp only [acts183,cr,gg] at g6 g7 hy
  refine ⟨O5,min m'' (min m3 m'),⟨n3+1,by omega,p5.le (by omega)⟩,by omega,by omega,fun w=>?_⟩
  have hmm:∀ w,min w (min O.length (min m'' (min m3 m')))=min w (min m'' (min m3 m')):=fun w=>by omega
  rw [az t183]; simp (disch:=omega) [code183,code183B0,hat,f6,c1,hc,hx1,e2,e3,hat3,g6,g7,hy,e5,q3,q6,hmm,aq]
 ·by_cases c2:0 < x∧r=2
  ·obtain ⟨c2,rfl⟩:=c2
   obtain ⟨j1,j2⟩:=hj c2
   obtain ⟨O2,m2,⟨n2,k2,p2⟩,l2,u2,e2⟩:=hl c2 O1 n k f2 (by omega)
   obtain ⟨O3,m3,⟨n3,k3,p3⟩,l3,u3,e3⟩:=hi O2 n2 _ p2 (by omega)
   obtain ⟨r2,O4,nx,g1,g2,g3,g4,g5,g6⟩:=(p3.app [.cells 1 (acts183b.map (AVal.int .u8))]).next hb (x:=3) (by decide) (by decide)
   obtain ⟨y,hy⟩:=bytes_get acts183b (r:=r2) (by simp only [acts183b,bp,a7]; omega)
   obtain ⟨O5,m5,p5,l5,u5,e5⟩:=s150 g2 hb (by omega) (op:=y) (nn:=0)
   obtain ⟨m',q1,q2,q3⟩:=nx_min g5 l5
   obtain ⟨m'',q4,q5,q6⟩:=nx_min f5 l2
   obtain ⟨_,_,_,_,_,_,_,_,_,hat3,_⟩:=p3.at'
   have hlen3:=p3.len
   have hat3:=fun X=>(ag (l₂:=X) hlen3.2).trans hat3
   have g7:=g4 O3.length (by omega)
   rw [dh] at g7
   simp only [acts183b,cr,gg] at g6 g7 hy
   refine ⟨O5,min m'' (min m3 m'),⟨n3+1,by omega,p5.le (by omega)⟩,by omega,by omega,fun w=>?_⟩
   have hmm:∀ w,min w (min O.length (min m'' (min m3 m')))=min w (min m'' (min m3 m')):=fun w=>by omega
   rw [az t183]; simp (disch:=omega) [code183,code183B0,hat,f6,c2,hx1,e2,e3,hat3,g6,g7,hy,e5,q3,q6,hmm,aq]
  ·have hd:∀ z:List AVal,True:=fun _=>trivial
   by_cases c3:r=3
   ·subst c3
    obtain ⟨O5,m5,p5,l5,u5,e5⟩:=s150 f2 hb (by omega) (op:=22) (nn:=3)
    obtain ⟨m'',q4,q5,q6⟩:=nx_min f5 l5
    refine ⟨O5,m'',⟨n+1,by omega,p5.le (by omega)⟩,by omega,by omega,fun w=>?_⟩
    have hmm:∀ w,min w (min O.length m'')=min w m'':=fun w=>by omega
    by_cases c4:0 < x
    ·rw [az t183]; simp (disch:=omega) [code183,code183B0,hat,f6,c4,e5,q6,hmm,aq]
    ·rw [az t183]; simp (disch:=omega) [code183,code183B0,hat,f6,c4,e5,q6,hmm,aq]
   ·by_cases c4:r=4
    ·subst c4
     exact k4_183 hb h f2 f5 f6 hat (by omega) (by omega)
    ·have hc:¬ (r:Int) < 2∨¬ 0 < x:=by omega
     obtain ⟨O2,m2,⟨n2,k2,p2⟩,l2,u2,e2⟩:=hi O1 n k f2 (by omega)
     obtain ⟨O5,m5,p5,l5,u5,e5⟩:=s150 p2 hb (by omega) (op:=133) (nn:=0)
     obtain ⟨m'',q4,q5,q6⟩:=nx_min f5 l2
     have hmm:∀ w,min w (min O.length (min m'' m5))=min w (min m'' m5):=fun w=>by omega
     have n3:¬ (r:Int)=3:=by omega
     have n4:¬ (r:Int)=4:=by omega
     refine ⟨O5,min m'' m5,⟨n2+1,by omega,p5.le (by omega)⟩,by omega,by omega,fun w=>?_⟩
     by_cases c5:0 < x
     ·have n1:¬ (r:Int) < 2:=by omega
      have n2:¬ (r:Int)=2:=by omega
      rw [az t183]; simp (disch:=omega) [code183,code183B0,hat,f6,c5,n1,n2,n3,n4,hx1,e2,e5,q6,hmm,aq]
     ·rw [az t183]; simp (disch:=omega) [code183,code183B0,hat,f6,c5,n3,n4,hx1,e2,e5,q6,hmm,aq]
end
theorem expr_all (hb:b≤tN):∀ (d:Nat) (x:Int),-9≤x→x≤9→x≤d→Expr tN tb tv B b dep 151 x (KK d)∧(-8≤x→Expr tN tb tv B b dep 183 x (KK d))
 | 0,x,h1,h2,h3=>⟨s151_of (d:=0) hb h1 h2 (by decide) (fun h=>by omega) (fun h=>by omega) (fun h=>by omega),fun h4 =>
   s183_of (i:=1) (l:=0) hb h4 h2 (by decide) (fun h=>by omega) (s151_of (d:=0) hb (by omega) (by omega) (by decide) (fun h=>by omega) (fun h=>by omega) (fun h=>by omega)) (fun h=>by omega)⟩
 | d+1,x,h1,h2,h3=>by
  have hp:=KK_pos d
  refine ⟨s151_of (d:=d) hb h1 h2 (by simp only [KK]; omega) (fun h=>by simp only [KK]; omega) (fun h=>(expr_all hb d (x - 1) (by omega) (by omega) (by omega)).1) (fun h=>(expr_all hb d (x - 1) (by omega) (by omega) (by omega)).2 (by omega)),fun h4=>?_⟩
  exact s183_of (i:=KK d) (l:=KK d) hb h4 h2 (by simp only [KK]; omega) (fun h=>⟨by simp only [KK]; omega,by simp only [KK]; omega⟩) (expr_all hb d (x - 1) (by omega) (by omega) (by omega)).1 (fun h=>(expr_all hb d (x - 1) (by omega) (by omega) (by omega)).2 (by omega))
end Go.Abs.AbsMake

namespace Go.Abs.AbsMake
open Go.Abs.AbsDesc Go.Abs.AbsHier
variable {os O B:List AObj} {b w:Nat} {tN:Nat} {tb:List UInt8} {tv:AVal} {dep:Int} {n k:Nat}
def Act (tN:Nat) (tb:List UInt8) (tv:AVal) (B:List AObj) (b:Nat) (dep:Int) (g:Nat) (args:List AVal) (j:Nat):Prop :=
 ∀ (O:List AObj) (n k:Nat),Ws tN tb tv B O n k dep→k+j≤100000→Did tN tb tv B b g args (.tuple []) O fun O'=>∃ n',n≤n'∧Ws tN tb tv B O' n' (k+j) dep
theorem Ws.setN (h:Ws tN tb tv B O n k dep) {i n':Nat} (hi:i < n) {a0 a2 a3 a4 a5:AVal} {pc:Option (Nat × Nat)} {cc:Option Nat} (hat:O[B.length]? = some (.cells 6 [a0,.slice pc n' cc,a2,a3,a4,a5])) :
  ∃ q cs,pc=some (q,0)∧n'=n∧B.length < q∧q < O.length∧O[q]? = some (.cells 7 cs)∧cs.length=n*7∧∀ z:Int,Ws tN tb tv B (O.set q (.cells 7 (cs.take (i*7+1) ++ .int .i64 z :: cs.drop (i*7+2)))) n k dep:=by
 obtain ⟨pc',pt,px,cc',ct,cx,C,S,M,bud,hW,rfl,h2,h3,h4⟩:=h.ex
 have e:=hat.symm.trans hW.wr
 simp only [wrO,ap,AObj.cells.injEq,eb,AVal.slice.injEq,true_and,and_true] at e
 obtain ⟨_,⟨e1,e2,e3⟩,_⟩:=e
 subst e1 e2 e3
 cases pc with
 | none=>have:=(hW.c.none rfl).1; rw [this] at hi; simp at hi
 | some q =>
  obtain ⟨q,o⟩:=q
  obtain ⟨h5,h6,h7,h8⟩:=hW.c.some q o rfl
  subst h5
  have hlen:(C.flatMap InsU.cells).length=C.length*7:=flat_len InsU.cells 7 (fun _=>rfl) C
  refine ⟨q,_,rfl,rfl,h7,ah h8,h8,hlen,fun z=>?_⟩
  obtain ⟨C',hC,hW'⟩:=hW.setN rfl hi z
  have hc:i*7+1 < (C.flatMap InsU.cells).length:=by rw [hlen]; omega
  have hs:(C.flatMap InsU.cells).set (i*7+1) (.int .i64 z)=(C.flatMap InsU.cells).take (i*7+1) ++ .int .i64 z :: (C.flatMap InsU.cells).drop (i*7+2):=by rw [List.set_eq_take_append_cons_drop,if_pos hc]
  rw [hs] at hW'
  exact ⟨_,_,_,_,_,_,_,_,_,_,hW',hC,h2,h3,h4⟩
theorem s210 (h:Ws tN tb tv B O n k dep) (hb:b≤tN) (hk:k≤100000) {op:Int} :
  Did tN tb tv B b 210 [.ptr (some (B.length,0)),.int .u8 op] (.int .i64 n) O fun O'=>Ws tN tb tv B O' (n+1) (k+1) dep:=by
 obtain ⟨hlt,hBO⟩:=h.len
 obtain ⟨O1,m1,p1,l1,u1,e1⟩:=s150 h hb hk (op:=op) (nn:=0)
 obtain ⟨_,_,_,_,_,_,_,_,_,hat1,_⟩:=p1.at'
 obtain ⟨_,_,_,_,_,_,_,_,_,_,_,hn1,_⟩:=p1.ex
 refine ⟨O1,m1,p1,l1,u1,fun w=>?_⟩
 simp (disch:=omega) [-getElem?_pos,-getElem?_neg,-List.all_eq_true,gz,gs,nltT,nltF,iltT,iltF,ileT,nleT,cf,-sget,dy,dz,d7,az t210,code210,e1,hat1]
theorem natInt1 (r:Nat):((r:Int)=1)=(r=1):=by simp; omega
theorem natInt2 (r:Nat):((r:Int)=2)=(r=2):=by simp; omega
section
attribute [-simp] getElem?_pos getElem?_neg List.all_eq_true sget
attribute [local simp] gz gs nltT nltF iltT iltF ileT nleT cf dy dz d7
theorem sw184 (hb:b≤tN) (h:Ws tN tb tv B O n k dep) (hk:k+2≤100000) {r:Nat} :
  ∃ O' m n',n≤n'∧Ws tN tb tv B O' n' (k+2) dep∧tN≤m∧m≤B.length∧∀ (w:Nat) (c:AExit→St→Option (AVal × Heap)),
   xK T code184B0 ⟨[(0,.val (.ptr (some (B.length,0)))),(6,.val (.int .i64 r))],⟨O,b,w⟩⟩ (k:=⟨c⟩)=c .normal ⟨[],⟨O',b,min w m⟩⟩:=by
 obtain ⟨hlt,hBO⟩:=h.len
 have c4:r=0∨r=1∨r=2∨(¬ r=0∧¬ r=1∧¬ r=2):=by omega
 rcases c4 with rfl | rfl | rfl | ⟨c1,c2,c3⟩
 ·obtain ⟨O2,m2,p2,l2,u2,e2⟩:=s150 h hb (by omega) (op:=1) (nn:=0)
  refine ⟨O2,m2,n+1,by omega,p2.le (by omega),l2,u2,fun w c=>?_⟩
  simp (disch:=omega) [code184B0,e2]
 ·obtain ⟨pc,pt,px,cc,ct,cx,nt,nx,bud,cs,h1,h6,h9,h7,hkw,_,_,h8⟩:=h.put (b:=b) (x:=⟨187,0,0,[66],[],[],[]⟩) hb (by omega) ⟨by decide,by decide,by decide,by decide⟩
  simp only [InsU.cells] at h7
  refine ⟨_,B.length,n+1,by omega,h8.le (by omega),by omega,by omega,fun w c=>?_⟩
  simp (disch:=omega) [code184B0,-aAppend,h1,h7,h6,h9,hkw,InsU.cells]
 ·obtain ⟨O1,m1,p1,l1,u1,e1⟩:=s150 h hb (by omega) (op:=25) (nn:=5)
  obtain ⟨pc,pt,px,cc,ct,cx,nt,nx,bud,cs,h1,h6,h9,h7,hkw,_,_,h8⟩:=p1.put (b:=b) (x:=⟨192,0,0,[66],[],[],[]⟩) hb (by omega) ⟨by decide,by decide,by decide,by decide⟩
  simp only [InsU.cells] at h7
  refine ⟨_,min m1 B.length,n+1+1,by omega,h8.le (by omega),by omega,by omega,fun w c=>?_⟩
  simp (disch:=omega) [code184B0,e1,-aAppend,h1,h7,h6,h9,hkw,InsU.cells,aq]
 ·obtain ⟨pc,pt,px,cc,ct,cx,nt,nx,bud,cs,h1,h6,h9,h7,hkw,_,_,h8⟩:=h.put (b:=b) (x:=⟨187,0,0,[65],[],[],[]⟩) hb (by omega) ⟨by decide,by decide,by decide,by decide⟩
  simp only [InsU.cells] at h7
  refine ⟨_,B.length,n+1,by omega,h8.le (by omega),by omega,by omega,fun w c=>?_⟩
  simp (disch:=omega) [code184B0,c1,natInt1,c2,natInt2,c3,-aAppend,h1,h7,h6,h9,hkw,InsU.cells]
theorem s184 (hb:b≤tN):Act tN tb tv B b dep 184 [.ptr (some (B.length,0))] 2:=fun O n k h hk=>by
 obtain ⟨hlt,hBO⟩:=h.len
 obtain ⟨_,_,_,_,_,_,_,_,_,hat,_⟩:=h.at'
 obtain ⟨r,O1,nx1,f1,f2,f3,f4,f5,f6⟩:=h.next hb (x:=5) (by decide) (by decide)
 obtain ⟨O2,m2,n2,q1,p2,l2,u2,e2⟩:=sw184 hb f2 hk (r:=r)
 obtain ⟨m',q4,q5,q6⟩:=nx_min f5 l2
 have hmm:∀ w,min w (min O.length m')=min w m':=fun w=>by omega
 have hm2:min O.length m'=m':=by omega
 refine ⟨O2,m',⟨n2,q1,p2⟩,q4,by omega,fun w=>?_⟩
 simp (disch:=omega) [az t184,code184,hat,f6,e2,q6,hmm,hm2]
theorem sw188 (hb:b≤tN) (h:Ws tN tb tv B O n k dep) (hk:k+(KK 1+2)≤100000) {r:Nat} :
  ∃ O' m n',n≤n'∧Ws tN tb tv B O' n' (k+(KK 1+2)) dep∧tN≤m∧m≤B.length∧∀ (w:Nat) (c:AExit→St→Option (AVal × Heap)),
   xK T code188B0 ⟨[(0,.val (.ptr (some (B.length,0)))),(6,.val (.int .i64 r))],⟨O,b,w⟩⟩ (k:=⟨c⟩)=c .normal ⟨[],⟨O',b,min w m⟩⟩:=by
 have hKK:KK 1=5:=rfl
 have h151:Expr tN tb tv B b dep 151 1 (KK 1):=(expr_all hb 1 1 (by decide) (by decide) (by decide)).1
 have c4:r=0∨r=1∨r=2∨(¬ r=0∧¬ r=1∧¬ r=2):=by omega
 rcases c4 with rfl | rfl | rfl | ⟨c1,c2,c3⟩
 ·obtain ⟨O1,m1,p1,l1,u1,e1⟩:=s150 h hb (by omega) (op:=25) (nn:=7)
  obtain ⟨O2,m2,p2,l2,u2,e2⟩:=s154 p1 hb (by omega) (op:=184) (c:=[115,121,115]) (m:=[97,100,100]) (d:=[40,91,66,41,73]) (by decide) (by decide) (by decide)
  obtain ⟨O3,m3,p3,l3,u3,e3⟩:=s150 p2 hb (by omega) (op:=54) (nn:=1)
  refine ⟨O3,min m1 (min m2 m3),n+1+1+1,by omega,p3.le (by omega),by omega,by omega,fun w c=>?_⟩
  simp (disch:=omega) [code188B0,e1,e2,e3,aq]
 ·obtain ⟨O1,m1,⟨n1,k1,p1⟩,l1,u1,e1⟩:=h151 O n k h (by omega)
  obtain ⟨O2,m2,p2,l2,u2,e2⟩:=s154 p1 hb (by omega) (op:=184) (c:=[115,121,115]) (m:=[103,101,116]) (d:=[40,73,41,91,66]) (by decide) (by decide) (by decide)
  obtain ⟨O3,m3,p3,l3,u3,e3⟩:=s150 p2 hb (by omega) (op:=58) (nn:=7)
  refine ⟨O3,min m1 (min m2 m3),n1+1+1,by omega,p3.le (by omega),by omega,by omega,fun w c=>?_⟩
  simp (disch:=omega) [code188B0,e1,e2,e3,aq]
 ·obtain ⟨O1,m1,⟨n1,k1,p1⟩,l1,u1,e1⟩:=h151 O n k h (by omega)
  obtain ⟨O2,m2,p2,l2,u2,e2⟩:=s150 p1 hb (by omega) (op:=25) (nn:=7)
  obtain ⟨O3,m3,p3,l3,u3,e3⟩:=s154 p2 hb (by omega) (op:=184) (c:=[115,121,115]) (m:=[115,101,116]) (d:=[40,73,91,66,41,86]) (by decide) (by decide) (by decide)
  refine ⟨O3,min m1 (min m2 m3),n1+1+1,by omega,p3.le (by omega),by omega,by omega,fun w c=>?_⟩
  simp (disch:=omega) [code188B0,e1,e2,e3,aq]
 ·obtain ⟨O2,m2,p2,l2,u2,e2⟩:=s154 h hb (by omega) (op:=184) (c:=[115,121,115]) (m:=[99,111,117,110,116]) (d:=[40,41,73]) (by decide) (by decide) (by decide)
  obtain ⟨O3,m3,p3,l3,u3,e3⟩:=s150 p2 hb (by omega) (op:=54) (nn:=1)
  refine ⟨O3,min m2 m3,n+1+1,by omega,p3.le (by omega),by omega,by omega,fun w c=>?_⟩
  simp (disch:=omega) [code188B0,c1,natInt1,c2,natInt2,c3,e2,e3,aq]
theorem s188 (hb:b≤tN):Act tN tb tv B b dep 188 [.ptr (some (B.length,0))] (KK 1+2):=fun O n k h hk=>by
 obtain ⟨hlt,hBO⟩:=h.len
 obtain ⟨_,_,_,_,_,_,_,_,_,hat,_⟩:=h.at'
 obtain ⟨r,O1,nx1,f1,f2,f3,f4,f5,f6⟩:=h.next hb (x:=4) (by decide) (by decide)
 obtain ⟨O2,m2,n2,q1,p2,l2,u2,e2⟩:=sw188 hb f2 hk (r:=r)
 obtain ⟨m',q4,q5,q6⟩:=nx_min f5 l2
 have hm2:min O.length m'=m':=by omega
 refine ⟨O2,m',⟨n2,q1,p2⟩,q4,by omega,fun w=>?_⟩
 simp (disch:=omega) [az t188,code188,hat,f6,e2,q6,hm2]
end
end Go.Abs.AbsMake

namespace Go.Abs.AbsMake
open Go.Abs.AbsDesc Go.Abs.AbsHier
variable {os O B:List AObj} {b w:Nat} {tN:Nat} {tb:List UInt8} {tv:AVal} {dep:Int} {n k:Nat}
section
attribute [-simp] getElem?_pos getElem?_neg List.all_eq_true sget
attribute [local simp] gz gs nltT nltF iltT iltF ileT nleT cf dy dz d7
theorem l209 (_:b≤tN) {j:Nat} (hs:Act tN tb tv B b dep 152 [.ptr (some (B.length,0))] j):∀ (i:Nat) (O:List AObj) (n k:Nat),i≤3→Ws tN tb tv B O n k dep→k+i*j≤100000 →
  ∃ O' m n',n≤n'∧Ws tN tb tv B O' n' (k+i*j) dep∧tN≤m∧m≤B.length∧∀ (w:Nat) (c:AExit→St→Option (AVal × Heap)),w≤B.length →
   xK T (.loop code209L0) ⟨[(0,.val (.ptr (some (B.length,0)))),(2,.val (.int .i64 i))],⟨O,b,w⟩⟩ (k:=⟨c⟩)=c (.exit 0) ⟨[(0,.val (.ptr (some (B.length,0))))],⟨O',b,min w m⟩⟩
 | 0,O,n,k,_,h,hk=>by
  obtain ⟨hlt,hBO⟩:=h.len
  refine ⟨O,B.length,n,aj _,by simpa using h,by omega,aj _,fun w c hw=>?_⟩
  rw [dk]
  have hmm:min w B.length=w:=by omega
  simp (disch:=omega) [code209L0,hmm]
 | i+1,O,n,k,hi,h,hk=>by
  have hm:(i+1)*j=j+i*j:=by rw [dr,Nat.one_mul,Nat.add_comm]
  obtain ⟨O1,m1,⟨n1,q1,p1⟩,l1,u1,e1⟩:=hs O n k h (by omega)
  obtain ⟨O2,m2,n2,q2,p2,l2,u2,e2⟩:=l209 ‹_› hs i O1 n1 (k+j) (by omega) p1 (by omega)
  have ek:k+j+i*j=k+(i+1)*j:=by omega
  rw [ek] at p2
  refine ⟨O2,min m1 m2,n2,by omega,p2,by omega,by omega,fun w c hw=>?_⟩
  have e2:=e2 (min w m1) c (by omega)
  rw [dk]
  have c1:(0:Int) < (i:Int)+1:=by omega
  generalize ACode.loop code209L0=L at e2 ⊢
  simp (disch:=omega) [code209L0,e1,e2,c1,aq]
theorem s209 (hb:b≤tN) (hd:0≤dep) (hd2:dep≤1000) {j:Nat} (hs:Act tN tb tv B b (dep+1) 152 [.ptr (some (B.length,0))] j):Act tN tb tv B b dep 209 [.ptr (some (B.length,0))] (3*j):=fun O n k h hk=>by
 obtain ⟨hlt,hBO⟩:=h.len
 obtain ⟨pc,pt,px,cc,ct,cx,nt,nx',bud,hat,hset⟩:=h.at'
 have h1:=hset (dep+1) bud
 have hset2:∀ y,(O.set B.length y)[B.length]? = some y:=fun y=>by rw [a9,if_pos rfl,if_pos hBO]
 obtain ⟨r,O2,nx,g1,g2,g3,g4,g5,g6⟩:=h1.next hb (x:=3) (by decide) (by decide)
 have hmul:(r+1)*j≤3*j:=d9 _ (by omega)
 obtain ⟨O3,m3,n3,q3,p3,l3,u3,e3⟩:=l209 hb hs (r+1) O2 n k (by omega) g2 (by omega)
 obtain ⟨pc3,pt3,px3,cc3,ct3,cx3,nt3,nx3,bud3,hat3,hset3⟩:=p3.at'
 have h4:=hset3 dep bud3
 obtain ⟨m',q4,q5,q6⟩:=nx_min g5 l3
 have hnx:=nx_le g5 B.length
 have e3:=fun c=>e3 (nx B.length) c hnx
 simp only [Int.natCast_add,b7] at e3
 have er:(1:Int)+r=r+1:=by omega
 have w1:IntKind.i64.wrap (dep+1)=dep+1:=cf (by omega)
 have w2:IntKind.i64.wrap (dep+1 - 1)=dep:=by rw [Int.add_sub_cancel]; exact cf (by omega)
 have hmm:min m' B.length=m':=by omega
 have hmm2:min B.length m'=m':=by omega
 refine ⟨_,m',⟨n3,q3,h4.le (by omega)⟩,q4,by omega,fun w=>?_⟩
 simp (disch:=omega) [az t209,code209,hat,hset2,w1,g6,er,e3,hat3,w2,q6,hmm,hmm2]
end
end Go.Abs.AbsMake

namespace Go.Abs.AbsMake
open Go.Abs.AbsDesc Go.Abs.AbsHier
variable {os O B:List AObj} {b w:Nat} {tN:Nat} {tb:List UInt8} {tv:AVal} {dep:Int} {n k:Nat}
theorem tail7 {i n:Nat} (hi:i < n) {cs:List AVal} (hl:cs.length=n*7):i*7+7≤cs.length∧i*7+1 < cs.length∧i*7+1+1≤cs.length:=by
 have:(i+1)*7≤n*7:=d9 _ hi
 omega
theorem Ws.aim (h:Ws tN tb tv B O n k dep) (hb:b≤tN) (hk:k+1≤100000) {i:Nat} (hi:i < n) :
  ∃ (O1:List AObj) (nx:Nat→Nat) (q:Nat) (cs:List AVal) (a0 a2 a3 a3' a4 a5:AVal) (cc:Option Nat),O[B.length]? = some (.cells 6 [a0,.slice (some (q,0)) n cc,a2,a3,a4,a5])∧O1[B.length]? = some (.cells 6 [a0,.slice (some (q,0)) n cc,a2,a3',a4,a5])∧O.length≤O1.length ∧
   ((∀ w,nx w=w)∨(∀ w,nx w=min w B.length))∧(∀ w,xCall T 100208 [.ptr (some (B.length,0)),.slice none 0 (some 0)] ⟨O,b,w⟩=some (.int .i64 n,⟨O1,b,nx w⟩)) ∧
   B.length < q∧q < O.length∧O1[q]? = some (.cells 7 cs)∧cs.length=n*7∧Ws tN tb tv B (O1.set q (.cells 7 (cs.take (i*7+1) ++ .int .i64 n :: cs.drop (i*7+2)))) n (k+1) dep:=by
 obtain ⟨pc,pt,px,cc,ct,cx,nt,nx',bud,hat,_⟩:=h.at'
 obtain ⟨O1,nx,a3',p1,hat1,hlen,hnx,e1⟩:=s208 h hb hk .nil hat
 obtain ⟨q,cs,h1,_,h3,h4,h5,h6,h7⟩:=p1.setN hi hat1
 subst h1
 exact ⟨O1,nx,q,cs,_,_,_,a3',_,_,cc,hat,hat1,hlen,hnx,e1,h3,((h.lows hat).1 _ _ rfl).1,h5,h6,h7 n⟩
section
attribute [-simp] getElem?_pos getElem?_neg List.all_eq_true sget
attribute [local simp] gz gs nltT nltF iltT iltF ileT nleT cf dy dz d7
theorem r185a (h:Ws tN tb tv B O n k dep) (hb:b≤tN) (hk:k+1≤100000) {i:Nat} (hi:i < n) {z:AVal} :
  ∃ O',Ws tN tb tv B O' n (k+1) dep∧∀ (w:Nat) (c:AExit→St→Option (AVal × Heap)),w≤B.length →
   xK T code185R0 ⟨[(0,.val (.ptr (some (B.length,0)))),(2,.val (.int .i64 i)),(3,.val z)],⟨O,b,w⟩⟩ (k:=⟨c⟩)=c .normal ⟨[(0,.val (.ptr (some (B.length,0)))),(3,.val z)],⟨O',b,w⟩⟩:=by
 obtain ⟨hlt,hBO⟩:=h.len
 obtain ⟨O1,nx,q,cs,a0,a2,a3,a3',a4,a5,cc,hat,hat1,hlen,hnx,e1,h3,h4,h5,h6,h7⟩:=h.aim hb hk hi
 obtain ⟨t1,t2,t3⟩:=tail7 hi h6
 refine ⟨_,h7,fun w c hw=>?_⟩
 have hn1:n≤9223372036854775807:=by
  obtain ⟨_,_,_,_,_,_,_,_,_,_,_,_,hn,_⟩:=h.ex
  omega
 have hwl:nx O.length=O.length∨nx O.length=B.length:=by rcases hnx with g | g <;> rw [g] <;> omega
 have hm1:min w B.length=w:=by omega
 have hm2:min w q=w:=by omega
 have hm3:min w O.length=w:=by omega
 rcases hwl with hwl | hwl <;>
  simp (maxSteps:=3000000) (disch:=omega) [au,benign,again,AVal.eqb,code185R0,hat,e1,hat1,h5,hwl,hm1,hm2,hm3]
theorem r185b (h:Ws tN tb tv B O n k dep) (hb:b≤tN) (hk:k+1≤100000) {i:Nat} (hi:i < n) :
  ∃ O',Ws tN tb tv B O' n (k+1) dep∧∀ (w:Nat) (c:AExit→St→Option (AVal × Heap)),w≤B.length →
   xK T code185R1 ⟨[(0,.val (.ptr (some (B.length,0)))),(3,.val (.int .i64 i))],⟨O,b,w⟩⟩ (k:=⟨c⟩)=c .normal ⟨[],⟨O',b,w⟩⟩:=by
 obtain ⟨hlt,hBO⟩:=h.len
 obtain ⟨O1,nx,q,cs,a0,a2,a3,a3',a4,a5,cc,hat,hat1,hlen,hnx,e1,h3,h4,h5,h6,h7⟩:=h.aim hb hk hi
 obtain ⟨t1,t2,t3⟩:=tail7 hi h6
 refine ⟨_,h7,fun w c hw=>?_⟩
 have hn1:n≤9223372036854775807:=by
  obtain ⟨_,_,_,_,_,_,_,_,_,_,_,_,hn,_⟩:=h.ex
  omega
 have hwl:nx O.length=O.length∨nx O.length=B.length:=by rcases hnx with g | g <;> rw [g] <;> omega
 have hm1:min w B.length=w:=by omega
 have hm2:min w q=w:=by omega
 have hm3:min w O.length=w:=by omega
 rcases hwl with hwl | hwl <;>
  simp (maxSteps:=3000000) (disch:=omega) [au,benign,again,AVal.eqb,code185R1,hat,e1,hat1,h5,hwl,hm1,hm2,hm3]
theorem r186a (h:Ws tN tb tv B O n k dep) (hb:b≤tN) (hk:k+1≤100000) {i:Nat} (hi:i < n) :
  ∃ O',Ws tN tb tv B O' n (k+1) dep∧∀ (w:Nat) (c:AExit→St→Option (AVal × Heap)),w≤B.length →
   xK T code186R0 ⟨[(0,.val (.ptr (some (B.length,0)))),(3,.val (.int .i64 i))],⟨O,b,w⟩⟩ (k:=⟨c⟩)=c .normal ⟨[],⟨O',b,w⟩⟩:=by
 obtain ⟨hlt,hBO⟩:=h.len
 obtain ⟨O1,nx,q,cs,a0,a2,a3,a3',a4,a5,cc,hat,hat1,hlen,hnx,e1,h3,h4,h5,h6,h7⟩:=h.aim hb hk hi
 obtain ⟨t1,t2,t3⟩:=tail7 hi h6
 refine ⟨_,h7,fun w c hw=>?_⟩
 have hn1:n≤9223372036854775807:=by
  obtain ⟨_,_,_,_,_,_,_,_,_,_,_,_,hn,_⟩:=h.ex
  omega
 have hwl:nx O.length=O.length∨nx O.length=B.length:=by rcases hnx with g | g <;> rw [g] <;> omega
 have hm1:min w B.length=w:=by omega
 have hm2:min w q=w:=by omega
 have hm3:min w O.length=w:=by omega
 rcases hwl with hwl | hwl <;>
  simp (maxSteps:=3000000) (disch:=omega) [au,benign,again,AVal.eqb,code186R0,hat,e1,hat1,h5,hwl,hm1,hm2,hm3]
end
end Go.Abs.AbsMake

namespace Go.Abs.AbsMake
open Go.Abs.AbsDesc Go.Abs.AbsHier
variable {os O B:List AObj} {b w:Nat} {tN:Nat} {tb:List UInt8} {tv:AVal} {dep:Int} {n k:Nat}
def acts185:List Int:=[153,154,155,156,157,158]
section
attribute [-simp] getElem?_pos getElem?_neg List.all_eq_true sget
attribute [local simp] gz gs nltT nltF iltT iltF ileT nleT cf dy dz d7
theorem s185 (hb:b≤tN) {j:Nat} (hs:Act tN tb tv B b dep 209 [.ptr (some (B.length,0))] j):Act tN tb tv B b dep 185 [.ptr (some (B.length,0))] (9+2*j):=fun O n k h hk=>by
 have hKK:KK 1=5:=rfl
 obtain ⟨hlt,hBO⟩:=h.len
 have h151:Expr tN tb tv B b dep 151 1 (KK 1):=(expr_all hb 1 1 (by decide) (by decide) (by decide)).1
 obtain ⟨O1,m1,⟨n1,k1,p1⟩,l1,u1,e1⟩:=h151 O n k h (by omega)
 obtain ⟨r2,O2,nx,g1,g2,g3,g4,g5,g6⟩:=(p1.app [.cells 1 (acts185.map (AVal.int .u8))]).next hb (x:=6) (by decide) (by decide)
 obtain ⟨y,hy⟩:=bytes_get acts185 (r:=r2) (by simp only [acts185,bp,a7]; omega)
 obtain ⟨O3,m3,p3,l3,u3,e3⟩:=s210 g2 hb (by omega) (op:=y)
 obtain ⟨m',q1,q2,q3⟩:=nx_min g5 l3
 obtain ⟨_,_,_,_,_,_,_,_,_,hat1,_⟩:=p1.at'
 have hlen1:=p1.len
 have hat1:=fun X=>(ag (l₂:=X) hlen1.2).trans hat1
 have g7:=g4 O1.length (by omega)
 rw [dh] at g7
 simp only [acts185,cr,gg] at g6 g7 hy
 obtain ⟨O4,m4,⟨n4,k4,p4⟩,l4,u4,e4⟩:=hs O3 _ _ p3 (by omega)
 obtain ⟨O5,m5,p5,l5,u5,e5⟩:=s210 p4 hb (by omega) (op:=167)
 obtain ⟨O6,p6,e6⟩:=r185a p5 hb (by omega) (i:=n1) (by omega) (z:=.int .i64 n4)
 obtain ⟨O7,m7,⟨n7,k7,p7⟩,l7,u7,e7⟩:=hs O6 _ _ p6 (by omega)
 obtain ⟨O8,p8,e8⟩:=r185b p7 hb (by omega) (i:=n4) (by omega)
 refine ⟨O8,min m1 (min m' (min m4 (min m5 m7))),⟨n7,by omega,p8.le (by omega)⟩,by omega,by omega,fun w=>?_⟩
 simp (maxSteps:=3000000) (disch:=omega) [az t185,code185,e1,hat1,g6,g7,hy,e3,q3,e4,e5,e6,e7,e8,aq]
theorem s186 (hb:b≤tN) {j:Nat} (hs:Act tN tb tv B b dep 209 [.ptr (some (B.length,0))] j):Act tN tb tv B b dep 186 [.ptr (some (B.length,0))] (8+j):=fun O n k h hk=>by
 obtain ⟨hlt,hBO⟩:=h.len
 obtain ⟨_,_,_,_,_,_,_,_,_,hat,_⟩:=h.at'
 obtain ⟨r2,O1,nx,g1,g2,g3,g4,g5,g6⟩:=h.next hb (x:=5) (by decide) (by decide)
 obtain ⟨O2,m2,p2,l2,u2,e2⟩:=s153 g2 hb (by omega) (x:=r2) (by omega) (by omega)
 obtain ⟨m',q1,q2,q3⟩:=nx_min g5 l2
 obtain ⟨O3,m3,p3,l3,u3,e3⟩:=s150 p2 hb (by omega) (op:=54) (nn:=2)
 obtain ⟨_,_,_,_,_,_,_,_,_,hat3,_⟩:=p3.at'
 obtain ⟨O4,nx4,a4,p4,_,_,hnx4,e4⟩:=s208 p3 hb (by omega) .nil hat3
 obtain ⟨O5,m5,p5,l5,u5,e5⟩:=s150 p4 hb (by omega) (op:=21) (nn:=2)
 simp only [a7] at e4
 have q5:∀ w,min (nx4 w) m5=min w m5:=fun w=>by rcases hnx4 with g | g <;> rw [g] <;> omega
 obtain ⟨O6,m6,p6,l6,u6,e6⟩:=s210 p5 hb (by omega) (op:=158)
 obtain ⟨O7,m7,⟨n7,k7,p7⟩,l7,u7,e7⟩:=hs O6 _ _ p6 (by omega)
 obtain ⟨pc,pt,px,cc,ct,cx,nt,nx',bud,cs,h1,h6,h9,h7,hkw,_,_,p8⟩:=p7.put (b:=b) (x:=⟨132,2,-1,[],[],[],[]⟩) hb (by omega) ⟨by decide,by decide,by decide,by decide⟩
 simp only [InsU.cells] at h7
 simp only [InsU.cells] at p8
 obtain ⟨O9,m9,p9,l9,u9,e9⟩:=s150 p8 hb (by omega) (op:=167) (nn:=n+1+1)
 obtain ⟨O10,p10,e10⟩:=r186a p9 hb (by omega) (i:=n+1+1+1) (by omega)
 simp only [Int.natCast_add,b7] at e10
 refine ⟨O10,min m' (min m3 (min m5 (min m6 (min m7 (min B.length m9))))),⟨_,by omega,p10.le (by omega)⟩,by omega,by omega,fun w=>?_⟩
 simp (maxSteps:=3000000) (disch:=omega) [az t186,code186,hat,g6,e2,q3,e3,e4,e5,q5,e6,e7,-aAppend,h1,h7,h6,h9,hkw,e9,e10,aq]
end
end Go.Abs.AbsMake

namespace Go.Abs.AbsMake
open Go.Abs.AbsDesc Go.Abs.AbsHier
variable {os O B:List AObj} {b w:Nat} {tN:Nat} {tb:List UInt8} {tv:AVal} {dep:Int} {n k:Nat}
theorem Ws.last (h:Ws tN tb tv B O n k dep) (hn:0 < n) {a0 a2 a3 a4 a5:AVal} {pc:Option (Nat × Nat)} {n':Nat} {cc:Option Nat} (hat:O[B.length]? = some (.cells 6 [a0,.slice pc n' cc,a2,a3,a4,a5])) :
  ∃ q cs v,pc=some (q,0)∧n'=n∧O[q]? = some (.cells 7 cs)∧cs.length=n*7∧cs[(n - 1)*7]? = some (.int .u8 v):=by
 obtain ⟨q,cs,h1,h2,h3,h4,h5,h6,h7⟩:=h.setN (i:=0) hn hat
 obtain ⟨pc',pt,px,cc',ct,cx,C,S,M,bud,hW,rfl,_⟩:=h.ex
 have e:=hat.symm.trans hW.wr
 simp only [wrO,ap,AObj.cells.injEq,eb,AVal.slice.injEq,true_and,and_true] at e
 obtain ⟨_,⟨e1,_,_⟩,_⟩:=e
 have hR:Row O 7 InsU.cells C pc':=Own.row (f:=InsU.cells) (fun _=>rfl) hW.c
 obtain ⟨x,hx⟩:∃ x,C[C.length - 1]? = some x:=⟨_,ak (by omega)⟩
 obtain ⟨p,o,cs',ha,hpp,hpl,hcs,ht⟩:=gm hR hx
 rw [← e1,h1] at ha
 simp only [ap,bt] at ha
 obtain ⟨rfl,rfl⟩:=ha
 rw [h5] at hpp
 simp only [ap,AObj.cells.injEq,true_and] at hpp
 subst hpp
 have:=take_get (k:=0) ht (by decide)
 rw [dc,fm] at this
 exact ⟨q,cs,x.op,h1,h2,h5,h6,this⟩
theorem Ws.trap (h:Ws tN tb tv B O n k dep) (hb:b≤tN) (hk:k≤100000) {x:TrapU} (hx:x.cls ∈ classesT) :
  ∃ pc pt px cc ct cx nt nx bud cs,O[B.length]? = some (.cells 6 [.ptr (some (tN,0)),.slice pc n cc,.slice pt nt ct,.slice px nx cx,.int .i64 dep,.int .i64 bud]) ∧
   (∀ X,(killO pt O++X)[B.length]? = some (.cells 6 [.ptr (some (tN,0)),.slice pc n cc,.slice pt nt ct,.slice px nx cx,.int .i64 dep,.int .i64 bud])) ∧
   (∀ w,aAppend 4 40 ⟨O++[AObj.cells 4 x.cells],b,w⟩ (.slice pt nt ct) (.slice (some (O.length,0)) 1 (some 1))=some (.slice (some (O.length+1,0)) (nt+1) none,⟨killO pt O++[AObj.cells 4 x.cells,AObj.cells 4 cs],b,killW pt w⟩)) ∧
   (∀ w,min (killW pt w) B.length=min w B.length) ∧
   Ws tN tb tv B ((killO pt O++[AObj.cells 4 x.cells,AObj.cells 4 cs]).set B.length (.cells 6 [.ptr (some (tN,0)),.slice pc n cc,.slice (some (O.length+1,0)) (nt+1) none,.slice px nx cx,.int .i64 dep,.int .i64 bud])) n (k+1) dep:=by
 obtain ⟨pc,pt,px,cc,ct,cx,C,S,M,bud,hW,rfl,h2,h3,h4⟩:=h.ex
 have h1:=app_own (b:=b) (by':=40) (x:=x) (f:=TrapU.cells) (fun _=>rfl) hW.s (by have:=hW.lt; omega) (by omega) (by omega) []
 have h5:=hW.addS hx []
 simp only [b0,a7,fm] at h1 h5
 refine ⟨pc,pt,px,cc,ct,cx,S.length,M.length,bud,_,hW.wr,fun X=>?_,h1,fun w=>?_,⟨_,_,_,_,_,_,_,_,_,_,h5,rfl,by omega,by simp; omega,by omega⟩⟩
 ·rw [ag (by simpa using hW.len),kill_get fun o e=>by have:=(hW.s.some _ _ e).2.2.1; omega]; exact hW.wr
 ·cases pt with
  | none=>rfl
  | some q=>obtain ⟨i,o⟩:=q; have:=(hW.s.some _ _ rfl).2.2.1; simp only [killW]; omega
def clsR:List AVal:=[.str [],.str [84,104,114,111,119,97,98,108,101],.str [77,97,116,104,70,97,117,108,116],.str [79,111,112,115],.str [78,117,108,108,70,97,117,108,116]]
theorem cls_get {r:Nat} (hr:r < 5):∃ y,clsR[r]? = some (.str y)∧y ∈ classesT∧y.length≤20:=by
 have:r=0∨r=1∨r=2∨r=3∨r=4:=by omega
 rcases this with rfl | rfl | rfl | rfl | rfl <;> exact ⟨_,rfl,by decide,by decide⟩
section
attribute [-simp] getElem?_pos getElem?_neg List.all_eq_true sget
attribute [local simp] gz gs nltT nltF iltT iltF ileT nleT cf dy dz d7
theorem t187_0 (h:Ws tN tb tv B O n k dep) (hb:b≤tN) (hk:k+1≤100000) {e from' to' at' aft:Int} (he:e = -1∨∃ i:Nat,e=i∧i < n) {y:Str} (hy:y ∈ classesT) :
  ∃ O',Ws tN tb tv B O' n (k+1) dep∧∀ (w:Nat) (c:AExit→St→Option (AVal × Heap)),w≤B.length →
   xK T code187T0 ⟨[(0,.val (.ptr (some (B.length,0)))),(2,.val (.int .i64 from')),(3,.val (.int .i64 e)),(4,.val (.int .i64 to')),(5,.val (.str y)),(7,.val (.int .i64 at')),(8,.val (.int .i64 aft))],⟨O,b,w⟩⟩ (k:=⟨c⟩)=c .normal ⟨[],⟨O',b,w⟩⟩:=by
 obtain ⟨hlt,hBO⟩:=h.len
 rcases he with rfl | ⟨i,rfl,hi⟩
 ·obtain ⟨pc,pt,px,cc,ct,cx,nt,nx,bud,cs,h1,h9,h7,hkw,h8⟩:=h.trap (b:=b) (x:=⟨from',to',at',y⟩) hb (by omega) hy
  simp only [TrapU.cells] at h7 h8 h9
  refine ⟨_,h8,fun w c hw=>?_⟩
  have hm1:min w B.length=w:=by omega
  simp (disch:=omega) [code187T0,-aAppend,h1,h7,h9,hkw,hm1,TrapU.cells]
 ·obtain ⟨pc0,_,_,cc0,_,_,_,_,_,hat0,_⟩:=h.at'
  obtain ⟨q,cs0,rfl,_,q3,q4,q5,q6,q7⟩:=h.setN hi hat0
  have q7:=q7 aft
  obtain ⟨t1,t2,t3⟩:=tail7 hi q6
  obtain ⟨pc,pt,px,cc,ct,cx,nt,nx,bud,cs,h1,h9,h7,hkw,h8⟩:=q7.trap (b:=b) (x:=⟨from',to',at',y⟩) hb (by omega) hy
  simp only [TrapU.cells] at h7 h8 h9
  have hll:∀ Y,(O.set q Y).length=O.length:=fun Y=>fw
  rw [hll] at h7 h8
  refine ⟨_,h8,fun w c hw=>?_⟩
  have hm1:min w B.length=w:=by omega
  have hm2:min w q=w:=by omega
  have hn1:n≤9223372036854775807:=by
   obtain ⟨_,_,_,_,_,_,_,_,_,_,_,_,hn,_⟩:=h.ex
   omega
  simp (disch:=omega) [code187T0,-aAppend,hat0,q5,h1,h7,h9,hkw,hm1,hm2,TrapU.cells]
theorem t187_1 (h:Ws tN tb tv B O n k dep) (hb:b≤tN) {j:Nat} (hs:Act tN tb tv B b dep 209 [.ptr (some (B.length,0))] j) (hk:k+(j+4)≤100000) {e from' to':Int} (he:e = -1∨∃ i:Nat,e=i∧i < n) :
  ∃ O' m n',n≤n'∧Ws tN tb tv B O' n' (k+(j+4)) dep∧tN≤m∧m≤B.length∧∀ (w:Nat) (c:AExit→St→Option (AVal × Heap)),w≤B.length →
   xK T code187T1 ⟨[(0,.val (.ptr (some (B.length,0)))),(2,.val (.int .i64 from')),(3,.val (.int .i64 e)),(4,.val (.int .i64 to'))],⟨O,b,w⟩⟩ (k:=⟨c⟩)=c .normal ⟨[],⟨O',b,min w m⟩⟩:=by
 obtain ⟨hlt,hBO⟩:=h.len
 obtain ⟨_,_,_,_,_,_,_,_,_,hat,_⟩:=h.at'
 have hatX:=fun X=>(ag (l₂:=X) hBO).trans hat
 obtain ⟨r2,O2,nx,g1,g2,g3,g4,g5,g6⟩:=(h.app [.cells 1 clsR]).next hb (x:=5) (by decide) (by decide)
 obtain ⟨y,hy,hy2,hy3⟩:=cls_get (r:=r2) (by omega)
 have g7:=g4 O.length (by omega)
 rw [dh] at g7
 have hO2:=g2.len.2
 obtain ⟨s,hsl,hse⟩:∃ s:Str,s.length≤100∧s=76 :: ((if y=[] then throwT else y)++[59]):=⟨_,by split <;> simp [throwT] <;> omega,rfl⟩
 have g8:=g2.app [.cells 1 [.str s]]
 obtain ⟨_,_,_,_,_,_,_,_,_,hat8,_⟩:=g8.at'
 obtain ⟨O3,nx3,a3,p3,hat3,hl3,hnx3,e3⟩:=s208 g8 hb (by omega) (.one O2.length s hO2 hsl (by rw [dh]; rfl)) hat8
 obtain ⟨O4,m4,p4,l4,u4,e4⟩:=s150 p3 hb (by omega) (op:=87) (nn:=0)
 have q4:∀ w,min (nx3 w) m4=min w m4:=fun w=>by rcases hnx3 with g | g <;> rw [g] <;> omega
 obtain ⟨m',q1,q2,q3⟩:=nx_min g5 l4
 obtain ⟨O5,m5,⟨n5,k5,p5⟩,l5,u5,e5⟩:=hs O4 _ _ p4 (by omega)
 obtain ⟨_,_,_,_,_,_,_,_,_,hat5,_⟩:=p5.at'
 obtain ⟨O6,nx6,a6,p6,hat6,hl6,hnx6,e6⟩:=s208 p5 hb (by omega) .nil hat5
 obtain ⟨O7,p7,e7⟩:=t187_0 p6 hb (by omega) (e:=e) (from':=from') (to':=to') (at':=n) (aft:=n5) (by
  rcases he with he | ⟨i,he,hi⟩
  ·exact .inl he
  ·exact .inr ⟨i,he,by omega⟩) hy2
 have q6:∀ w,w≤B.length→nx6 w=w:=fun w hw=>by rcases hnx6 with g | g <;> rw [g] <;> omega
 simp only [clsR] at g6 g7 hy
 simp only [a7,ce] at e3 e6
 refine ⟨O7,min m' m5,n5,by omega,p7.le (by omega),by omega,by omega,fun w c hw=>?_⟩
 have q7:nx6 (min w (min m' m5))=min w (min m' m5):=q6 _ (by omega)
 have e7:=e7 (min w (min m' m5)) c (by omega)
 by_cases hy0:y=[]
 ·rw [if_pos hy0] at hse
  subst hy0
  simp only [hse,throwT,b9,b0] at e3
  simp (disch:=omega) [code187T1,hatX,g6,g7,hy,e3,e4,q4,q3,e5,e6,q7,e7,aq]
 ·rw [if_neg hy0] at hse
  rw [hse] at e3
  simp (disch:=omega) [code187T1,hatX,g6,g7,hy,hy0,e3,e4,q4,q3,e5,e6,q7,e7,aq]
end
end Go.Abs.AbsMake

namespace Go.Abs.AbsMake
open Go.Abs.AbsDesc Go.Abs.AbsHier
variable {os O B:List AObj} {b w:Nat} {tN:Nat} {tb:List UInt8} {tv:AVal} {dep:Int} {n k:Nat}
section
attribute [-simp] getElem?_pos getElem?_neg List.all_eq_true sget
attribute [local simp] gz gs nltT nltF iltT iltF ileT nleT cf dy dz d7
theorem t187_2 (h:Ws tN tb tv B O n k dep) (hn:0 < n) (hb:b≤tN) {j:Nat} (hs:Act tN tb tv B b dep 209 [.ptr (some (B.length,0))] j) (hk:k+(j+5)≤100000) {from':Int} :
  ∃ O' m n',n≤n'∧Ws tN tb tv B O' n' (k+(j+5)) dep∧tN≤m∧m≤B.length∧∀ (w:Nat) (c:AExit→St→Option (AVal × Heap)),w≤B.length →
   xK T code187T2 ⟨[(0,.val (.ptr (some (B.length,0)))),(2,.val (.int .i64 from')),(3,.val (.int .i64 (-1)))],⟨O,b,w⟩⟩ (k:=⟨c⟩)=c .normal ⟨[],⟨O',b,min w m⟩⟩:=by
 obtain ⟨hlt,hBO⟩:=h.len
 obtain ⟨pc,pt,px,cc,ct,cx,nt,nx',bud,hat,_⟩:=h.at'
 obtain ⟨q,cs,v,rfl,_,h3,h4,h5⟩:=h.last hn hat
 have hn1:n≤9223372036854775807:=by
  obtain ⟨_,_,_,_,_,_,_,_,_,_,_,_,hn,_⟩:=h.ex
  omega
 have w1:IntKind.i64.wrap ((n:Int) - 1)=((n - 1:Nat):Int):=by rw [cf (by omega)]; omega
 have c0:¬ ((n - 1:Nat):Int) < 0:=by omega
 have c1:((n - 1:Nat):Int) < n:=by omega
 have t1:(n - 1)*7+7≤cs.length:=by
  have:(n - 1+1)*7=n*7:=by congr 1; omega
  omega
 generalize hn0:n - 1=l at *
 by_cases hv:v=0
 ·obtain ⟨O1,m1,p1,l1,u1,e1⟩:=s210 h hb (by omega) (op:=167)
  obtain ⟨O2,m2,n2,k2,p2,l2,u2,e2⟩:=t187_1 p1 hb hs (by omega) (e:=n) (from':=from') (to':=n) (.inr ⟨n,rfl,by omega⟩)
  refine ⟨O2,min m1 m2,n2,by omega,p2.le (by omega),by omega,by omega,fun w c hw=>?_⟩
  have e2:=e2 (min w m1) c (by omega)
  subst hv
  simp (disch:=omega) [code187T2,hat,w1,c0,c1,h3,h5,e1,e2,aq]
 ·obtain ⟨O2,m2,n2,k2,p2,l2,u2,e2⟩:=t187_1 h hb hs (by omega) (e:=-1) (from':=from') (to':=n) (.inl rfl)
  refine ⟨O2,m2,n2,by omega,p2.le (by omega),by omega,by omega,fun w c hw=>?_⟩
  have e2:=e2 w c (by omega)
  simp (disch:=omega) [code187T2,hat,w1,c0,c1,h3,h5,hv,e2,aq]
theorem s187 (hb:b≤tN) {j:Nat} (hs:Act tN tb tv B b dep 209 [.ptr (some (B.length,0))] j):Act tN tb tv B b dep 187 [.ptr (some (B.length,0))] (8+2*j):=fun O n k h hk=>by
 obtain ⟨hlt,hBO⟩:=h.len
 obtain ⟨_,_,_,_,_,_,_,_,_,hat,_⟩:=h.at'
 obtain ⟨O1,m1,⟨n1,k1,p1⟩,l1,u1,e1⟩:=hs O _ _ h (by omega)
 obtain ⟨_,_,_,_,_,_,_,_,_,hat1,_⟩:=p1.at'
 obtain ⟨r2,O2,nx,g1,g2,g3,g4,g5,g6⟩:=p1.next hb (x:=3) (by decide) (by decide)
 by_cases hr:r2=1
 ·subst hr
  obtain ⟨pc,pt,px,cc,ct,cx,nt,nx',bud,cs,h1,h6,h9,h7,hkw,_,_,p3⟩:=g2.put (b:=b) (x:=⟨187,0,0,[79,111,112,115],[],[],[]⟩) hb (by omega) ⟨by decide,by decide,by decide,by decide⟩
  simp only [InsU.cells] at h7 p3
  obtain ⟨O4,m4,p4,l4,u4,e4⟩:=s150 p3 hb (by omega) (op:=191) (nn:=0)
  obtain ⟨O5,m5,n5,k5,p5,l5,u5,e5⟩:=t187_2 p4 (by omega) hb hs (by omega) (from':=n)
  obtain ⟨m',q1,q2,q3⟩:=nx_min g5 (gh hlt)
  refine ⟨O5,min m1 (min m' (min m4 m5)),⟨n5,by omega,p5.le (by omega)⟩,by omega,by omega,fun w=>?_⟩
  have e5:=fun w c hw=>e5 w c hw
  simp (disch:=omega) [az t187,code187,hat,e1,hat1,g6,-aAppend,h1,h7,h6,h9,hkw,q3,e4,e5,aq]
 ·obtain ⟨O4,m4,p4,l4,u4,e4⟩:=s150 g2 hb (by omega) (op:=0) (nn:=0)
  obtain ⟨O5,m5,n5,k5,p5,l5,u5,e5⟩:=t187_2 p4 (by omega) hb hs (by omega) (from':=n)
  obtain ⟨m',q1,q2,q3⟩:=nx_min g5 l4
  refine ⟨O5,min m1 (min m' m5),⟨n5,by omega,p5.le (by omega)⟩,by omega,by omega,fun w=>?_⟩
  simp (disch:=omega) [az t187,code187,hat,e1,hat1,g6,hr,natInt1,q3,e4,e5,aq]
end
end Go.Abs.AbsMake

namespace Go.Abs.AbsMake
open Go.Abs.AbsDesc Go.Abs.AbsHier
variable {os O B:List AObj} {b w:Nat} {tN:Nat} {tb:List UInt8} {tv:AVal} {n k:Nat} {dep:Int}
set_option maxHeartbeats 3000000 in
theorem r152 (hb:b≤tN) (h:Ws tN tb tv B O n k dep) (hk:k+1≤100000) {v:AVal} :
  ∃ O' m,Ws tN tb tv B O' (n+1) (k+1) dep∧tN≤m∧m≤B.length∧∀ (w:Nat) (c:AExit→St→Option (AVal × Heap)),
   xK T code152R0 ⟨[(0,.val (.ptr (some (B.length,0)))),(181,.val v)],⟨O,b,w⟩⟩ (k:=⟨c⟩)=c .normal ⟨[],⟨O',b,min w m⟩⟩:=by
 obtain ⟨hlt,hBO⟩:=h.len
 obtain ⟨_,_,_,_,_,_,_,_,_,hat,_⟩:=h.at'
 obtain ⟨r1,O1,nx1,f1,f2,f3,f4,f5,f6⟩:=h.next hb (x:=3) (by decide) (by decide)
 have hBO1:=f2.len.2
 have hO1:O1.length=O.length:=f3
 obtain ⟨r2,O2,nx,g1,g2,g3,g4,g5,g6⟩:=f2.next hb (x:=9) (by decide) (by decide)
 have hBO2:=g2.len.2
 have hO2:O2.length=O.length:=g3.trans f3
 obtain ⟨pc,pt,px,cc,ct,cx,nt,nx',bud,cs,h1,h6,h9,h7,hkw,hk1,hk2,h8⟩:=g2.put (b:=b) (x:=⟨132,r1,(r2:Int) - 4,[],[],[],[]⟩) hb (by omega) ⟨by simp,by simp,by simp,by simp⟩
 have e11:=(g4 B.length (by omega)).symm.trans h1
 have e0:=(f4 B.length (by omega)).symm.trans e11
 obtain ⟨lw,_,_⟩:=g2.lows h1
 have hids:AVal.idsL cs=[]:=h8.codeIds (q:=O2.length+1) (o:=0) (cs:=cs) (by rw [a9,if_pos rfl,if_pos (by simp; omega)]) (by
  rw [al (by omega),ai (by simp)]
  simp)
 have hwl1:nx1 O.length=O.length∨nx1 O.length=tN:=by rcases f5 with g | g <;> rw [g] <;> omega
 have hwl:nx O.length=O.length∨nx O.length=tN:=by rcases g5 with g | g <;> rw [g] <;> omega
 refine ⟨_,min (nx1 O.length) (min (nx O.length) B.length),h8,by omega,by omega,fun w c=>?_⟩
 have hm1:min O.length B.length=B.length:=by omega
 have hm2:min tN B.length=tN:=by omega
 have hm3:min O.length tN=tN:=by omega
 simp only [InsU.cells] at h7 ⊢
 rw [hO2] at h7 ⊢
 have hg0:∀ X:List AObj,(O2++X)[O.length]? = X[0]?:=fun X=>by rw [← hO2,dh]
 have hg1:∀ (X:List AObj) (i:Nat),(O2++X)[O.length+i]? = X[i]?:=fun X i=>by rw [← hO2,f0]
 have hB1:∀ X:List AObj,(O2++X)[B.length]? = some (AObj.cells 6 [.ptr (some (tN,0)),.slice pc n cc,.slice pt nt ct,.slice px nx' cx,.int .i64 dep,.int .i64 bud]):=fun X=>(ag (by omega)).trans h1
 have hBn:B.length≠tN:=by omega
 cases pc with
 | none =>
  simp only [killO,killW] at h7 h9 ⊢
  rcases hwl1 with hwl1 | hwl1 <;> rcases hwl with hwl | hwl <;>
   simp (maxSteps:=3000000) (disch:=omega) [-getElem?_pos,-getElem?_neg,-List.all_eq_true,gz,gs,nltT,nltF,iltT,iltF,ileT,nleT,cf,au,benign,again,AVal.eqb,hO2,hO1,hg0,hg1,hB1,-sget,dy,dz,d7,-aAppend,code152R0,e0,f6,g6,h1,e11,h7,h9,hids,hm1,hm2,hm3,hwl,hwl1]
 | some q =>
  obtain ⟨i,o⟩:=q
  obtain ⟨l1,l2⟩:=lw i o rfl
  have hk0:∀ X:List AObj,(O2.set i .dead++X)[O.length]? = X[0]?:=fun X=>by rw [← hO2,ai (by simp)]; simp
  have hk1:∀ (X:List AObj) (j:Nat),(O2.set i .dead++X)[O.length+j]? = X[j]?:=fun X j=>by rw [← hO2,ai (by simp)]; simp
  have hi1:¬ i=O.length+1:=by omega
  have hi2:¬ O.length+1≤i:=by omega
  have hi3:¬ O.length≤i:=by omega
  have hi4:i < O.length:=by omega
  have hi5:i < O.length+1:=by omega
  have hiB:i≠B.length:=by omega
  have hit:i≠tN:=by omega
  simp only [killO,killW] at h7 h9 ⊢
  rcases hwl1 with hwl1 | hwl1 <;> rcases hwl with hwl | hwl <;>
   simp (maxSteps:=3000000) (disch:=omega) [-getElem?_pos,-getElem?_neg,-List.all_eq_true,gz,gs,nltT,nltF,iltT,iltF,ileT,nleT,cf,au,benign,again,AVal.eqb,hO2,hO1,hg0,hg1,hB1,-sget,dy,dz,d7,-aAppend,code152R0,e0,f6,g6,h1,e11,h7,h9,hids,hm1,hm2,hm3,hk0,hk1,hi1,hi2,hi3,hi4,hi5,hiB,hit,hwl,hwl1]
end Go.Abs.AbsMake

namespace Go.Abs.AbsMake
open Go.Abs.AbsDesc Go.Abs.AbsHier
variable {os O B:List AObj} {b w:Nat} {tN:Nat} {tb:List UInt8} {tv:AVal} {dep:Int} {n k:Nat}
section
attribute [-simp] getElem?_pos getElem?_neg List.all_eq_true sget
attribute [local simp] gz gs nltT nltF iltT iltF ileT nleT cf dy dz d7
set_option maxHeartbeats 1000000 in
theorem sw152 (hb:b≤tN) {j J:Nat} (hJ:13≤J) (hs:dep < 3→Act tN tb tv B b dep 209 [.ptr (some (B.length,0))] j) (hj:dep < 3→9+2*j≤J) (h:Ws tN tb tv B O n k dep) (hk:k+J≤100000) {r:Nat} (hr:r < 16) :
  ∃ O' m n',n≤n'∧Ws tN tb tv B O' n' (k+J) dep∧tN≤m∧m≤B.length∧∀ (w:Nat) (c:AExit→St→Option (AVal × Heap)),
   xK T code152B0 ⟨[(0,.val (.ptr (some (B.length,0)))),(2,.val (.int .i64 r))],⟨O,b,w⟩⟩ (k:=⟨c⟩)=c .normal ⟨[],⟨O',b,min w m⟩⟩:=by
 obtain ⟨hlt,hBO⟩:=h.len
 have hK1:KK 1=5:=rfl
 have hK2:KK 2=11:=rfl
 have hi1:Expr tN tb tv B b dep 151 1 5:=(expr_all hb 1 1 (by decide) (by decide) (by decide)).1
 have hi2:Expr tN tb tv B b dep 151 2 11:=(expr_all hb 2 2 (by decide) (by decide) (by decide)).1
 have hl2:Expr tN tb tv B b dep 183 2 11:=(expr_all hb 2 2 (by decide) (by decide) (by decide)).2 (by decide)
 obtain ⟨pc,pt,px,cc,ct,cx,nt,nx',bud,hat,_⟩:=h.at'
 by_cases c0:bud≤0∨r < 2
 ·obtain ⟨O1,m1,⟨n1,k1,p1⟩,l1,u1,e1⟩:=hi2 O n k h (by omega)
  obtain ⟨_,_,_,_,_,_,_,_,_,hat1,_⟩:=p1.at'
  obtain ⟨r2,O2,nx,g1,g2,g3,g4,g5,g6⟩:=p1.next hb (x:=2) (by decide) (by decide)
  obtain ⟨O3,m3,p3,l3,u3,e3⟩:=s150 g2 hb (by omega) (op:=54) (nn:=1+r2)
  obtain ⟨m',q1,q2,q3⟩:=nx_min g5 l3
  refine ⟨O3,min m1 m',n1+1,by omega,p3.le (by omega),by omega,by omega,fun w c=>?_⟩
  by_cases c1:bud≤0
  ·simp (disch:=omega) [code152B0,hat,c1,e1,hat1,g6,e3,q3,aq]
  ·have c2:(r:Int) < 2:=by omega
   simp (disch:=omega) [code152B0,hat,c1,c2,e1,hat1,g6,e3,q3,aq]
 have c1:¬ bud≤0:=by omega
 have c2:¬ (r:Int) < 2:=by omega
 have e0:r=2∨r=3∨r=4∨r=5∨r=6∨r=7∨r=8∨(r=9∧dep < 3)∨(r=10∧dep < 3)∨(r=11∧dep < 3)∨r=12∨r=13∨r=14∨(r=9∧¬ dep < 3)∨(r=10∧¬ dep < 3)∨(r=11∧¬ dep < 3)∨r=15:=by omega
 have dflt:(∀ v,∃ O' m,Ws tN tb tv B O' (n+1) (k+1) dep∧tN≤m∧m≤B.length∧∀ (w:Nat) (c:AExit→St→Option (AVal × Heap)),
   xK T code152R0 ⟨[(0,.val (.ptr (some (B.length,0)))),(181,.val v)],⟨O,b,w⟩⟩ (k:=⟨c⟩)=c .normal ⟨[],⟨O',b,min w m⟩⟩):=fun v=>r152 hb h (by omega)
 rcases e0 with rfl | rfl | rfl | rfl | rfl | rfl | rfl | ⟨rfl,cd⟩ | ⟨rfl,cd⟩ | ⟨rfl,cd⟩ | rfl | rfl | rfl | ⟨rfl,cd⟩ | ⟨rfl,cd⟩ | ⟨rfl,cd⟩ | rfl
 ·obtain ⟨O1,m1,⟨n1,k1,p1⟩,l1,u1,e1⟩:=hi2 O n k h (by omega)
  obtain ⟨O2,m2,p2,l2,u2,e2⟩:=s154 p1 hb (by omega) (op:=184) (c:=[115,121,115]) (m:=[112,114,105,110,116]) (d:=[40,73,41,86]) (by decide) (by decide) (by decide)
  refine ⟨O2,min m1 m2,n1+1,by omega,p2.le (by omega),by omega,by omega,fun w c=>?_⟩
  simp (disch:=omega) [code152B0,hat,c1,c2,e1,e2,aq]
 ·obtain ⟨O1,m1,⟨n1,k1,p1⟩,l1,u1,e1⟩:=hl2 O n k h (by omega)
  obtain ⟨O2,m2,p2,l2,u2,e2⟩:=s150 p1 hb (by omega) (op:=55) (nn:=3)
  refine ⟨O2,min m1 m2,n1+1,by omega,p2.le (by omega),by omega,by omega,fun w c=>?_⟩
  simp (disch:=omega) [code152B0,hat,c1,c2,e1,e2,aq]
 ·obtain ⟨O1,m1,⟨n1,k1,p1⟩,l1,u1,e1⟩:=s184 hb O n k h (by omega)
  obtain ⟨O2,m2,p2,l2,u2,e2⟩:=s150 p1 hb (by omega) (op:=58) (nn:=5)
  refine ⟨O2,min m1 m2,n1+1,by omega,p2.le (by omega),by omega,by omega,fun w c=>?_⟩
  simp (disch:=omega) [code152B0,hat,c1,c2,e1,e2,aq]
 ·obtain ⟨O1,m1,p1,l1,u1,e1⟩:=s150 h hb (by omega) (op:=25) (nn:=5)
  obtain ⟨O2,m2,⟨n2,k2,p2⟩,l2,u2,e2⟩:=hi1 O1 _ _ p1 (by omega)
  obtain ⟨O3,m3,p3,l3,u3,e3⟩:=s154 p2 hb (by omega) (op:=181) (c:=[65]) (m:=[102]) (d:=[73]) (by decide) (by decide) (by decide)
  refine ⟨O3,min m1 (min m2 m3),n2+1,by omega,p3.le (by omega),by omega,by omega,fun w c=>?_⟩
  simp (disch:=omega) [code152B0,hat,c1,c2,e1,e2,e3,aq]
 ·obtain ⟨O1,m1,⟨n1,k1,p1⟩,l1,u1,e1⟩:=hi1 O n k h (by omega)
  obtain ⟨O2,m2,p2,l2,u2,e2⟩:=s154 p1 hb (by omega) (op:=179) (c:=[77,97,105,110]) (m:=[115]) (d:=[73]) (by decide) (by decide) (by decide)
  refine ⟨O2,min m1 m2,n1+1,by omega,p2.le (by omega),by omega,by omega,fun w c=>?_⟩
  simp (disch:=omega) [code152B0,hat,c1,c2,e1,e2,aq]
 ·obtain ⟨O1,m1,⟨n1,k1,p1⟩,l1,u1,e1⟩:=hi1 O n k h (by omega)
  obtain ⟨_,_,_,_,_,_,_,_,_,hat1,_⟩:=p1.at'
  obtain ⟨r2,O2,nx,g1,g2,g3,g4,g5,g6⟩:=p1.next hb (x:=2) (by decide) (by decide)
  obtain ⟨O3,m3,p3,l3,u3,e3⟩:=s150 g2 hb (by omega) (op:=188) (nn:=10 - 2*r2)
  obtain ⟨m',q1,q2,q3⟩:=nx_min g5 l3
  obtain ⟨O4,m4,p4,l4,u4,e4⟩:=s150 p3 hb (by omega) (op:=58) (nn:=6+r2)
  refine ⟨O4,min m1 (min m' m4),n1+1+1,by omega,p4.le (by omega),by omega,by omega,fun w c=>?_⟩
  simp (disch:=omega) [code152B0,hat,c1,c2,e1,hat1,g6,e3,q3,e4,aq]
 ·obtain ⟨O1,m1,p1,l1,u1,e1⟩:=s150 h hb (by omega) (op:=25) (nn:=6)
  obtain ⟨O2,m2,⟨n2,k2,p2⟩,l2,u2,e2⟩:=hi1 O1 _ _ p1 (by omega)
  obtain ⟨O3,m3,⟨n3,k3,p3⟩,l3,u3,e3⟩:=hi1 O2 _ _ p2 (by omega)
  obtain ⟨O4,m4,p4,l4,u4,e4⟩:=s150 p3 hb (by omega) (op:=79) (nn:=0)
  refine ⟨O4,min m1 (min m2 (min m3 m4)),n3+1,by omega,p4.le (by omega),by omega,by omega,fun w c=>?_⟩
  simp (disch:=omega) [code152B0,hat,c1,c2,e1,e2,e3,e4,aq]
 ·have hjj:=hj cd
  obtain ⟨O1,m1,⟨n1,k1,p1⟩,l1,u1,e1⟩:=s185 hb (hs cd) O n k h (by omega)
  refine ⟨O1,m1,n1,k1,p1.le (by omega),l1,u1,fun w c=>?_⟩
  simp (disch:=omega) [code152B0,hat,c1,c2,cd,e1]
 ·have hjj:=hj cd
  obtain ⟨O1,m1,⟨n1,k1,p1⟩,l1,u1,e1⟩:=s186 hb (hs cd) O n k h (by omega)
  refine ⟨O1,m1,n1,k1,p1.le (by omega),l1,u1,fun w c=>?_⟩
  simp (disch:=omega) [code152B0,hat,c1,c2,cd,e1]
 ·have hjj:=hj cd
  obtain ⟨O1,m1,⟨n1,k1,p1⟩,l1,u1,e1⟩:=s187 hb (hs cd) O n k h (by omega)
  refine ⟨O1,m1,n1,k1,p1.le (by omega),l1,u1,fun w c=>?_⟩
  simp (disch:=omega) [code152B0,hat,c1,c2,cd,e1]
 ·obtain ⟨O1,m1,⟨n1,k1,p1⟩,l1,u1,e1⟩:=s188 hb O n k h (by omega)
  refine ⟨O1,m1,n1,k1,p1.le (by omega),l1,u1,fun w c=>?_⟩
  simp (disch:=omega) [code152B0,hat,c1,c2,e1]
 ·obtain ⟨pc',pt',px',cc',ct',cx',nt',nx2,bud',cs,h1,h6,h9,h7,hkw,_,_,h8⟩:=h.put (b:=b) (x:=⟨18,0,0,[],[],[83],[104,105]⟩) hb (by omega) ⟨by decide,by decide,by decide,by decide⟩
  simp only [InsU.cells] at h7 h8
  have e:=hat.symm.trans h1
  simp only [ap,AObj.cells.injEq,eb,AVal.slice.injEq,AVal.int.injEq,true_and,and_true] at e
  obtain ⟨⟨rfl,rfl⟩,⟨rfl,rfl,rfl⟩,⟨rfl,rfl,rfl⟩,rfl⟩:=e
  obtain ⟨O4,m4,p4,l4,u4,e4⟩:=s150 h8 hb (by omega) (op:=58) (nn:=7)
  refine ⟨O4,min B.length m4,n+1+1,by omega,p4.le (by omega),by omega,by omega,fun w c=>?_⟩
  simp (disch:=omega) [code152B0,hat,c1,c2,-aAppend,h7,h6,h9,hkw,e4,InsU.cells,aq]
 ·obtain ⟨O1,m1,p1,l1,u1,e1⟩:=s150 h hb (by omega) (op:=25) (nn:=7)
  obtain ⟨O2,m2,p2,l2,u2,e2⟩:=s154 p1 hb (by omega) (op:=184) (c:=[115,121,115]) (m:=[112,114,105,110,116,84,101,120,116]) (d:=[40,91,66,41,86]) (by decide) (by decide) (by decide)
  refine ⟨O2,min m1 m2,n+1+1,by omega,p2.le (by omega),by omega,by omega,fun w c=>?_⟩
  simp (disch:=omega) [code152B0,hat,c1,c2,e1,e2,aq]
 all_goals
  obtain ⟨O2,m2,p2,l2,u2,e2⟩:=dflt (.bool false)
  refine ⟨O2,m2,n+1,by omega,p2.le (by omega),l2,u2,fun w c=>?_⟩
 ·simp (disch:=omega) [code152B0,hat,c1,c2,cd,e2]
 ·simp (disch:=omega) [code152B0,hat,c1,c2,cd,e2]
 ·simp (disch:=omega) [code152B0,hat,c1,c2,cd,e2]
 ·simp (disch:=omega) [code152B0,hat,c1,c2,e2]
end
def JJ:Nat→Nat
 | 0=>13
 | r+1=>6*JJ r+13
theorem s152_of (hb:b≤tN) {j J:Nat} (hJ:13≤J) (hs:dep < 3→Act tN tb tv B b dep 209 [.ptr (some (B.length,0))] j) (hj:dep < 3→9+2*j≤J):Act tN tb tv B b dep 152 [.ptr (some (B.length,0))] J:=fun O n k h hk=>by
 obtain ⟨hlt,hBO⟩:=h.len
 obtain ⟨pc,pt,px,cc,ct,cx,nt,nx',bud,hat,hset⟩:=h.at'
 have h1:=hset dep (IntKind.i64.wrap (bud - 1))
 have hset2:∀ y,(O.set B.length y)[B.length]? = some y:=fun y=>by rw [a9,if_pos rfl,if_pos hBO]
 obtain ⟨r,O2,nx,g1,g2,g3,g4,g5,g6⟩:=h1.next hb (x:=16) (by decide) (by decide)
 obtain ⟨O3,m3,n3,q3,p3,l3,u3,e3⟩:=sw152 hb hJ hs hj g2 hk (r:=r) (by omega)
 obtain ⟨m',q4,q5,q6⟩:=nx_min g5 l3
 have hmm2:min B.length m'=m':=by omega
 refine ⟨O3,m',⟨n3,q3,p3⟩,q4,by omega,fun w=>?_⟩
 simp (disch:=omega) [-getElem?_pos,-getElem?_neg,-List.all_eq_true,gz,gs,nltT,nltF,iltT,iltF,ileT,nleT,cf,-sget,dy,dz,d7,az t152,code152,hat,hset2,g6,e3,q6,hmm2]
theorem s152 (hb:b≤tN):∀ (r:Nat) (dep:Int),0≤dep→dep≤3→3 - dep≤r→Act tN tb tv B b dep 152 [.ptr (some (B.length,0))] (JJ r)
 | 0,dep,h0,h1,h2=>s152_of (j:=0) hb (aj _) (fun h=>by omega) (fun h=>by omega)
 | r+1,dep,h0,h1,h2=>s152_of (j:=3*JJ r) hb (by simp only [JJ]; omega) (fun h=>s209 hb h0 (by omega) (s152 hb r (dep+1) (by omega) (by omega) (by omega))) (fun h=>by simp only [JJ]; omega)
end Go.Abs.AbsMake

namespace Go.Abs
def renA (f:Nat→Nat):Option (Nat × Nat)→Option (Nat × Nat)
 | none=>none
 | some (i,o)=>some (f i,o)
theorem ren_sl (f:Nat→Nat) (a:Option (Nat × Nat)) (n:Nat) (c:Option Nat):(AVal.slice a n c).ren f = .slice (renA f a) n c:=by
 cases a with
 | none=>simp [AVal.ren,renA]
 | some p=>obtain ⟨i,o⟩:=p; simp [AVal.ren,renA]
theorem renL_map (f:Nat→Nat):∀ l:List AVal,AVal.renL f l=l.map (AVal.ren f)
 | []=>rfl
 | a :: l=>by simp only [AVal.renL,cr,renL_map f l]
theorem idsL_flat:∀ l:List AVal,AVal.idsL l=l.flatMap AVal.ids
 | []=>rfl
 | a :: l=>by simp only [AVal.idsL,cg,idsL_flat l]
structure Moves (f:Nat→Nat) (I:Nat→Prop) (n:Nat) (O O':List AObj):Prop where
 at':∀ i obj,I i→O[i]? = some obj→O'[f i]? = some (obj.ren f)
 cl:∀ i obj,I i→O[i]? = some obj→∀ j ∈ obj.ids,n≤j→I j
 up:∀ i,n≤i→n≤f i
section
variable {f:Nat→Nat} {I:Nat→Prop} {n:Nat} {O O':List AObj}
def over (n:Nat) (a:Option (Nat × Nat)):Prop:=∀ i o,a=some (i,o)→n≤i
def inI (I:Nat→Prop) (a:Option (Nat × Nat)):Prop:=∀ i o,a=some (i,o)→I i
theorem Moves.row (h:Moves f I n O O') {α β:Type} {e:Nat} {F:α→List AVal} {F':β→List AVal} {g:α→β} {L:List α} {a:Option (Nat × Nat)} (hR:Row O e F L a) (ha:inI I a) (hg:∀ x,AVal.renL f (F x)=F' (g x)):Row O' e F' (L.map g) (renA f a) :=
 ⟨fun hne=>by
  have hL:L≠[]:=fun e=>hne (by rw [e]; rfl)
  obtain ⟨b,o,cs,h1,h2,h3⟩:=hR.at' hL
  subst h1
  refine ⟨f b,o,AVal.renL f cs,rfl,h.at' b _ (ha b o rfl) h2,fun j y hy=>?_⟩
  rw [co] at hy
  cases hx:L[j]? with
  | none=>rw [hx] at hy; cases hy
  | some x =>
   rw [hx] at hy
   cases hy
   obtain ⟨h4,h5⟩:=h3 j x hx
   refine ⟨by rw [renL_map,List.length_map]; exact h4,?_⟩
   rw [← hg x,← h5,renL_map,renL_map,List.map_take,List.map_drop]⟩
theorem Moves.ids (h:Moves f I n O O') {α:Type} {e:Nat} {F:α→List AVal} {L:List α} {a:Option (Nat × Nat)} (hR:Row O e F L a) (ha:inI I a) {x:α} (hx:x ∈ L):∀ j ∈ AVal.idsL (F x),n≤j→I j:=by
 intro j hj hn
 obtain ⟨k,hk⟩:=List.mem_iff_getElem?.1 hx
 obtain ⟨b,o,cs,h1,h2,h3⟩:=hR.at' (ne_of_get hk)
 subst h1
 refine h.cl b _ (ha b o rfl) h2 j ?_ hn
 rw [← (h3 k x hk).2,idsL_flat,dj] at hj
 obtain ⟨v,hv,hj⟩:=hj
 show j ∈ AVal.idsL cs
 rw [idsL_flat,dj]
 exact ⟨v,List.mem_of_mem_drop (List.mem_of_mem_take hv),hj⟩
theorem Moves.under (h:Moves f I n O O') {a:Option (Nat × Nat)} (ha:inI I a) (hu:under O.length a):under O'.length (renA f a):=by
 cases a with
 | none=>exact fun i o e=>by cases e
 | some p =>
  obtain ⟨i,o⟩:=p
  intro j q e
  simp only [renA,ap,bt] at e
  obtain ⟨rfl,rfl⟩:=e
  have hi:=hu i o rfl
  exact ah (h.at' i _ (ha i o rfl) (ak hi))
theorem inI_of {a:Option (Nat × Nat)} {m:Nat} {c:Option Nat} {l:List AVal} (hl:∀ j ∈ AVal.idsL l,n≤j→I j) (hm:AVal.slice a m c ∈ l) (ho:over n a):inI I a:=fun i o e=>by
 subst e
 refine hl i ?_ (ho i o rfl)
 rw [idsL_flat,dj]
 exact ⟨_,hm,by simp [AVal.ids]⟩
def MapU.ren (f:Nat→Nat) (x:MapU):MapU:={ x with la:=renA f x.la,sa:=renA f x.sa }
def MethU.ren (f:Nat→Nat) (m:MethU):MethU:={ m with ca:=renA f m.ca,ta:=renA f m.ta,maps:=m.maps.map (MapU.ren f),xa:=renA f m.xa }
def UnitU.ren (f:Nat→Nat) (u:UnitU):UnitU:={ u with fa:=renA f u.fa,meths:=u.meths.map (MethU.ren f),ma:=renA f u.ma }
theorem ren_field (x:FieldU):AVal.renL f x.cells=x.cells:=by simp [FieldU.cells,AVal.renL,AVal.ren]
theorem ren_ins (x:InsU):AVal.renL f x.cells=x.cells:=by simp [InsU.cells,AVal.renL,AVal.ren]
theorem ren_trap (x:TrapU):AVal.renL f x.cells=x.cells:=by simp [TrapU.cells,AVal.renL,AVal.ren]
theorem ren_strC (x:Str):AVal.renL f (strC x)=strC x:=by simp [strC,AVal.renL,AVal.ren]
theorem ren_map (x:MapU):AVal.renL f x.cells=(x.ren f).cells:=by simp [MapU.cells,AVal.renL,ren_sl,MapU.ren]
theorem ren_meth (m:MethU):AVal.renL f m.cells=(m.ren f).cells:=by simp [MethU.cells,AVal.renL,ren_sl,MethU.ren]
theorem ren_unitU (u:UnitU):AVal.renL f u.cells=(u.ren f).cells:=by simp [UnitU.cells,AVal.renL,ren_sl,UnitU.ren]
structure MapU.over (n:Nat) (x:MapU):Prop where
 l:Go.Abs.over n x.la
 s:Go.Abs.over n x.sa
structure MethU.over (n:Nat) (m:MethU):Prop where
 c:Go.Abs.over n m.ca
 t:Go.Abs.over n m.ta
 x:Go.Abs.over n m.xa
 xs:∀ x ∈ m.maps,x.over n
structure UnitU.over (n:Nat) (u:UnitU):Prop where
 f:Go.Abs.over n u.fa
 m:Go.Abs.over n u.ma
 ms:∀ m ∈ u.meths,m.over n
theorem over_ren {a:Option (Nat × Nat)} (hf:∀ i,n≤i→n≤f i) (h:Go.Abs.over n a):Go.Abs.over n (renA f a):=by
 cases a with
 | none=>exact fun i o e=>by cases e
 | some p =>
  obtain ⟨i,o⟩:=p
  intro j q e
  simp only [renA,ap,bt] at e
  rw [← e.1]; exact hf i (h i o rfl)
theorem MapU.over.ren {x:MapU} (hf:∀ i,n≤i→n≤f i) (h:x.over n):(x.ren f).over n:=⟨over_ren hf h.l,over_ren hf h.s⟩
theorem MethU.over.ren {m:MethU} (hf:∀ i,n≤i→n≤f i) (h:m.over n):(m.ren f).over n:=⟨over_ren hf h.c,over_ren hf h.t,over_ren hf h.x,fun x hx=>by
 obtain ⟨y,hy,rfl⟩:=ed.1 hx
 exact (h.xs y hy).ren hf⟩
theorem UnitU.over.ren {u:UnitU} (hf:∀ i,n≤i→n≤f i) (h:u.over n):(u.ren f).over n:=⟨over_ren hf h.f,over_ren hf h.m,fun x hx=>by
 obtain ⟨y,hy,rfl⟩:=ed.1 hx
 exact (h.ms y hy).ren hf⟩
theorem MethU.fits.ren {m:MethU} (h:m.fits):(m.ren f).fits:=⟨h.name,h.desc,h.c,h.cs,h.t,h.ts,by simpa [MethU.ren] using h.x,fun x hx=>by
 obtain ⟨y,hy,rfl⟩:=ed.1 hx
 have:=h.xs y hy
 exact ⟨this.l,this.s,this.ls,this.ss⟩⟩
theorem UnitU.cap.ren {u:UnitU} (h:u.cap):(u.ren f).cap:=⟨h.f,by simpa [UnitU.ren] using h.m⟩
theorem UnitU.fits.ren {u:UnitU} (h:u.fits):(u.ren f).fits:=⟨h.name,h.super,h.f,h.fs,by simpa [UnitU.ren] using h.m,fun x hx=>by
 obtain ⟨y,hy,rfl⟩:=ed.1 hx
 exact (h.ms y hy).ren,h.cap.ren⟩
theorem MapU.ok.move (h:Moves f I n O O') {x:MapU} (hx:x.ok O) (ho:x.over n) (hI:∀ j ∈ AVal.idsL x.cells,n≤j→I j):(x.ren f).ok O':=by
 have hl:inI I x.la:=inI_of (m:=x.locals.length) (c:=x.lc) hI (by simp [MapU.cells]) ho.l
 have hs:inI I x.sa:=inI_of (m:=x.stack.length) (c:=x.sc) hI (by simp [MapU.cells]) ho.s
 have h1:=h.row (F':=strC) (g:=id) hx.l hl fun y=>ren_strC y
 have h2:=h.row (F':=strC) (g:=id) hx.s hs fun y=>ren_strC y
 rw [List.map_id] at h1 h2
 exact ⟨h1,hx.ln,h.under hl hx.lu,h2,hx.sn,h.under hs hx.su,hx.ls⟩
theorem MethU.ok.move (h:Moves f I n O O') {m:MethU} (hx:m.ok O) (ho:m.over n) (hI:∀ j ∈ AVal.idsL m.cells,n≤j→I j):(m.ren f).ok O':=by
 have hc:inI I m.ca:=inI_of (m:=m.code.length) (c:=m.cc) hI (by simp [MethU.cells]) ho.c
 have ht:inI I m.ta:=inI_of (m:=m.traps.length) (c:=m.tc) hI (by simp [MethU.cells]) ho.t
 have hm:inI I m.xa:=inI_of (m:=m.maps.length) (c:=m.xc) hI (by simp [MethU.cells]) ho.x
 have h1:=h.row (F':=InsU.cells) (g:=id) hx.c hc fun y=>ren_ins y
 have h2:=h.row (F':=TrapU.cells) (g:=id) hx.t ht fun y=>ren_trap y
 have h3:=h.row (F':=MapU.cells) (g:=MapU.ren f) hx.x hm fun y=>ren_map y
 rw [List.map_id] at h1 h2
 refine ⟨hx.name,hx.desc,h1,hx.cn,h.under hc hx.cu,hx.cok,h2,hx.tn,h.under ht hx.tu,hx.tok,h3,by simpa [MethU.ren] using hx.xn,h.under hm hx.xu,fun x hxm=>?_⟩
 obtain ⟨y,hy,rfl⟩:=ed.1 hxm
 exact (hx.xok y hy).move h (ho.xs y hy) (h.ids hx.x hm hy)
theorem UnitU.ok.move (h:Moves f I n O O') {u:UnitU} (hx:u.ok O) (ho:u.over n) (hI:∀ j ∈ AVal.idsL u.cells,n≤j→I j):(u.ren f).ok O':=by
 have hf:inI I u.fa:=inI_of (m:=u.fields.length) (c:=u.fc) hI (by simp [UnitU.cells]) ho.f
 have hm:inI I u.ma:=inI_of (m:=u.meths.length) (c:=u.mc) hI (by simp [UnitU.cells]) ho.m
 have h1:=h.row (F':=FieldU.cells) (g:=id) hx.f hf fun y=>ren_field y
 have h3:=h.row (F':=MethU.cells) (g:=MethU.ren f) hx.m hm fun y=>ren_meth y
 rw [List.map_id] at h1
 refine ⟨hx.name,hx.super,h1,hx.fn,h.under hf hx.fu,hx.fok,h3,by simpa [UnitU.ren] using hx.mn,h.under hm hx.mu,fun x hxm=>?_⟩
 obtain ⟨y,hy,rfl⟩:=ed.1 hxm
 exact (hx.mok y hy).move h (ho.ms y hy) (h.ids hx.m hm hy)
theorem idxIn_lt {i:Nat}:∀ {k:List Nat},i ∈ k→idxIn i k < k.length∧k[idxIn i k]? = some i
 | j :: k,h=>by
  by_cases e:j=i
  ·simp [idxIn,e]
  ·have:=idxIn_lt (k:=k) ((ba.1 h).resolve_left fun x=>e x.symm)
   simp only [idxIn,e,if_false,bp,List.getElem?_cons_succ]
   exact ⟨by omega,this.2⟩
theorem reach_ge {h:Heap} {n0:Nat}:∀ (fu:Nat) (l acc:List Nat),(∀ i ∈ acc,n0≤i)→∀ i ∈ reach h n0 fu l acc,n0≤i
 | 0,l,acc,ha=>ha
 | _+1,[],acc,ha=>ha
 | fu+1,i :: r,acc,ha=>by
  unfold reach
  split
  ·exact reach_ge fu r acc ha
  ·split
   ·exact reach_ge fu r acc ha
   ·exact reach_ge fu _ _ fun j hj=>by
     rcases bf.1 hj with hj | hj
     ·exact ha j hj
     ·rw [bo.1 hj]; omega
theorem finish_cases {h0 h:Heap} {v:AVal} (hv:v.under h0.size=false) :
  (∃ w,finish h0 v h=(v,⟨h.objs,h.base,w⟩)∧(w=min h0.wmin h.wmin∨(w=h0.wmin∧h0.size≤h.wmin))) ∨
  (h0.size≤h.wmin∧∃ f I X,finish h0 v h=(v.ren f,⟨h0.objs++X,h0.base,h0.wmin⟩)∧Moves f I h0.size h.objs (h0.objs++X)∧(∀ j ∈ v.ids,h0.size≤j→I j)):=by
 unfold finish
 by_cases hw:h.wmin < h0.size
 ·rw [if_pos hw]; exact .inl ⟨_,rfl,.inl rfl⟩
 ·rw [if_neg hw,hv]
  simp only [bj,if_false]
  generalize hk:reach h h0.size 1000 v.ids []=k
  have hge:∀ i ∈ k,h0.size≤i:=by rw [← hk]; exact reach_ge _ _ _ (by simp)
  split
  ·rename_i hok
   refine .inr ⟨by omega,fun i=>if i < h0.size then i else h0.size+idxIn i k,fun i=>i ∈ k,_,rfl,⟨fun i obj hi ho=>?_,fun i obj hi ho j hj hn=>?_,fun i hi=>?_⟩,fun j hj hn=>?_⟩
   ·have h1:=hge i hi
    obtain ⟨h2,h3⟩:=idxIn_lt hi
    have h4:¬ i < h0.size:=by omega
    simp only [if_neg h4]
    have h5:h0.size=h0.objs.length:=rfl
    rw [h5,ai (by omega),Nat.add_sub_cancel_left,co,h3]
    have h6:h.get i=some obj:=ho
    simp only [db,h6,gp]
   ·rw [am] at hok
    have h6:h.get i=some obj:=ho
    have:=hok j (eo _ (dj.2 ⟨i,hi,by rw [h6]; exact hj⟩))
    simp only [df,decide_eq_true_eq] at this
    rcases this with h7 | h7
    ·omega
    ·simpa using h7
   ·show h0.size≤if i < h0.size then i else h0.size+idxIn i k
    rw [if_neg (by omega)]; omega
   ·rw [am] at hok
    have:=hok j (du _ hj)
    simp only [df,decide_eq_true_eq] at this
    rcases this with h7 | h7
    ·omega
    ·simpa using h7
  ·exact .inl ⟨_,rfl,.inr ⟨rfl,by omega⟩⟩
end
end Go.Abs

namespace Go.Abs.AbsMake
open Go.Abs.AbsDesc Go.Abs.AbsHier
variable {os O B:List AObj} {b w:Nat} {tN:Nat} {tb:List UInt8} {tv:AVal} {dep:Int} {n k:Nat}
theorem Ws.start {p:Nat} (ht:Tape O tN tb tv p) (hv:TapeV O tN tb tv):Ws tN tb tv O (O++[.cells 6 [.ptr (some (tN,0)),.slice none 0 (some 0),.slice none 0 (some 0),.slice none 0 (some 0),.int .i64 0,.int .i64 60]]) 0 0 0:=by
 have hlt:=ah ht.at'
 refine ⟨none,none,none,some 0,some 0,some 0,[],[],[],60,?_,rfl,aj _,aj _,aj _⟩
 constructor
 ·intro i hi _; rw [ag hi]
 ·exact ⟨p,by rw [ag hlt]; exact ht.at',ht.le,ht.small⟩
 ·exact hv
 ·exact hlt
 ·rw [dh]; rfl
 ·exact ⟨fun _ _ e=>(by cases e),fun _=>⟨rfl,rfl⟩⟩
 ·exact ⟨fun _ _ e=>(by cases e),fun _=>⟨rfl,rfl⟩⟩
 ·exact ⟨fun _ _ e=>(by cases e),fun _=>⟨rfl,rfl⟩⟩
 ·exact fun _ _ _ e=>by cases e
 ·exact fun _ _ _ e=>by cases e
 ·exact fun _ _ _ e=>by cases e
 ·exact fun _ h=>by cases h
 ·exact fun _ h=>by cases h
 ·exact fun _ h=>by cases h
section
attribute [-simp] getElem?_pos getElem?_neg List.all_eq_true sget
attribute [local simp] gz gs nltT nltF iltT iltF ileT nleT cf dy dz d7
theorem l101 {j:Nat} {v2:AVal} {v8:List AVal} (hs:Act tN tb tv B b dep 152 [.ptr (some (B.length,0))] j):∀ (i:Nat) (O:List AObj) (n k:Nat),i≤6→Ws tN tb tv B O n k dep→k+i*j≤100000 →
  ∃ O' m n',n≤n'∧Ws tN tb tv B O' n' (k+i*j) dep∧tN≤m∧m≤B.length∧∀ (w:Nat) (c:AExit→St→Option (AVal × Heap)),w≤B.length →
   xK T (.loop code101L0) ⟨[(2,.val v2),(8,.var v8),(9,.val (.ptr (some (B.length,0)))),(12,.val (.int .i64 i))],⟨O,b,w⟩⟩ (k:=⟨c⟩)=c (.exit 2) ⟨[(2,.val v2),(8,.var v8),(9,.val (.ptr (some (B.length,0))))],⟨O',b,min w m⟩⟩
 | 0,O,n,k,_,h,hk=>by
  obtain ⟨hlt,hBO⟩:=h.len
  refine ⟨O,B.length,n,aj _,by simpa using h,by omega,aj _,fun w c hw=>?_⟩
  rw [dk]
  have hmm:min w B.length=w:=by omega
  simp (disch:=omega) [code101L0,hmm]
 | i+1,O,n,k,hi,h,hk=>by
  have hm:(i+1)*j=j+i*j:=by rw [dr,Nat.one_mul,Nat.add_comm]
  obtain ⟨O1,m1,⟨n1,q1,p1⟩,l1,u1,e1⟩:=hs O n k h (by omega)
  obtain ⟨O2,m2,n2,q2,p2,l2,u2,e2⟩:=l101 (v2:=v2) (v8:=v8) hs i O1 n1 (k+j) (by omega) p1 (by omega)
  have ek:k+j+i*j=k+(i+1)*j:=by omega
  rw [ek] at p2
  refine ⟨O2,min m1 m2,n2,by omega,p2,by omega,by omega,fun w c hw=>?_⟩
  have e2:=e2 (min w m1) c (by omega)
  rw [dk]
  have c1:(0:Int) < (i:Int)+1:=by omega
  generalize ACode.loop code101L0=L at e2 ⊢
  simp (disch:=omega) [code101L0,e1,e2,c1,aq]
end
def Keep1 (O O':List AObj):Prop:=∀ (q:Nat) (cs:List AVal),O[q]? = some (.cells 1 cs)→O'[q]? = some (.cells 1 cs)
section
attribute [-simp] getElem?_pos getElem?_neg List.all_eq_true
attribute [local simp] gz gs nltT nltF iltT iltF ileT nleT cf
theorem s150k (h:Ws tN tb tv B O n k dep) (hb:b≤tN) (hk:k≤100000) {op nn:Int} :
  Did tN tb tv B b 150 [.ptr (some (B.length,0)),.int .u8 op,.int .i64 nn] (.tuple []) O fun O'=>Ws tN tb tv B O' (n+1) (k+1) dep∧Keep1 O O':=by
 obtain ⟨pc,pt,px,cc,ct,cx,nt,nx,bud,cs,h1,h2,h3,h4,h5,h6,h7,h8⟩:=h.code (x:=⟨op,nn,0,[],[],[],[]⟩) hb hk ⟨by simp,by simp,by simp,by simp⟩
 have hkeep:Keep1 O ((killO pc O++[AObj.cells 7 (InsU.cells ⟨op,nn,0,[],[],[],[]⟩),AObj.cells 7 cs]).set B.length (.cells 6 [.ptr (some (tN,0)),.slice (some (O.length+1,0)) (n+1) none,.slice pt nt ct,.slice px nx cx,.int .i64 dep,.int .i64 bud])):=fun q cs' hq=>by
  have hql:=ah hq
  have hne:B.length≠q:=fun e=>by rw [← e,h1] at hq; simp at hq
  rw [al hne,ag (by simpa using hql),kill_get fun o e=>?_]
  ·exact hq
  ·obtain ⟨pc',_,_,_,_,_,C,_,_,_,hW,_⟩:=h.ex
   have e1:=h1.symm.trans hW.wr
   simp only [wrO,ap,AObj.cells.injEq,eb,AVal.slice.injEq,true_and,and_true] at e1
   obtain ⟨⟨e2,_⟩,_⟩:=e1
   have:=(hW.c.some q o (by rw [← e2]; exact e)).2.2.2
   rw [hq] at this; simp at this
 refine ⟨_,B.length,⟨h8,hkeep⟩,by omega,aj _,fun w=>?_⟩
 have hkw:=h5 O.length (by omega)
 have h9:∀ X,(killO pc O++X)[B.length]? = _:=fun X=>(ag (l₂:=X) (by simpa using h3)).trans h6
 simp only [InsU.cells] at h7
 simp (disch:=omega) [az t150,code150,-aAppend,h1,h7,h6,h9,hkw,InsU.cells]
theorem s153k (h:Ws tN tb tv B O n k dep) (hb:b≤tN) (hk:k≤100000) {x:Int} (hx:-100≤x) (hx2:x≤200) :
  Did tN tb tv B b 153 [.ptr (some (B.length,0)),.int .i64 x] (.tuple []) O fun O'=>Ws tN tb tv B O' (n+1) (k+1) dep∧Keep1 O O':=by
 obtain ⟨_,hBO⟩:=h.len
 have c5:-128≤x:=by omega
 have c6:-32768≤x:=by omega
 have c7:x < 32768:=by omega
 have c8:IntKind.i64.wrap (3+x)=3+x:=cf (by omega)
 by_cases c3:-1≤x∧x≤5
 ·obtain ⟨c1,c2⟩:=c3
  obtain ⟨O1,m1,p1,l1,u1,e1⟩:=s150k h hb hk (op:=IntKind.u8.wrap (3+x)) (nn:=0)
  refine ⟨O1,m1,p1,l1,u1,fun w=>?_⟩
  simp (disch:=omega) [az t153,code153,e1,c1,c2,c8]
 ·by_cases c4:x < 128
  ·obtain ⟨O1,m1,p1,l1,u1,e1⟩:=s150k h hb hk (op:=16) (nn:=x)
   refine ⟨O1,m1,p1,l1,u1,fun w=>?_⟩
   by_cases c1:-1≤x
   ·have c2:¬ x≤5:=fun e=>c3 ⟨c1,e⟩
    simp (disch:=omega) [az t153,code153,e1,c1,c2,c4,c5]
   ·simp (disch:=omega) [az t153,code153,e1,c1,c4,c5]
  ·obtain ⟨O1,m1,p1,l1,u1,e1⟩:=s150k h hb hk (op:=17) (nn:=x)
   refine ⟨O1,m1,p1,l1,u1,fun w=>?_⟩
   have c1:-1≤x:=by omega
   have c2:¬ x≤5:=by omega
   simp (disch:=omega) [az t153,code153,e1,c1,c2,c4,c5,c6,c7]
end
def rowT:List AVal:=[.int .i64 1,.int .i64 2]
section
attribute [-simp] getElem?_pos getElem?_neg List.all_eq_true sget
attribute [local simp] gz gs nltT nltF iltT iltF ileT nleT cf dy dz d7
theorem l101b (hb:b≤tN) {q:Nat} {v2 v3:AVal} {v8:List AVal} (hq:B.length < q):∀ (j i:Nat) (O:List AObj) (n k:Nat),i+j=2→O[q]? = some (.cells 1 rowT)→Ws tN tb tv B O n k dep→k+2*j≤100000 →
  ∃ O' m n',n≤n'∧Ws tN tb tv B O' n' (k+2*j) dep∧tN≤m∧m≤B.length∧∀ (w:Nat) (c:AExit→St→Option (AVal × Heap)),w≤B.length∨0 < j →
   xK T (.loop code101L1) ⟨[(0,.val (.ptr (some (tN,0)))),(2,.val v2),(3,.val v3),(8,.var v8),(9,.val (.ptr (some (B.length,0)))),(43,.val (.slice (some (q,0)) 2 (some 2))),(44,.val (.int .i64 2)),(45,.val (.int .i64 i))],⟨O,b,w⟩⟩ (k:=⟨c⟩) =
    c (.exit 0) ⟨[(0,.val (.ptr (some (tN,0)))),(2,.val v2),(3,.val v3),(8,.var v8),(9,.val (.ptr (some (B.length,0))))],⟨O',b,min w m⟩⟩
 | 0,i,O,n,k,hi,hO,h,hk=>by
  obtain ⟨hlt,hBO⟩:=h.len
  obtain rfl:i=2:=by omega
  refine ⟨O,B.length,n,aj _,by simpa using h,by omega,aj _,fun w c hw=>?_⟩
  have hmm:min w B.length=w:=by omega
  rw [dk]
  simp (disch:=omega) [code101L1,hmm]
 | j+1,i,O,n,k,hi,hO,h,hk=>by
  obtain ⟨hlt,hBO⟩:=h.len
  obtain ⟨y,hy⟩:∃ y,rowT[i]? = some (.int .i64 y):=by
   have:i=0∨i=1:=by omega
   rcases this with rfl | rfl <;> exact ⟨_,rfl⟩
  obtain ⟨r2,O1,nx,g1,g2,g3,g4,g5,g6⟩:=h.next hb (x:=4) (by decide) (by decide)
  obtain ⟨O2,m2,⟨p2,k2⟩,l2,u2,e2⟩:=s153k g2 hb (by omega) (x:=r2) (by omega) (by omega)
  obtain ⟨m',q1,q2,q3⟩:=nx_min g5 l2
  obtain ⟨O3,m3,⟨p3,k3⟩,l3,u3,e3⟩:=s150k p2 hb (by omega) (op:=54) (nn:=y)
  have hO3:O3[q]? = some (.cells 1 rowT):=k3 q _ (k2 q _ (by rw [g4 q (by omega)]; exact hO))
  obtain ⟨O4,m4,n4,q4,p4,l4,u4,e4⟩:=l101b (v2:=v2) (v3:=v3) (v8:=v8) hb hq j (i+1) O3 (n+1+1) (k+1+1) (by omega) hO3 p3 (by omega)
  refine ⟨O4,min m' (min m3 m4),n4,by omega,p4.le (by omega),by omega,by omega,fun w c hw=>?_⟩
  have e4:=e4 (min w (min m' m3)) c (.inl (by omega))
  have e5:((i+1:Nat):Int)=(i:Int)+1:=by omega
  have c1:(i:Int) < 2:=by omega
  have c2:((i:Nat):Int)+1≤9223372036854775807:=by omega
  rw [e5] at e4
  rw [dk]
  have hrl:rowT.length=2:=rfl
  generalize ACode.loop code101L1=L at e4 ⊢
  generalize rowT=R at *
  simp (disch:=omega) [code101L1,c1,hO,hy,hrl,g6,e2,q3,e3,e4,aq]
end
end Go.Abs.AbsMake

namespace Go.Abs.AbsMake
open Go.Abs.AbsDesc Go.Abs.AbsHier
variable {os O B:List AObj} {b w:Nat} {tN:Nat} {tb:List UInt8} {tv:AVal} {dep:Int} {n k:Nat} {pc pt px:Option (Nat × Nat)} {cc ct cx:Option Nat} {C:List InsU} {S:List TrapU} {M:List MapU} {bud:Int}
def descII:Str:=[40,73,41,73]
structure Made (O:List AObj) (tN:Nat) (tb:List UInt8) (tv:AVal) (st:Bool) (nm:Str) (O':List AObj) (m:MethU):Prop where
 st:m.st=st
 name:m.name=nm
 desc:m.desc=descII
 ok:m.ok O'
 over:m.over O.length
 fits:m.fits
 keep:∀ i,i < O.length→i≠tN→O'[i]? = O[i]?
 tape:∃ p,Tape O' tN tb tv p
 traps:∀ x ∈ m.traps,x.cls ∈ classesT
theorem short_big {x:Nat} (h:x≤100):x≤big:=by show x≤9223372036854775807; omega
theorem short_reach {x:Nat} (h:x≤100000):x≤reachB:=by show x≤140737488351232; omega
theorem cls_short {s:Str} (h:s ∈ classesT):s.length≤100:=by
 have:∀ t ∈ classesT,t.length≤100:=by decide
 exact this s h
theorem Wr.meth (h:Wr tN tb tv B O pc pt px cc ct cx C S M dep bud) (hc:C.length≤100000) (hS:S.length≤100000) (hM:M.length≤100000) {nm:Str} (hn:nm.length≤100) {st:Bool} {a l:Int} :
  Made B tN tb tv st nm O ⟨st,nm,descII,a,l,C,pc,cc,S,pt,ct,M,px,cx⟩ where
 st:=rfl
 name:=rfl
 desc:=rfl
 ok:=⟨short_big hn,(show descII.length≤big by decide),Own.row (f:=InsU.cells) (fun _=>rfl) h.c,by show C.length≤9223372036854775807; omega,fun i o e=>ah (h.c.some i o e).2.2.2,fun x hx=>⟨short_big (h.cok x hx).cls,short_big (h.cok x hx).name,short_big (h.cok x hx).desc,short_big (h.cok x hx).text⟩,
  Own.row (f:=TrapU.cells) (fun _=>rfl) h.s,by show S.length≤9223372036854775807; omega,fun i o e=>ah (h.s.some i o e).2.2.2,fun x hx=>short_big (cls_short (h.sok x hx)),
  Own.row (f:=MapU.cells) (fun _=>rfl) h.m,by show M.length≤9223372036854775807; omega,fun i o e=>ah (h.m.some i o e).2.2.2,fun x hx=>by
   obtain ⟨h1,h2⟩:=h.mok x hx
   exact ⟨h1.row,short_big h1.len,fun i o e=>(h1.at' i o e).2.1,h2.row,short_big h2.len,fun i o e=>(h2.at' i o e).2.1,fun t ht=>by
    rcases bf.1 ht with ht | ht
    ·exact short_big (h1.short t ht)
    ·exact short_big (h2.short t ht)⟩⟩
 over:=⟨fun i o e=>gh (h.c.some i o e).2.2.1,fun i o e=>gh (h.s.some i o e).2.2.1,fun i o e=>gh (h.m.some i o e).2.2.1,fun x hx=>by
  obtain ⟨h1,h2⟩:=h.mok x hx
  exact ⟨fun i o e=>gh (h1.at' i o e).1,fun i o e=>gh (h2.at' i o e).1⟩⟩
 fits:=⟨short_reach (by show nm.length≤_; omega),short_reach (show descII.length≤100000 by decide),short_reach hc,fun x hx=>⟨short_reach (bl (h.cok x hx).cls (by decide)),short_reach (bl (h.cok x hx).name (by decide)),short_reach (bl (h.cok x hx).desc (by decide)),short_reach (bl (h.cok x hx).text (by decide))⟩,
  short_reach hS,fun x hx=>short_reach (bl (cls_short (h.sok x hx)) (by decide)),short_reach hM,fun x hx=>by
   obtain ⟨h1,h2⟩:=h.mok x hx
   exact ⟨short_reach (bl h1.len (by decide)),short_reach (bl h2.len (by decide)),fun t ht=>short_reach (bl (h1.short t ht) (by decide)),fun t ht=>short_reach (bl (h2.short t ht) (by decide))⟩⟩
 keep:=h.keep
 tape:=h.tape
 traps:=h.sok
theorem Wr.meth2 (h:Wr tN tb tv B O pc pt px cc ct cx C S M dep bud) (hc:C.length≤100000) {nm:Str} (hn:nm.length≤100) {st:Bool} {a l:Int} :
  Made B tN tb tv st nm O ⟨st,nm,descII,a,l,C,pc,cc,[],none,some 0,[],none,some 0⟩:=by
 have h0:(0:Nat)≤reachB:=bz _
 refine ⟨rfl,rfl,rfl,⟨short_big hn,(show descII.length≤big by decide),Own.row (f:=InsU.cells) (fun _=>rfl) h.c,by show C.length≤9223372036854775807; omega,fun i o e=>ah (h.c.some i o e).2.2.2,fun x hx=>⟨short_big (h.cok x hx).cls,short_big (h.cok x hx).name,short_big (h.cok x hx).desc,short_big (h.cok x hx).text⟩,
  ⟨fun h=>absurd rfl h⟩,bz _,fun i o e=>(by cases e),fun x hx=>(by cases hx),⟨fun h=>absurd rfl h⟩,bz _,fun i o e=>(by cases e),fun x hx=>(by cases hx)⟩,
  ⟨fun i o e=>gh (h.c.some i o e).2.2.1,fun i o e=>(by cases e),fun i o e=>(by cases e),fun x hx=>by cases hx⟩,
  ⟨short_reach (by show nm.length≤_; omega),short_reach (show descII.length≤100000 by decide),short_reach hc,fun x hx=>⟨short_reach (bl (h.cok x hx).cls (by decide)),short_reach (bl (h.cok x hx).name (by decide)),short_reach (bl (h.cok x hx).desc (by decide)),short_reach (bl (h.cok x hx).text (by decide))⟩,h0,fun x hx=>(by cases hx),h0,fun x hx=>by cases hx⟩,h.keep,h.tape,fun x hx=>by cases hx⟩
theorem Made.fin {O1:List AObj} {st:Bool} {nm:Str} {m:MethU} (h:Made O tN tb tv st nm O1 m) (ht:∃ p,Tape O tN tb tv p) (hne:∃ i o,m.ca=some (i,o)) (w W:Nat) :
  ∃ m' O' w',finish ⟨O,b,w⟩ (.agg m.cells) ⟨O1,b,W⟩=(.agg m'.cells,⟨O',b,w'⟩)∧Made O tN tb tv st nm O' m'∧(w'=min w W∨w'=w):=by
 have hv:(AVal.agg m.cells).under (⟨O,b,w⟩:Heap).size=false:=by
  obtain ⟨i,o,e⟩:=hne
  have:=h.over.c i o e
  have h2:¬ i < O.length:=by omega
  simp [MethU.cells,AVal.under,AVal.unders,e,Heap.size,h2]
 rcases finish_cases (h:=⟨O1,b,W⟩) hv with ⟨w',h1,h2⟩ | ⟨h1,f,I,X,h2,h3,h4⟩
 ·exact ⟨m,O1,w',h1,h,by rcases h2 with h2 | h2 <;> simp_all⟩
 ·refine ⟨m.ren f,O++X,w,?_,⟨h.st,h.name,h.desc,h.ok.move h3 h.over h4,?_,?_,fun i hi _=>ag hi,?_,h.traps⟩,.inr rfl⟩
  ·rw [h2]
   simp only [AVal.ren,ren_meth]
  ·exact h.over.ren h3.up
  ·exact h.fits.ren
  ·obtain ⟨p,hp⟩:=ht
   exact ⟨p,by rw [ag (ah hp.at')]; exact hp.at',hp.le,hp.small⟩
end Go.Abs.AbsMake

namespace Go.Abs.AbsMake
open Go.Abs.AbsDesc Go.Abs.AbsHier
variable {os O B:List AObj} {b w:Nat} {tN:Nat} {tb:List UInt8} {tv:AVal} {dep:Int} {n k:Nat}
theorem Ws.made (h:Ws tN tb tv B O n k dep) (hn0:0 < n) (hk:k≤100000) {a0 a4 a5:AVal} {pc pt px:Option (Nat × Nat)} {n' nt nx:Nat} {cc ct cx:Option Nat} (hat:O[B.length]? = some (.cells 6 [a0,.slice pc n' cc,.slice pt nt ct,.slice px nx cx,a4,a5])) {nm:Str} (hn:nm.length≤100) {st:Bool} {a l:Int} :
  (∃ i o,pc=some (i,o))∧(∃ m:MethU,m.cells=[.bool st,.str nm,.str descII,.int .i64 a,.int .i64 l,.slice pc n' cc,.slice pt nt ct,.slice px nx cx]∧m.ca=pc∧Made B tN tb tv st nm O m) ∧
   ∃ m:MethU,m.cells=[.bool st,.str nm,.str descII,.int .i64 a,.int .i64 l,.slice pc n' cc,.slice none 0 (some 0),.slice none 0 (some 0)]∧m.ca=pc∧Made B tN tb tv st nm O m:=by
 obtain ⟨pc',pt',px',cc',ct',cx',C,S,M,bud,hW,rfl,h2,h3,h4⟩:=h.ex
 have e:=hat.symm.trans hW.wr
 simp only [wrO,ap,AObj.cells.injEq,eb,AVal.slice.injEq,true_and,and_true] at e
 obtain ⟨_,⟨rfl,rfl,rfl⟩,⟨rfl,rfl,rfl⟩,⟨rfl,rfl,rfl⟩,_⟩:=e
 refine ⟨?_,⟨_,rfl,rfl,hW.meth (by omega) (by omega) (by omega) hn⟩,⟨_,rfl,rfl,hW.meth2 (by omega) hn⟩⟩
 cases pc with
 | none=>have:=(hW.c.none rfl).1; rw [this] at hn0; simp at hn0
 | some q=>exact ⟨q.1,q.2,rfl⟩
def acts101:List Int:=[96,104,130]
theorem s101a {p:Nat} (ht:Tape O tN tb tv p) (hv:TapeV O tN tb tv) (hb:b≤tN) {nm:Str} (hn:nm.length≤100) {most:Int} (w:Nat) :
  ∃ m O' w',xCall T 101 [.ptr (some (tN,0)),.bool false,.str nm,.int .i64 most] ⟨O,b,w⟩=some (.agg m.cells,⟨O',b,w'⟩)∧Made O tN tb tv false nm O' m∧min w tN≤w'∧w'≤w:=by
 have h:=Ws.start ht hv
 have hlt:=ah ht.at'
 obtain ⟨O1,m1,p1,l1,u1,e1⟩:=s150 h hb (by omega) (op:=21) (nn:=1)
 obtain ⟨O2,m2,p2,l2,u2,e2⟩:=s153 p1 hb (by omega) (x:=3) (by omega) (by omega)
 obtain ⟨O3,m3,p3,l3,u3,e3⟩:=s150 p2 hb (by omega) (op:=96) (nn:=0)
 obtain ⟨O4,m4,p4,l4,u4,e4⟩:=s150 p3 hb (by omega) (op:=25) (nn:=0)
 obtain ⟨O5,m5,p5,l5,u5,e5⟩:=s154 p4 hb (by omega) (op:=180) (c:=[65]) (m:=[102]) (d:=[73]) (by decide) (by decide) (by decide)
 obtain ⟨r2,O6,nx,g1,g2,g3,g4,g5,g6⟩:=(p5.app [.cells 1 (acts101.map (AVal.int .u8))]).next hb (x:=3) (by decide) (by decide)
 obtain ⟨y,hy⟩:=bytes_get acts101 (r:=r2) (by simp only [acts101,bp,a7]; omega)
 obtain ⟨O7,m7,p7,l7,u7,e7⟩:=s150 g2 hb (by omega) (op:=y) (nn:=0)
 obtain ⟨O8,m8,p8,l8,u8,e8⟩:=s150 p7 hb (by omega) (op:=172) (nn:=0)
 obtain ⟨m',q1,q2,q3⟩:=nx_min g5 l7
 have g7:=g4 O5.length (by have:=p5.len.2; omega)
 rw [dh] at g7
 simp only [acts101,cr,gg] at g6 g7 hy
 obtain ⟨pc,pt,px,cc,ct,cx,nt,nx',bud,hat,_⟩:=p8.at'
 obtain ⟨hne,_,m,hm1,hm2,hm3⟩:=p8.made (by omega) (by omega) hat hn (st:=false) (a:=8) (l:=2)
 have hf:=fun W=>hm3.fin (b:=b) ⟨p,ht⟩ (by rw [hm2]; exact hne) w W
 obtain ⟨m'',O',w',f1,f2,f3⟩:=hf (min m1 (min m2 (min m3 (min m4 (min m5 (min m' m8))))))
 refine ⟨m'',O',w',?_,f2,by omega,by omega⟩
 rw [hm1] at f1
 simp only [descII,dc,Nat.reduceAdd] at f1
 simp (disch:=omega) [-getElem?_pos,-getElem?_neg,-List.all_eq_true,gz,gs,nltT,nltF,iltT,iltF,ileT,nleT,cf,-sget,dy,dz,d7,-finish,az t101,code101,e1,e2,e3,e4,e5,g6,g7,hy,e7,q3,e8,hat,f1,aq]
def zeroM:List AVal:=[.bool false,.str [],.str [],.int .i64 0,.int .i64 0,.slice none 0 (some 0),.slice none 0 (some 0),.slice none 0 (some 0)]
section
attribute [-simp] getElem?_pos getElem?_neg List.all_eq_true sget
attribute [local simp] gz gs nltT nltF iltT iltF ileT nleT cf dy dz d7
theorem t101_0 (h:Ws tN tb tv B O n k 0) (hb:b≤tN) {j:Nat} (hs:Act tN tb tv B b 0 152 [.ptr (some (B.length,0))] j) (hk:k+(6*j+6)≤100000) {nm:Str} (hn:nm.length≤100) {most:Int} (hm1:1≤most) (hm6:most≤6) :
  ∃ (O':List AObj) (W:Nat) (m:MethU),(∃ i o,m.ca=some (i,o))∧tN≤W∧W≤B.length∧Made B tN tb tv true nm O' m∧∀ (w:Nat) (c:AExit→St→Option (AVal × Heap)),w≤B.length →
   xK T code101T0 ⟨[(0,.val (.ptr (some (tN,0)))),(2,.val (.str nm)),(3,.val (.int .i64 most)),(8,.var zeroM),(9,.val (.ptr (some (B.length,0))))],⟨O,b,w⟩⟩ (k:=⟨c⟩)=c .ret ⟨[(8,.var m.cells)],⟨O',b,min w W⟩⟩:=by
 obtain ⟨hlt,hBO⟩:=h.len
 obtain ⟨r,O1,nx,g1,g2,g3,g4,g5,g6⟩:=h.next hb (x:=most) hm1 (by omega)
 have hrj:(r+1)*j≤6*j:=d9 _ (by omega)
 obtain ⟨O2,m2,n2,q2,p2,l2,u2,e2⟩:=l101 (v2:=.str nm) (v8:=zeroM) hs (r+1) O1 n k (by omega) g2 (by omega)
 have hi1:Expr tN tb tv B b 0 151 1 5:=(expr_all hb 1 1 (by decide) (by decide) (by decide)).1
 obtain ⟨O3,m3,⟨n3,k3,p3⟩,l3,u3,e3⟩:=hi1 O2 _ _ p2 (by omega)
 obtain ⟨O4,m4,p4,l4,u4,e4⟩:=s150 p3 hb (by omega) (op:=172) (nn:=0)
 obtain ⟨pc,pt,px,cc,ct,cx,nt,nx',bud,hat,_⟩:=p4.at'
 obtain ⟨hne,⟨m,hm,hm2,hm3⟩,_⟩:=p4.made (by omega) (by omega) hat hn (st:=true) (a:=40) (l:=8)
 obtain ⟨m',q4,q5,q6⟩:=nx_min g5 l2
 refine ⟨O4,min m' (min m3 m4),m,by rw [hm2]; exact hne,by omega,by omega,hm3,fun w c hw=>?_⟩
 have e2:=fun c=>e2 (nx w) c (by rcases g5 with g | g <;> rw [g] <;> omega)
 simp only [Int.natCast_add,b7] at e2
 have er:(1:Int)+r=r+1:=by omega
 rw [hm]
 simp only [descII,zeroM] at e2 ⊢
 simp (disch:=omega) [code101T0,code101R0,g6,er,e2,q6,e3,e4,hat,aq]
theorem t101_1 (h:Ws tN tb tv B O n k 0) (hb:b≤tN) {j:Nat} (hs:Act tN tb tv B b 0 152 [.ptr (some (B.length,0))] j) (hk:k+(6*j+16)≤100000) {nm:Str} (hn:nm.length≤100) {most:Int} (hm1:1≤most) (hm6:most≤6) :
  ∃ (O':List AObj) (W:Nat) (m:MethU),(∃ i o,m.ca=some (i,o))∧tN≤W∧W≤B.length∧Made B tN tb tv true nm O' m∧∀ (w:Nat) (c:AExit→St→Option (AVal × Heap)),w≤B.length →
   xK T code101T1 ⟨[(0,.val (.ptr (some (tN,0)))),(2,.val (.str nm)),(3,.val (.int .i64 most)),(8,.var zeroM),(9,.val (.ptr (some (B.length,0))))],⟨O,b,w⟩⟩ (k:=⟨c⟩)=c .ret ⟨[(8,.var m.cells)],⟨O',b,min w W⟩⟩:=by
 obtain ⟨hlt,hBO⟩:=h.len
 obtain ⟨O1,m1,p1,l1,u1,e1⟩:=s150 h hb (by omega) (op:=10) (nn:=0)
 obtain ⟨O2,m2,p2,l2,u2,e2⟩:=s150 p1 hb (by omega) (op:=55) (nn:=3)
 obtain ⟨pc,pt,px,cc,ct,cx,nt,nx',bud,cs,h1,h6,h9,h7,hkw,_,_,p3⟩:=p2.put (b:=b) (x:=⟨187,0,0,[65],[],[],[]⟩) hb (by omega) ⟨by decide,by decide,by decide,by decide⟩
 simp only [InsU.cells] at h7 p3
 obtain ⟨O4,m4,p4,l4,u4,e4⟩:=s150 p3 hb (by omega) (op:=58) (nn:=5)
 obtain ⟨r,O5,nx,g1,g2,g3,g4,g5,g6⟩:=p4.next hb (x:=5) (by decide) (by decide)
 obtain ⟨O6,m6,p6,l6,u6,e6⟩:=s153 g2 hb (by omega) (x:=r) (by omega) (by omega)
 obtain ⟨m',q1,q2,q3⟩:=nx_min g5 l6
 obtain ⟨O7,m7,p7,l7,u7,e7⟩:=s150 p6 hb (by omega) (op:=188) (nn:=10)
 obtain ⟨O8,m8,p8,l8,u8,e8⟩:=s150 p7 hb (by omega) (op:=58) (nn:=6)
 obtain ⟨O9,m9,p9,l9,u9,e9⟩:=s150 p8 hb (by omega) (op:=1) (nn:=0)
 obtain ⟨O10,m10,p10,l10,u10,e10⟩:=s150 p9 hb (by omega) (op:=58) (nn:=7)
 obtain ⟨O',W,m,hne,hW1,hW2,hM,e11⟩:=t101_0 p10 hb hs (by omega) hn hm1 hm6
 refine ⟨O',min m1 (min m2 (min B.length (min m4 (min m' (min m7 (min m8 (min m9 (min m10 W)))))))),m,hne,by omega,by omega,hM,fun w c hw=>?_⟩
 generalize zeroM=z at *
 simp (disch:=omega) [code101T1,e1,e2,-aAppend,h1,h7,h6,h9,hkw,e4,g6,e6,q3,e7,e8,e9,e10,e11,aq]
end
end Go.Abs.AbsMake

namespace Go.Abs.AbsMake
open Go.Abs.AbsDesc Go.Abs.AbsHier
variable {os O B:List AObj} {b w:Nat} {tN:Nat} {tb:List UInt8} {tv:AVal} {dep:Int} {n k:Nat}
theorem s101b {p:Nat} (ht:Tape O tN tb tv p) (hv:TapeV O tN tb tv) (hb:b≤tN) {nm:Str} (hn:nm.length≤100) {most:Int} (hm1:1≤most) (hm6:most≤6) (w:Nat) :
  ∃ m O' w',xCall T 101 [.ptr (some (tN,0)),.bool true,.str nm,.int .i64 most] ⟨O,b,w⟩=some (.agg m.cells,⟨O',b,w'⟩)∧Made O tN tb tv true nm O' m∧min w tN≤w'∧w'≤w:=by
 have h:=(Ws.start ht hv).app [.cells 1 rowT]
 have hlt:=ah ht.at'
 have hJ:JJ 3=3367:=rfl
 have hs:Act tN tb tv O b 0 152 [.ptr (some (O.length,0))] (JJ 3):=s152 hb 3 0 (by decide) (by decide) (by decide)
 obtain ⟨O1,m1,n1,k1,p1,l1,u1,e1⟩:=l101b (v2:=.str nm) (v3:=.int .i64 most) (v8:=zeroM) hb (q:=O.length+1) (by omega) 2 0 _ 0 0 rfl (by rw [bh,f0]; rfl) h (by omega)
 obtain ⟨O2,W,m,hne,hW1,hW2,hM,e2⟩:=t101_1 p1 hb hs (by omega) hn hm1 hm6
 obtain ⟨m'',O',w',f1,f2,f3⟩:=hM.fin (b:=b) ⟨p,ht⟩ hne w (min m1 W)
 refine ⟨m'',O',w',?_,f2,by omega,by omega⟩
 have e1:=fun w c=>e1 w c (.inr (by decide))
 have e2:=fun c=>e2 m1 c u1
 simp only [zeroM,rowT,b7,bh,b9,b0] at e1 e2
 have hml:m.cells.length=8:=rfl
 have htk:List.take 8 m.cells=m.cells:=rfl
 generalize m.cells=z at *
 simp (disch:=omega) [-getElem?_pos,-getElem?_neg,-List.all_eq_true,gz,gs,nltT,nltF,iltT,iltF,ileT,nleT,cf,-sget,dy,dz,d7,-finish,az t101,code101,e1,e2,f1,hml,htk,aq]
end Go.Abs.AbsMake
