/-
  Texts joined.
-/
import Derived.Test.YtnpknimahijmfaaDoorP0
import Derived.Test.YtnpknimahijmfaaDoorP9
import Derived.KernelRfl
set_option linter.unusedVariables false
set_option linter.unusedSimpArgs false
set_option maxRecDepth 100000
namespace Go.Abs
abbrev Str:=List UInt8
section
variable {κ ν:Type} [DecidableEq κ]
def ents (kf:κ→AVal) (vf:ν→AVal):Nat→List (κ × ν)→List (AVal × AVal × Nat)
 | _,[]=>[]
 | i,x :: r=>(kf x.1,vf x.2,i) :: ents kf vf (i+1) r
def getE:List (κ × ν)→κ→Option ν
 | [],_=>none
 | x :: r,k=>if x.1=k then some x.2 else getE r k
def mObj (kf:κ→AVal) (vf:ν→AVal) (A:List (κ × ν)):AObj:=.map (ents kf vf 0 A) A.length
variable {os:List AObj} {b w r:Nat} {A:List (κ × ν)} {kf:κ→AVal} {vf:ν→AVal}
end
theorem get_k {α:Type} (a c:List α) (k:Nat):(a++c)[a.length+k]? = c[k]?:=by
 rw [ak (by omega)]; congr 1; omega
theorem get_k0 {α:Type} (a c:List α):(a++c)[a.length]? = c[0]?:=get_k a c 0
theorem set_k {α:Type} (a c:List α) (k:Nat) (y:α):(a++c).set (a.length+k) y=a++c.set k y:=by
 rw [List.set_append_right _ _ (by omega)]; congr 2; omega
theorem set_k0 {α:Type} (a c:List α) (y:α):(a++c).set a.length y=a++c.set 0 y:=set_k a c 0 y
theorem finish_keep {h0 h:Heap} {v:AVal} {k:List Nat} (hw:h0.size≤h.wmin) (hv:v.under h0.size=false) (hr:reach h h0.size 1000 v.ids []=k) (hok:∀ i ∈ v.ids++k.flatMap fun i=>((h.get i).map AObj.ids).getD [],i < h0.size∨i ∈ k) :
  finish h0 v h=(v.ren (fun i=>if i < h0.size then i else h0.size+idxIn i k),{ h0 with objs:=h0.objs++k.map fun i=>((h.get i).map (AObj.ren fun i=>if i < h0.size then i else h0.size+idxIn i k)).getD .dead }):=by
 unfold finish
 rw [if_neg (by omega),hv]
 simp only [av,if_false,hr]
 rw [if_pos]
 rw [al]
 intro i hi
 rcases hok i hi with h1 | h1
 ·rw [decide_eq_true h1]; rfl
 ·simp [h1]
end Go.Abs

namespace Go.Abs
structure FieldU where
 st:Bool
 name:Str
 desc:Str
structure InsU where
 op:Int
 n:Int
 m:Int
 cls:Str
 name:Str
 desc:Str
 text:Str
structure TrapU where
 lo:Int
 hi:Int
 at':Int
 cls:Str
structure MapU where
 at':Int
 locals:List Str
 la:Option (Nat × Nat)
 lc:Option Nat
 stack:List Str
 sa:Option (Nat × Nat)
 sc:Option Nat
structure MethU where
 st:Bool
 name:Str
 desc:Str
 stack:Int
 locals:Int
 code:List InsU
 ca:Option (Nat × Nat)
 cc:Option Nat
 traps:List TrapU
 ta:Option (Nat × Nat)
 tc:Option Nat
 maps:List MapU
 xa:Option (Nat × Nat)
 xc:Option Nat
structure UnitU where
 name:Str
 super:Str
 fields:List FieldU
 fa:Option (Nat × Nat)
 fc:Option Nat
 meths:List MethU
 ma:Option (Nat × Nat)
 mc:Option Nat
def FieldU.cells (f:FieldU):List AVal:=[.bool f.st,.str f.name,.str f.desc]
def InsU.cells (x:InsU):List AVal:=[.int .u8 x.op,.int .i64 x.n,.int .i64 x.m,.str x.cls,.str x.name,.str x.desc,.str x.text]
def TrapU.cells (x:TrapU):List AVal:=[.int .i64 x.lo,.int .i64 x.hi,.int .i64 x.at',.str x.cls]
def MapU.cells (x:MapU):List AVal:=[.int .i64 x.at',.slice x.la x.locals.length x.lc,.slice x.sa x.stack.length x.sc]
def MethU.cells (m:MethU):List AVal:=[.bool m.st,.str m.name,.str m.desc,.int .i64 m.stack,.int .i64 m.locals,.slice m.ca m.code.length m.cc,.slice m.ta m.traps.length m.tc,.slice m.xa m.maps.length m.xc]
def UnitU.cells (u:UnitU):List AVal:=[.str u.name,.str u.super,.slice u.fa u.fields.length u.fc,.slice u.ma u.meths.length u.mc]
def strC (s:Str):List AVal:=[.str s]
abbrev big:Nat:=9223372036854775807
def under (n:Nat) (a:Option (Nat × Nat)):Prop:=∀ i o,a=some (i,o)→i < n
structure MapU.ok (os:List AObj) (x:MapU):Prop where
 l:Row os 1 strC x.locals x.la
 ln:x.locals.length≤big
 lu:under os.length x.la
 s:Row os 1 strC x.stack x.sa
 sn:x.stack.length≤big
 su:under os.length x.sa
 ls:∀ t ∈ x.locals++x.stack,t.length≤big
structure MethU.ok (os:List AObj) (m:MethU):Prop where
 name:m.name.length≤big
 desc:m.desc.length≤big
 c:Row os 7 InsU.cells m.code m.ca
 cn:m.code.length≤big
 cu:under os.length m.ca
 cok:∀ x ∈ m.code,x.cls.length≤big∧x.name.length≤big∧x.desc.length≤big∧x.text.length≤big
 t:Row os 4 TrapU.cells m.traps m.ta
 tn:m.traps.length≤big
 tu:under os.length m.ta
 tok:∀ x ∈ m.traps,x.cls.length≤big
 x:Row os 3 MapU.cells m.maps m.xa
 xn:m.maps.length≤big
 xu:under os.length m.xa
 xok:∀ x ∈ m.maps,x.ok os
structure UnitU.ok (os:List AObj) (u:UnitU):Prop where
 name:u.name.length≤big
 super:u.super.length≤big
 f:Row os 3 FieldU.cells u.fields u.fa
 fn:u.fields.length≤big
 fu:under os.length u.fa
 fok:∀ x ∈ u.fields,x.name.length≤big∧x.desc.length≤big
 m:Row os 8 MethU.cells u.meths u.ma
 mn:u.meths.length≤big
 mu:under os.length u.ma
 mok:∀ x ∈ u.meths,x.ok os
def Pre (os O:List AObj):Prop:=∀ (i:Nat) (o:AObj),os[i]? = some o→O[i]? = some o
theorem Pre.refl (os:List AObj):Pre os os:=fun _ _ h=>h
theorem Pre.trans {A B C:List AObj} (h:Pre A B) (k:Pre B C):Pre A C:=fun i o ho=>k i o (h i o ho)
theorem Pre.app (os X:List AObj):Pre os (os++X):=fun i o h=>by rw [ai (ah h)]; exact h
theorem Pre.set {A B:List AObj} (h:Pre A B) {i:Nat} (o:AObj) (hi:A.length≤i):Pre A (B.set i o):=fun j p hj=>by
 have:=ah hj
 rw [ci (by omega)]; exact h j p hj
theorem Pre.len {A B:List AObj} (h:Pre A B):A.length≤B.length:=by
 rcases am B.length A.length with h1 | h1
 ·have h2:B.length < A.length:=h1
  have:=ah (h B.length A[B.length] (by simp [h2]))
  omega
 ·exact h1
theorem Pre.row {os O:List AObj} {α:Type} {e:Nat} {f:α→List AVal} {L:List α} {a:Option (Nat × Nat)} (hp:Pre os O) (h:Row os e f L a):Row O e f L a :=
 ⟨fun hne=>by
  obtain ⟨b,o,cs,h1,h2,h3⟩:=h.at' hne
  exact ⟨b,o,cs,h1,hp _ _ h2,h3⟩⟩
theorem under.le {n m:Nat} {a:Option (Nat × Nat)} (h:under n a) (hm:n≤m):under m a:=fun i o e=>cq (h i o e) hm
theorem MapU.ok.pre {os O:List AObj} (hp:Pre os O) {x:MapU} (h:x.ok os):x.ok O:=⟨hp.row h.l,h.ln,h.lu.le hp.len,hp.row h.s,h.sn,h.su.le hp.len,h.ls⟩
theorem MethU.ok.pre {os O:List AObj} (hp:Pre os O) {m:MethU} (h:m.ok os):m.ok O :=
 ⟨h.name,h.desc,hp.row h.c,h.cn,h.cu.le hp.len,h.cok,hp.row h.t,h.tn,h.tu.le hp.len,h.tok,hp.row h.x,h.xn,h.xu.le hp.len,fun x hx=>(h.xok x hx).pre hp⟩
theorem UnitU.ok.pre {os O:List AObj} (hp:Pre os O) {u:UnitU} (h:u.ok os):u.ok O :=
 ⟨h.name,h.super,hp.row h.f,h.fn,h.fu.le hp.len,h.fok,hp.row h.m,h.mn,h.mu.le hp.len,fun x hx=>(h.mok x hx).pre hp⟩
structure UnitU.low (n:Nat) (u:UnitU):Prop where
 f:under n u.fa
 m:under n u.ma
section
variable {os:List AObj} {w:Nat}
def shIns:Sh:=.struct [.int .u8,.int .i64,.int .i64,.str,.str,.str,.str]
def shTrap:Sh:=.struct [.int .i64,.int .i64,.int .i64,.str]
def shMap:Sh:=.struct [.int .i64,.slice .str,.slice .str]
def shMeth:Sh:=.struct [.bool,.str,.str,.int .i64,.int .i64,.slice shIns,.slice shTrap,.slice shMap]
end
end Go.Abs

namespace Go.Abs.AbsHier
open Go.Abs.AbsDesc
variable {os O:List AObj} {b w:Nat}
theorem s27 {s:Str} (hn:s.length≤9223372036854775807) (hb:b≤os.length):xCall T 27 [.str s] ⟨os,b,w⟩=some (.bool (isTy s),⟨os,b,w⟩):=xCall_sub sub (AbsDesc.s27 hn hb)
theorem s25 {s:Str} (hb:b≤os.length):xCall T 25 [.str s] ⟨os,b,w⟩=some (.bool (isClass s),⟨os,b,w⟩):=xCall_sub sub (AbsDesc.s25 hb)
theorem s38 {s:Str} (hn:s.length≤9223372036854775807) (hb:b≤os.length):xCall T 38 [.str s] ⟨os,b,w⟩=some (methV os.length (methL s),⟨methO os (methL s),b,w⟩):=xCall_sub sub (AbsDesc.s38 hn hb)
theorem s139 {s:Str}:xCall T 139 [.str s,.str [91]] ⟨os,b,w⟩=some (.str (bare s),⟨os,b,w⟩):=xCall_sub sub AbsDesc.s139
theorem s173 {s:Str} {c:UInt8} {h:Heap}:xCall T 173 [.str s,.str [c]] h=some (.int .i64 (Lib.indexByte s c),h):=xCall_sub sub AbsDesc.s173
abbrev Key:=Str × Str × Str
structure Mem where
 cls:Str
 st:Bool
 deriving DecidableEq
def keyF (k:Key):AVal:=.agg [.str k.1,.str k.2.1,.str k.2.2]
def memF (m:Mem):AVal:=.agg [.str m.cls,.bool m.st]
structure World (O:List AObj) (N:Nat) (S:List (Str × Str)) (F M:List (Key × Mem)) (V:List (Key × Bool)):Prop where
 w0:O[N]? = some (.cells 4 [.map (some (N+1)),.map (some (N+2)),.map (some (N+3)),.map (some (N+4))])
 m1:O[N+1]? = some (mObj .str .str S)
 m2:O[N+2]? = some (mObj keyF memF F)
 m3:O[N+3]? = some (mObj keyF memF M)
 m4:O[N+4]? = some (mObj keyF .bool V)
variable {N:Nat} {S:List (Str × Str)} {F M:List (Key × Mem)} {V:List (Key × Bool)}
end Go.Abs.AbsHier

namespace Go.Abs.AbsHier
open Go.Abs.AbsDesc
variable {os O:List AObj} {b w:Nat} {N:Nat} {S:List (Str × Str)} {F M:List (Key × Mem)} {V:List (Key × Bool)}
def lineS (S:List (Str × Str)):Nat→Str→List Str
 | 0,_=>[]
 | k+1,c=>match getE S c with
  | some d=>c :: lineS S k d
  | none=>[]
structure LineB {σ:Type} (B:σ→Str→AObj→List AObj) (N n i g lo:Nat) (sl:List (Nat × AVal)) (S:List (Str × Str)) (step:σ→Str→σ × Option AExit) (b:Nat):Prop where
 bn:b≤n
 lon:lo≤n
 c0:∀ x c o,(B x c o)[n]? = some (.cells 1 [.ptr (some (N,0))])
 c1:∀ x c o,(B x c o)[n+1]? = some (.cells 1 [.str c])
 set:∀ x c d o,(B x c o).set (n+1) (.cells 1 [.str d])=B x d o
 loop:∀ x c o,(B x c o)[i]? = some o
 w0:∀ x c o,∃ r,(B x c o)[N]? = some (.cells 4 (.map (some (N+1)) :: r))
 m1:∀ x c o,(B x c o)[N+1]? = some (mObj .str .str S)
 body:∀ x c w,lo≤w→∃ w',lo≤w'∧w'≤i∧xCall T g [.ptr (some (i,0)),.str c] ⟨B x c (.loop g .ready none sl),b,w⟩ =
  some (.bool (step x c).2.isNone,⟨B (step x c).1 c (match (step x c).2 with | none=>.loop g .ready none sl | some e=>.loop g .done (some e) sl),b,w'⟩)
section
variable {σ:Type} {B:σ→Str→AObj→List AObj} {n i g lo:Nat} {sl:List (Nat × AVal)} {step:σ→Str→σ × Option AExit}
end
end Go.Abs.AbsHier

namespace Go.Abs.AbsHier
open Go.Abs.AbsDesc
variable {os O:List AObj} {b w:Nat} {N:Nat} {S:List (Str × Str)} {F M:List (Key × Mem)} {V:List (Key × Bool)}
def objectT:Str:=[79,98,106,101,99,116]
end Go.Abs.AbsHier

namespace Go.Abs
theorem row_flat {α:Type} {e:Nat} {f:α→List AVal} {cs:List AVal}:∀ (L:List α) (o:Nat),(∀ (j:Nat) (x:α),L[j]? = some x→o+j*e+e≤cs.length∧(cs.drop (o+j*e)).take e=f x)→(cs.drop o).take (L.length*e)=L.flatMap f
 | [],o,_=>by simp
 | x :: L,o,h=>by
  have h0:=(h 0 x rfl).2
  rw [Nat.zero_mul,Nat.add_zero] at h0
  have ih:=row_flat L (o+e) fun j y hy=>by
   have:=h (j+1) y hy
   rw [cz,Nat.one_mul,Nat.add_comm (j*e) e,← dx] at this
   exact this
  rw [bo,cz,Nat.one_mul,Nat.add_comm,List.take_add,d7,h0,fj,ih]
theorem rowOf_row {α:Type} {e:Nat} {f:α→List AVal} {h:Heap} {L:List α} {a:Option (Nat × Nat)} {c:Option Nat} (hR:Row h.objs e f L a):rowOf e h (.slice a L.length c)=some (L.flatMap f):=by
 by_cases hL:L=[]
 ·subst hL
  cases a with
  | none=>rfl
  | some p=>rfl
 ·obtain ⟨b,o,cs,h1,h2,h3⟩:=hR.at' hL
  subst h1
  have hl:L.length≠0:=fun e=>hL (a9 e)
  have hg:h.get b=some (.cells e cs):=h2
  unfold rowOf
  simp only
  rw [if_neg hl,hg]
  simp only
  obtain ⟨x,hx⟩:∃ x,L[L.length - 1]? = some x:=⟨_,ag (by omega)⟩
  have hb:=(h3 _ _ hx).1
  have he:(L.length - 1)*e+e=L.length*e:=by
   rw [← Nat.succ_mul]; congr 1; omega
  have h2:True∧o+L.length*e≤cs.length:=⟨trivial,by omega⟩
  rw [if_pos h2,row_flat L o h3]
theorem rowOf0 {e:Nat} {h:Heap} {a:Option (Nat × Nat)} {c:Option Nat}:rowOf e h (.slice a 0 c)=some []:=by
 cases a with
 | none=>rfl
 | some p=>rfl
theorem rowOfC {e n:Nat} {h:Heap} {i:Nat} {cs:List AVal} {c:Option Nat} (hg:h.objs[i]? = some (.cells e cs)) (hn:cs.length=n*e):rowOf e h (.slice (some (i,0)) n c)=some cs:=by
 unfold rowOf
 simp only
 split
 ·rename_i h0
  subst h0
  rw [Nat.zero_mul] at hn
  rw [a9 hn]
 ·have hg':h.get i=some (.cells e cs):=hg
  rw [hg']
  simp only
  have h2:True∧0+n*e≤cs.length:=⟨trivial,by omega⟩
  rw [if_pos h2,List.drop_zero,← hn,List.take_length]
theorem sgetN (t:Nat):sget [] t=none:=by simp
theorem sgetH (t:Nat) (x:Slot) (r:Slots):sget ((t,x) :: r) t=some x:=by simp
theorem sgetT (u t:Nat) (x:Slot) (r:Slots) (h:u≠t):sget ((u,x) :: r) t=sget r t:=by simp [h]
end Go.Abs

namespace Go.Abs.AbsHier
open Go.Abs.AbsDesc
variable {os O:List AObj} {b w:Nat} {N:Nat} {S:List (Str × Str)} {F M:List (Key × Mem)} {V:List (Key × Bool)}
def isS (S:List (Str × Str)) (c d:Str):Bool:=(lineS S S.length c).any fun x=>decide (x=d)
end Go.Abs.AbsHier

namespace Go.Abs.AbsHier
open Go.Abs.AbsDesc
variable {os O:List AObj} {b w:Nat} {N:Nat} {S:List (Str × Str)} {F M:List (Key × Mem)} {V:List (Key × Bool)}
end Go.Abs.AbsHier

namespace Go.Abs.AbsHier
open Go.Abs.AbsDesc
variable {os O:List AObj} {b w:Nat} {N:Nat} {S:List (Str × Str)} {F M:List (Key × Mem)} {V:List (Key × Bool)}
theorem fh {α:Type} {e:Nat} {f:α→List AVal} {L:List α} {a:Option (Nat × Nat)} (h:Row os e f L a) {i:Nat} {x:α} (hx:L[i]? = some x) :
  ∃ p o cs,a=some (p,o)∧os[p]? = some (.cells e cs)∧p < os.length∧o+i*e+e≤cs.length∧(cs.drop (o+i*e)).take e=f x:=by
 obtain ⟨p,o,cs,h1,h2,h3⟩:=h.at' (ne_of_get hx)
 exact ⟨p,o,cs,h1,h2,ah h2,h3 i x hx⟩
end Go.Abs.AbsHier

namespace Go.Abs.AbsHier
open Go.Abs.AbsDesc
variable {os O:List AObj} {b w:Nat} {N:Nat} {S:List (Str × Str)} {F M:List (Key × Mem)} {V:List (Key × Bool)}
end Go.Abs.AbsHier

namespace Go.Abs.AbsHier
open Go.Abs.AbsDesc
variable {os O:List AObj} {b w:Nat} {N:Nat} {S:List (Str × Str)} {F M:List (Key × Mem)} {V:List (Key × Bool)}
def trapOk (S:List (Str × Str)) (t:TrapU):Bool:=decide (t.cls=[]) || (getE S t.cls).isSome
end Go.Abs.AbsHier

namespace Go.Abs.AbsHier
open Go.Abs.AbsDesc
variable {os O:List AObj} {b w:Nat} {N:Nat} {S:List (Str × Str)} {F M:List (Key × Mem)} {V:List (Key × Bool)}
end Go.Abs.AbsHier

namespace Go.Abs.AbsHier
open Go.Abs.AbsDesc
variable {os O:List AObj} {b w:Nat} {N:Nat}
def sysT:Str:=[115,121,115]
def throwT:Str:=[84,104,114,111,119,97,98,108,101]
def natL:List (Str × Str):=[([112,114,105,110,116],[40,73,41,86]),([112,114,105,110,116,76,111,110,103],[40,74,41,86]),([112,114,105,110,116,84,101,120,116],[40,91,66,41,86]),([97,100,100],[40,91,66,41,73]),
 ([103,101,116],[40,73,41,91,66]),([115,101,116],[40,73,91,66,41,86]),([100,101,108],[40,73,41,86]),([99,111,117,110,116],[40,41,73])]
def builtV:List (Key × Bool):=natL.map fun x=>((sysT,x.1,x.2),true)
def wO (os:List AObj) (S:List (Str × Str)) (F M:List (Key × Mem)) (V:List (Key × Bool)):List AObj :=
 os++[.cells 4 [.map (some (os.length+1)),.map (some (os.length+2)),.map (some (os.length+3)),.map (some (os.length+4))],mObj .str .str S,mObj keyF memF F,mObj keyF memF M,mObj keyF .bool V]
end Go.Abs.AbsHier

namespace Go.Abs.AbsHier
open Go.Abs.AbsDesc
variable {os O:List AObj} {b w:Nat} {N:Nat} {S:List (Str × Str)} {F M:List (Key × Mem)} {V:List (Key × Bool)}
end Go.Abs.AbsHier

namespace Go.Abs.AbsHier
open Go.Abs.AbsDesc
variable {os O:List AObj} {b w:Nat} {N:Nat} {S:List (Str × Str)} {F M:List (Key × Mem)} {V:List (Key × Bool)}
def newV (N:Nat):Option (List (Str × Str) × List (Key × Mem) × List (Key × Mem))→AVal
 | none=>.tuple [.ptr none,.int .i64 15]
 | some _=>.tuple [.ptr (some (N,0)),.int .i64 0]
def newO (os:List AObj):Option (List (Str × Str) × List (Key × Mem) × List (Key × Mem))→List AObj
 | none=>os
 | some q=>wO os q.1 q.2.1 q.2.2 builtV
end Go.Abs.AbsHier

namespace Go.Abs
def FieldU.fits (x:FieldU):Prop:=x.name.length≤reachB∧x.desc.length≤reachB
def InsU.fits (x:InsU):Prop:=x.cls.length≤reachB∧x.name.length≤reachB∧x.desc.length≤reachB∧x.text.length≤reachB
def TrapU.fits (x:TrapU):Prop:=x.cls.length≤reachB
structure MapU.fits (x:MapU):Prop where
 l:x.locals.length≤reachB
 s:x.stack.length≤reachB
 ls:∀ t ∈ x.locals,t.length≤reachB
 ss:∀ t ∈ x.stack,t.length≤reachB
structure MethU.fits (m:MethU):Prop where
 name:m.name.length≤reachB
 desc:m.desc.length≤reachB
 c:m.code.length≤reachB
 cs:∀ x ∈ m.code,x.fits
 t:m.traps.length≤reachB
 ts:∀ x ∈ m.traps,x.fits
 x:m.maps.length≤reachB
 xs:∀ x ∈ m.maps,x.fits
structure UnitU.cap (u:UnitU):Prop where
 f:∀ k,u.fc=some k→u.fields.length≤k
 m:∀ k,u.mc=some k→u.meths.length≤k
structure UnitU.fits (u:UnitU):Prop where
 name:u.name.length≤reachB
 super:u.super.length≤reachB
 f:u.fields.length≤reachB
 fs:∀ x ∈ u.fields,x.fits
 m:u.meths.length≤reachB
 ms:∀ x ∈ u.meths,x.fits
 cap:u.cap
section
variable {os:List AObj} {b w:Nat} {d:Dat} {cs:List AVal}
theorem has_strC (h:Has ⟨os,b,w⟩ .str d cs):∃ x:Str,cs=strC x∧x.length≤reachB:=by
 obtain ⟨s,_,rfl,hs⟩:=h.str
 exact ⟨s,rfl,hs⟩
theorem has_trap (h:Has ⟨os,b,w⟩ shTrap d cs):∃ x:TrapU,cs=x.cells∧x.fits:=by
 obtain ⟨l,rfl,h⟩:=h.struct
 obtain ⟨_,_,_,_,rfl,rfl,h1,h⟩:=h.cons
 obtain ⟨_,_,_,_,rfl,rfl,h2,h⟩:=h.cons
 obtain ⟨_,_,_,_,rfl,rfl,h3,h⟩:=h.cons
 obtain ⟨_,_,_,_,rfl,rfl,h4,h⟩:=h.cons
 obtain ⟨rfl,rfl⟩:=h.nil
 obtain ⟨p,_,rfl,_⟩:=h1.int
 obtain ⟨q,_,rfl,_⟩:=h2.int
 obtain ⟨r,_,rfl,_⟩:=h3.int
 obtain ⟨c,_,rfl,hc⟩:=h4.str
 exact ⟨⟨p,q,r,c⟩,rfl,hc⟩
theorem gu {n:Nat} (h:n≤reachB):n≤big:=by
 have:n≤140737488351232:=h
 show n≤9223372036854775807
 omega
theorem under_of {n m:Nat} {a:Option (Nat × Nat)} (h:∀ i o,a=some (i,o)→i < n) (hm:n≤m):under m a:=fun i o e=>cq (h i o e) hm
theorem has_map (hb:b≤os.length) (h:Has ⟨os,b,w⟩ shMap d cs):∃ x:MapU,cs=x.cells∧x.ok os∧x.fits:=by
 obtain ⟨l,rfl,h⟩:=h.struct
 obtain ⟨_,_,_,_,rfl,rfl,h1,h⟩:=h.cons
 obtain ⟨_,_,_,_,rfl,rfl,h2,h⟩:=h.cons
 obtain ⟨_,_,_,_,rfl,rfl,h3,h⟩:=h.cons
 obtain ⟨rfl,rfl⟩:=h.nil
 obtain ⟨p,_,rfl,_⟩:=h1.int
 obtain ⟨la,L,lc,rfl,hL,hLn,hLs,hLu,_⟩:=h2.row fun d c h=>has_strC h
 obtain ⟨sa,S,sc,rfl,hS,hSn,hSs,hSu,_⟩:=h3.row fun d c h=>has_strC h
 exact ⟨⟨p,L,la,lc,S,sa,sc⟩,rfl,⟨hL,gu hLn,under_of hLu hb,hS,gu hSn,under_of hSu hb,fun t ht=>by
  rcases ba.1 ht with ht | ht
  ·exact gu (hLs t ht)
  ·exact gu (hSs t ht)⟩,⟨hLn,hSn,hLs,hSs⟩⟩
end
end Go.Abs

namespace Go.Abs.AbsMake
open Go.Abs.AbsDesc Go.Abs.AbsHier
variable {os O B:List AObj} {b w:Nat}
def tapeO (tv:AVal) (p:Nat):AObj:=.cells 2 [tv,.int .i64 p]
structure Tape (O:List AObj) (tN:Nat) (tb:List UInt8) (tv:AVal) (p:Nat):Prop where
 at':O[tN]? = some (tapeO tv p)
 le:p≤tb.length
 small:tb.length≤1000
structure TapeV (O:List AObj) (tN:Nat) (tb:List UInt8) (tv:AVal):Prop where
 row:∃ a c,tv = .slice a tb.length c∧Row O 1 byteCell tb a∧∀ i o,a=some (i,o)→i≠tN
structure Own {α:Type} (O:List AObj) (N e:Nat) (f:α→List AVal) (L:List α) (p:Option (Nat × Nat)) (c:Option Nat):Prop where
 some:∀ i o,p=some (i,o)→o=0∧c=Option.none∧N < i∧O[i]? = some (.cells e (L.flatMap f))
 none:p=Option.none→L=[]∧c=Option.some 0
def classesT:List Str:=[[],throwT,[77,97,116,104,70,97,117,108,116],[79,111,112,115],[78,117,108,108,70,97,117,108,116]]
structure InsU.short (x:InsU):Prop where
 cls:x.cls.length≤100
 name:x.name.length≤100
 desc:x.desc.length≤100
 text:x.text.length≤100
structure Leaf (O:List AObj) (N:Nat) (pc pt px:Option (Nat × Nat)) (L:List Str) (a:Option (Nat × Nat)):Prop where
 row:Row O 1 strC L a
 len:L.length≤100
 short:∀ t ∈ L,t.length≤100
 at':∀ i o,a=some (i,o)→N < i∧i < O.length∧(∀ o',pc≠some (i,o'))∧(∀ o',pt≠some (i,o'))∧(∀ o',px≠some (i,o'))
def wrO (tN:Nat) (pc pt px:Option (Nat × Nat)) (cc ct cx:Option Nat) (n nt nx:Nat) (dep bud:Int):AObj :=
 .cells 6 [.ptr (some (tN,0)),.slice pc n cc,.slice pt nt ct,.slice px nx cx,.int .i64 dep,.int .i64 bud]
structure Wr (tN:Nat) (tb:List UInt8) (tv:AVal) (B O:List AObj) (pc pt px:Option (Nat × Nat)) (cc ct cx:Option Nat) (C:List InsU) (S:List TrapU) (M:List MapU) (dep bud:Int):Prop where
 keep:∀ i,i < B.length→i≠tN→O[i]? = B[i]?
 tape:∃ p,Tape O tN tb tv p
 tv:TapeV B tN tb tv
 lt:tN < B.length
 wr:O[B.length]? = some (wrO tN pc pt px cc ct cx C.length S.length M.length dep bud)
 c:Own O B.length 7 InsU.cells C pc cc
 s:Own O B.length 4 TrapU.cells S pt ct
 m:Own O B.length 3 MapU.cells M px cx
 cs:∀ i o o',pc=some (i,o)→pt≠some (i,o')
 cm:∀ i o o',pc=some (i,o)→px≠some (i,o')
 sm:∀ i o o',pt=some (i,o)→px≠some (i,o')
 cok:∀ x ∈ C,InsU.short x
 sok:∀ x ∈ S,x.cls ∈ classesT
 mok:∀ x ∈ M,Leaf O B.length pc pt px x.locals x.la∧Leaf O B.length pc pt px x.stack x.sa
structure Ws (tN:Nat) (tb:List UInt8) (tv:AVal) (B O:List AObj) (n k:Nat) (dep:Int):Prop where
 ex:∃ pc pt px cc ct cx C S M bud,Wr tN tb tv B O pc pt px cc ct cx C S M dep bud∧C.length=n∧n≤k∧S.length≤k∧M.length≤k
section
variable {tN:Nat} {tb:List UInt8} {tv:AVal} {pc pt px:Option (Nat × Nat)} {cc ct cx:Option Nat} {C:List InsU} {S:List TrapU} {M:List MapU} {dep bud:Int}
def killO:Option (Nat × Nat)→List AObj→List AObj
 | none,O=>O
 | some (i,_),O=>O.set i .dead
def killW:Option (Nat × Nat)→Nat→Nat
 | none,w=>w
 | some (i,_),w=>min w i
@[simp] theorem killO_len (p:Option (Nat × Nat)) (O:List AObj):(killO p O).length=O.length:=by
 cases p with
 | none=>rfl
 | some q=>obtain ⟨i,o⟩:=q; simp [killO]
end
end Go.Abs.AbsMake

namespace Go.Abs.AbsMake
open Go.Abs.AbsDesc Go.Abs.AbsHier
variable {os O B:List AObj} {b w:Nat} {tN:Nat} {tb:List UInt8} {tv:AVal} {pc pt px:Option (Nat × Nat)} {cc ct cx:Option Nat} {C:List InsU} {S:List TrapU} {M:List MapU} {dep bud:Int}
section
variable {α:Type} {N e:Nat} {f:α→List AVal} {L:List α} {p:Option (Nat × Nat)} {c:Option Nat}
end
end Go.Abs.AbsMake

namespace Go.Abs.AbsMake
open Go.Abs.AbsDesc Go.Abs.AbsHier
variable {os O B:List AObj} {b w:Nat} {tN:Nat} {tb:List UInt8} {tv:AVal} {n k:Nat} {dep:Int}
def Did (tN:Nat) (tb:List UInt8) (tv:AVal) (B:List AObj) (b:Nat) (g:Nat) (args:List AVal) (v:AVal) (O:List AObj) (P:List AObj→Prop):Prop :=
 ∃ O' m,P O'∧tN≤m∧m≤B.length∧∀ w,xCall T g args ⟨O,b,w⟩=some (v,⟨O',b,min w m⟩)
def KK:Nat→Nat
 | 0=>2
 | d+1=>2*KK d+1
def Expr (tN:Nat) (tb:List UInt8) (tv:AVal) (B:List AObj) (b:Nat) (dep:Int) (g:Nat) (x:Int) (j:Nat):Prop :=
 ∀ (O:List AObj) (n k:Nat),Ws tN tb tv B O n k dep→k+j≤100000→Did tN tb tv B b g [.ptr (some (B.length,0)),.int .i64 x] (.tuple []) O fun O'=>∃ n',n≤n'∧Ws tN tb tv B O' n' (k+j) dep
def acts151:List Int:=[96,100,104,108,126,130,120,112,128,124]
end Go.Abs.AbsMake

namespace Go.Abs.AbsMake
open Go.Abs.AbsDesc Go.Abs.AbsHier
variable {os O B:List AObj} {b w:Nat} {tN:Nat} {tb:List UInt8} {tv:AVal} {pc pt px:Option (Nat × Nat)} {cc ct cx:Option Nat} {C:List InsU} {S:List TrapU} {M:List MapU} {dep bud:Int} {n k:Nat}
end Go.Abs.AbsMake

namespace Go.Abs.AbsMake
open Go.Abs.AbsDesc Go.Abs.AbsHier
variable {os O B:List AObj} {b w:Nat} {tN:Nat} {tb:List UInt8} {tv:AVal} {pc pt px:Option (Nat × Nat)} {cc ct cx:Option Nat} {C:List InsU} {S:List TrapU} {M:List MapU} {dep bud:Int} {n k:Nat}
def localsL:List Str:=[[73],[73],[73],[74],[76,65,59],[91,73],[91,66]]
end Go.Abs.AbsMake

namespace Go.Abs.AbsMake
open Go.Abs.AbsDesc Go.Abs.AbsHier
variable {os O B:List AObj} {b w:Nat} {tN:Nat} {tb:List UInt8} {tv:AVal} {pc pt px:Option (Nat × Nat)} {cc ct cx:Option Nat} {C:List InsU} {S:List TrapU} {M:List MapU} {dep bud:Int} {n k:Nat}
theorem take_get {cs L:List AVal} {m e k:Nat} (h:List.take e (List.drop m cs)=L) (hk:k < e):cs[m+k]? = L[k]?:=by
 rw [← h,b7 hk,b0]
inductive StackOf (O:List AObj) (N:Nat):Option (Nat × Nat)→Option Nat→List Str→Prop
 | nil:StackOf O N none (some 0) []
 | one (q:Nat) (s:Str):N < q→s.length≤100→O[q]? = some (.cells 1 [.str s])→StackOf O N (some (q,0)) (some 1) [s]
theorem ids_slice {n m:Nat} {a:Option (Nat × Nat)} {c:Option Nat} (h:under n a):∀ i ∈ (AVal.slice a m c).ids,i < n:=by
 cases a with
 | none=>simp [AVal.ids]
 | some p=>obtain ⟨j,o⟩:=p; simp only [AVal.ids,bv]; rintro i rfl; exact h _ _ rfl
end Go.Abs.AbsMake

namespace Go.Abs.AbsMake
open Go.Abs.AbsDesc Go.Abs.AbsHier
variable {os O B:List AObj} {b w:Nat} {tN:Nat} {tb:List UInt8} {tv:AVal} {n k:Nat} {dep:Int}
end Go.Abs.AbsMake

namespace Go.Abs.AbsMake
open Go.Abs.AbsDesc Go.Abs.AbsHier
variable {os O B:List AObj} {b w:Nat} {tN:Nat} {tb:List UInt8} {tv:AVal} {n k:Nat} {dep:Int}
def acts183:List Int:=[97,101,105,109,127,131,113,129]
def acts183b:List Int:=[121,123,125]
end Go.Abs.AbsMake

namespace Go.Abs.AbsMake
open Go.Abs.AbsDesc Go.Abs.AbsHier
variable {os O B:List AObj} {b w:Nat} {tN:Nat} {tb:List UInt8} {tv:AVal} {dep:Int} {n k:Nat}
def Act (tN:Nat) (tb:List UInt8) (tv:AVal) (B:List AObj) (b:Nat) (dep:Int) (g:Nat) (args:List AVal) (j:Nat):Prop :=
 ∀ (O:List AObj) (n k:Nat),Ws tN tb tv B O n k dep→k+j≤100000→Did tN tb tv B b g args (.tuple []) O fun O'=>∃ n',n≤n'∧Ws tN tb tv B O' n' (k+j) dep
end Go.Abs.AbsMake

namespace Go.Abs.AbsMake
open Go.Abs.AbsDesc Go.Abs.AbsHier
variable {os O B:List AObj} {b w:Nat} {tN:Nat} {tb:List UInt8} {tv:AVal} {dep:Int} {n k:Nat}
end Go.Abs.AbsMake

namespace Go.Abs.AbsMake
open Go.Abs.AbsDesc Go.Abs.AbsHier
variable {os O B:List AObj} {b w:Nat} {tN:Nat} {tb:List UInt8} {tv:AVal} {dep:Int} {n k:Nat}
end Go.Abs.AbsMake

namespace Go.Abs.AbsMake
open Go.Abs.AbsDesc Go.Abs.AbsHier
variable {os O B:List AObj} {b w:Nat} {tN:Nat} {tb:List UInt8} {tv:AVal} {dep:Int} {n k:Nat}
def acts185:List Int:=[153,154,155,156,157,158]
end Go.Abs.AbsMake

namespace Go.Abs.AbsMake
open Go.Abs.AbsDesc Go.Abs.AbsHier
variable {os O B:List AObj} {b w:Nat} {tN:Nat} {tb:List UInt8} {tv:AVal} {dep:Int} {n k:Nat}
def clsR:List AVal:=[.str [],.str [84,104,114,111,119,97,98,108,101],.str [77,97,116,104,70,97,117,108,116],.str [79,111,112,115],.str [78,117,108,108,70,97,117,108,116]]
end Go.Abs.AbsMake

namespace Go.Abs.AbsMake
open Go.Abs.AbsDesc Go.Abs.AbsHier
variable {os O B:List AObj} {b w:Nat} {tN:Nat} {tb:List UInt8} {tv:AVal} {dep:Int} {n k:Nat}
end Go.Abs.AbsMake

namespace Go.Abs.AbsMake
open Go.Abs.AbsDesc Go.Abs.AbsHier
variable {os O B:List AObj} {b w:Nat} {tN:Nat} {tb:List UInt8} {tv:AVal} {n k:Nat} {dep:Int}
end Go.Abs.AbsMake

namespace Go.Abs.AbsMake
open Go.Abs.AbsDesc Go.Abs.AbsHier
variable {os O B:List AObj} {b w:Nat} {tN:Nat} {tb:List UInt8} {tv:AVal} {dep:Int} {n k:Nat}
def JJ:Nat→Nat
 | 0=>13
 | r+1=>6*JJ r+13
end Go.Abs.AbsMake

namespace Go.Abs
def renA (f:Nat→Nat):Option (Nat × Nat)→Option (Nat × Nat)
 | none=>none
 | some (i,o)=>some (f i,o)
theorem ren_sl (f:Nat→Nat) (a:Option (Nat × Nat)) (n:Nat) (c:Option Nat):(AVal.slice a n c).ren f = .slice (renA f a) n c:=by
 cases a with
 | none=>simp [AVal.ren,renA]
 | some p=>obtain ⟨i,o⟩:=p; simp [AVal.ren,renA]
theorem renL_map (f:Nat→Nat):∀ l:List AVal,AVal.renL f l=l.map (AVal.ren f)
 | []=>rfl
 | a :: l=>by simp only [AVal.renL,dw,renL_map f l]
theorem idsL_flat:∀ l:List AVal,AVal.idsL l=l.flatMap AVal.ids
 | []=>rfl
 | a :: l=>by simp only [AVal.idsL,d7,idsL_flat l]
structure Moves (f:Nat→Nat) (I:Nat→Prop) (n:Nat) (O O':List AObj):Prop where
 at':∀ i obj,I i→O[i]? = some obj→O'[f i]? = some (obj.ren f)
 cl:∀ i obj,I i→O[i]? = some obj→∀ j ∈ obj.ids,n≤j→I j
 up:∀ i,n≤i→n≤f i
section
variable {f:Nat→Nat} {I:Nat→Prop} {n:Nat} {O O':List AObj}
def over (n:Nat) (a:Option (Nat × Nat)):Prop:=∀ i o,a=some (i,o)→n≤i
def inI (I:Nat→Prop) (a:Option (Nat × Nat)):Prop:=∀ i o,a=some (i,o)→I i
theorem Moves.row (h:Moves f I n O O') {α β:Type} {e:Nat} {F:α→List AVal} {F':β→List AVal} {g:α→β} {L:List α} {a:Option (Nat × Nat)} (hR:Row O e F L a) (ha:inI I a) (hg:∀ x,AVal.renL f (F x)=F' (g x)):Row O' e F' (L.map g) (renA f a) :=
 ⟨fun hne=>by
  have hL:L≠[]:=fun e=>hne (by rw [e]; rfl)
  obtain ⟨b,o,cs,h1,h2,h3⟩:=hR.at' hL
  subst h1
  refine ⟨f b,o,AVal.renL f cs,rfl,h.at' b _ (ha b o rfl) h2,fun j y hy=>?_⟩
  rw [bq] at hy
  cases hx:L[j]? with
  | none=>rw [hx] at hy; cases hy
  | some x =>
   rw [hx] at hy
   cases hy
   obtain ⟨h4,h5⟩:=h3 j x hx
   refine ⟨by rw [renL_map,List.length_map]; exact h4,?_⟩
   rw [← hg x,← h5,renL_map,renL_map,List.map_take,List.map_drop]⟩
def MapU.ren (f:Nat→Nat) (x:MapU):MapU:={ x with la:=renA f x.la,sa:=renA f x.sa }
def MethU.ren (f:Nat→Nat) (m:MethU):MethU:={ m with ca:=renA f m.ca,ta:=renA f m.ta,maps:=m.maps.map (MapU.ren f),xa:=renA f m.xa }
def UnitU.ren (f:Nat→Nat) (u:UnitU):UnitU:={ u with fa:=renA f u.fa,meths:=u.meths.map (MethU.ren f),ma:=renA f u.ma }
structure MapU.over (n:Nat) (x:MapU):Prop where
 l:Go.Abs.over n x.la
 s:Go.Abs.over n x.sa
structure MethU.over (n:Nat) (m:MethU):Prop where
 c:Go.Abs.over n m.ca
 t:Go.Abs.over n m.ta
 x:Go.Abs.over n m.xa
 xs:∀ x ∈ m.maps,x.over n
structure UnitU.over (n:Nat) (u:UnitU):Prop where
 f:Go.Abs.over n u.fa
 m:Go.Abs.over n u.ma
 ms:∀ m ∈ u.meths,m.over n
theorem idxIn_lt {i:Nat}:∀ {k:List Nat},i ∈ k→idxIn i k < k.length∧k[idxIn i k]? = some i
 | j :: k,h=>by
  by_cases e:j=i
  ·simp [idxIn,e]
  ·have:=idxIn_lt (k:=k) ((bt.1 h).resolve_left fun x=>e x.symm)
   simp only [idxIn,e,if_false,bo,List.getElem?_cons_succ]
   exact ⟨by omega,this.2⟩
theorem reach_ge {h:Heap} {n0:Nat}:∀ (fu:Nat) (l acc:List Nat),(∀ i ∈ acc,n0≤i)→∀ i ∈ reach h n0 fu l acc,n0≤i
 | 0,l,acc,ha=>ha
 | _+1,[],acc,ha=>ha
 | fu+1,i :: r,acc,ha=>by
  unfold reach
  split
  ·exact reach_ge fu r acc ha
  ·split
   ·exact reach_ge fu r acc ha
   ·exact reach_ge fu _ _ fun j hj=>by
     rcases ba.1 hj with hj | hj
     ·exact ha j hj
     ·rw [bv.1 hj]; omega
theorem finish_cases {h0 h:Heap} {v:AVal} (hv:v.under h0.size=false) :
  (∃ w,finish h0 v h=(v,⟨h.objs,h.base,w⟩)∧(w=min h0.wmin h.wmin∨(w=h0.wmin∧h0.size≤h.wmin))) ∨
  (h0.size≤h.wmin∧∃ f I X,finish h0 v h=(v.ren f,⟨h0.objs++X,h0.base,h0.wmin⟩)∧Moves f I h0.size h.objs (h0.objs++X)∧(∀ j ∈ v.ids,h0.size≤j→I j)):=by
 unfold finish
 by_cases hw:h.wmin < h0.size
 ·rw [if_pos hw]; exact .inl ⟨_,rfl,.inl rfl⟩
 ·rw [if_neg hw,hv]
  simp only [av,if_false]
  generalize hk:reach h h0.size 1000 v.ids []=k
  have hge:∀ i ∈ k,h0.size≤i:=by rw [← hk]; exact reach_ge _ _ _ (by simp)
  split
  ·rename_i hok
   refine .inr ⟨by omega,fun i=>if i < h0.size then i else h0.size+idxIn i k,fun i=>i ∈ k,_,rfl,⟨fun i obj hi ho=>?_,fun i obj hi ho j hj hn=>?_,fun i hi=>?_⟩,fun j hj hn=>?_⟩
   ·have h1:=hge i hi
    obtain ⟨h2,h3⟩:=idxIn_lt hi
    have h4:¬ i < h0.size:=by omega
    simp only [if_neg h4]
    have h5:h0.size=h0.objs.length:=rfl
    rw [h5,ak (by omega),Nat.add_sub_cancel_left,bq,h3]
    have h6:h.get i=some obj:=ho
    simp only [bw,h6,ff]
   ·rw [al] at hok
    have h6:h.get i=some obj:=ho
    have:=hok j (dy _ (cj.2 ⟨i,hi,by rw [h6]; exact hj⟩))
    simp only [bu,decide_eq_true_eq] at this
    rcases this with h7 | h7
    ·omega
    ·simpa using h7
   ·show h0.size≤if i < h0.size then i else h0.size+idxIn i k
    rw [if_neg (by omega)]; omega
   ·rw [al] at hok
    have:=hok j (cg _ hj)
    simp only [bu,decide_eq_true_eq] at this
    rcases this with h7 | h7
    ·omega
    ·simpa using h7
  ·exact .inl ⟨_,rfl,.inr ⟨rfl,by omega⟩⟩
end
end Go.Abs

namespace Go.Abs.AbsMake
open Go.Abs.AbsDesc Go.Abs.AbsHier
variable {os O B:List AObj} {b w:Nat} {tN:Nat} {tb:List UInt8} {tv:AVal} {dep:Int} {n k:Nat}
def Keep1 (O O':List AObj):Prop:=∀ (q:Nat) (cs:List AVal),O[q]? = some (.cells 1 cs)→O'[q]? = some (.cells 1 cs)
def rowT:List AVal:=[.int .i64 1,.int .i64 2]
end Go.Abs.AbsMake

namespace Go.Abs.AbsMake
open Go.Abs.AbsDesc Go.Abs.AbsHier
variable {os O B:List AObj} {b w:Nat} {tN:Nat} {tb:List UInt8} {tv:AVal} {dep:Int} {n k:Nat} {pc pt px:Option (Nat × Nat)} {cc ct cx:Option Nat} {C:List InsU} {S:List TrapU} {M:List MapU} {bud:Int}
def descII:Str:=[40,73,41,73]
structure Made (O:List AObj) (tN:Nat) (tb:List UInt8) (tv:AVal) (st:Bool) (nm:Str) (O':List AObj) (m:MethU):Prop where
 st:m.st=st
 name:m.name=nm
 desc:m.desc=descII
 ok:m.ok O'
 over:m.over O.length
 fits:m.fits
 keep:∀ i,i < O.length→i≠tN→O'[i]? = O[i]?
 tape:∃ p,Tape O' tN tb tv p
 traps:∀ x ∈ m.traps,x.cls ∈ classesT
end Go.Abs.AbsMake

namespace Go.Abs.AbsMake
open Go.Abs.AbsDesc Go.Abs.AbsHier
variable {os O B:List AObj} {b w:Nat} {tN:Nat} {tb:List UInt8} {tv:AVal} {dep:Int} {n k:Nat}
def acts101:List Int:=[96,104,130]
def zeroM:List AVal:=[.bool false,.str [],.str [],.int .i64 0,.int .i64 0,.slice none 0 (some 0),.slice none 0 (some 0),.slice none 0 (some 0)]
end Go.Abs.AbsMake

namespace Go.Abs.AbsMake
open Go.Abs.AbsDesc Go.Abs.AbsHier
variable {os O B:List AObj} {b w:Nat} {tN:Nat} {tb:List UInt8} {tv:AVal} {dep:Int} {n k:Nat}
end Go.Abs.AbsMake

namespace Go.Abs.AbsMake
open Go.Abs.AbsDesc Go.Abs.AbsHier
variable {os O P Q B:List AObj} {b w:Nat} {tN:Nat} {tb:List UInt8} {tv:AVal} {n:Nat}
structure KeepX (t:Nat) (P Q:List AObj):Prop where
 at':∀ i o,i≠t→P[i]? = some o→Q[i]? = some o
 len:P.length≤Q.length
structure MOk (n:Nat) (P:List AObj) (st:Bool) (nm:Str) (m:MethU):Prop where
 st:m.st=st
 name:m.name=nm
 desc:m.desc=descII
 ok:m.ok P
 over:m.over n
 fits:m.fits
 traps:∀ x ∈ m.traps,x.cls ∈ classesT
structure Good (P:List AObj) (tN:Nat) (tb:List UInt8) (tv:AVal):Prop where
 tape:∃ p,Tape P tN tb tv p
 tv:TapeV P tN tb tv
end Go.Abs.AbsMake

namespace Go.Abs.AbsMake
open Go.Abs.AbsDesc Go.Abs.AbsHier
variable {os O P Q B:List AObj} {b w:Nat} {tN:Nat} {tb:List UInt8} {tv:AVal} {n:Nat}
def mainT:Str:=[77,97,105,110]
def fieldsM:List FieldU:=[⟨true,[115],[73]⟩,⟨true,[111],[76,65,59]⟩]
def fieldsA:List FieldU:=[⟨false,[102],[73]⟩,⟨false,[108],[74]⟩,⟨false,[110,101,120,116],[76,65,59]⟩]
def fieldsB:List FieldU:=[⟨false,[103],[73]⟩]
def sk (m:MethU):Bool × Str × Str:=(m.st,m.name,m.desc)
structure Skel (L:List UnitU):Prop where
 traps:∀ u ∈ L,∀ m ∈ u.meths,∀ t ∈ m.traps,t.cls ∈ classesT
 ex:∃ u1 u2 u3 u4,L=[u1,u2,u3,u4] ∧
  (u1.name=mainT∧u1.super=objectT∧u1.fields=fieldsM∧u1.meths.map sk=[(true,[109,97,105,110],descII),(true,[104,101,108,112],descII)]) ∧
  (u2.name=[65]∧u2.super=objectT∧u2.fields=fieldsA∧u2.meths.map sk=[(false,[118],descII)]) ∧
  (u3.name=[66]∧u3.super=[65]∧u3.fields=fieldsB∧(u3.meths.map sk=[]∨u3.meths.map sk=[(false,[118],descII)])) ∧
  (u4.name=[79,111,112,115]∧u4.super=[84,104,114,111,119,97,98,108,101]∧u4.fields=[]∧u4.meths.map sk=[])
end Go.Abs.AbsMake

namespace Go.Abs.AbsMake
open Go.Abs.AbsDesc Go.Abs.AbsHier
variable {os O P Q B:List AObj} {b w:Nat} {tN:Nat} {tb:List UInt8} {tv:AVal} {n:Nat}
end Go.Abs.AbsMake

namespace Go.Abs.AbsMake
open Go.Abs.AbsDesc Go.Abs.AbsHier
variable {os O P Q B:List AObj} {b w:Nat} {tN:Nat} {tb:List UInt8} {tv:AVal} {n:Nat}
def RowIs {α:Type} (Q:List AObj) (n e:Nat) (f:α→List AVal) (L:List α) (a:Option (Nat × Nat)):Prop:=L=[]∧a=none∨∃ q,a=some (q,0)∧n≤q∧Q[q]? = some (.cells e (L.flatMap f))
end Go.Abs.AbsMake

namespace Go.Abs.AbsMake
open Go.Abs.AbsDesc Go.Abs.AbsHier
variable {os O P Q B:List AObj} {b w:Nat} {tN:Nat} {tb:List UInt8} {tv:AVal} {n:Nat}
end Go.Abs.AbsMake

namespace Go.Abs.AbsMake
open Go.Abs.AbsDesc Go.Abs.AbsHier
end Go.Abs.AbsMake

namespace Go.Abs.AbsMake
open Go.Abs.AbsDesc Go.Abs.AbsHier
section
variable {S:List (Str × Str)}
end
end Go.Abs.AbsMake

namespace Go.Abs.AbsOrd
open Go.Abs.AbsDesc Go.Abs.AbsHier
open Go.Abs.AbsMake hiding T sub
variable {os O:List AObj} {b w:Nat}
theorem subH:∀ g f,AbsHier.T g=some f→AbsOrd.T g=some f:=fun g f h=>AbsOrd.sub g f (AbsMake.sub g f h)
end Go.Abs.AbsOrd

namespace Go.Abs.AbsHier
open Go.Abs.AbsDesc
variable {os O:List AObj} {b w:Nat}
end Go.Abs.AbsHier

namespace Go.Abs.AbsHier
open Go.Abs.AbsDesc
variable {os O:List AObj} {b w:Nat}
theorem ids_slice {n m:Nat} {a:Option (Nat × Nat)} {c:Option Nat} (h:under n a):∀ i ∈ (AVal.slice a m c).ids,i < n:=by
 cases a with
 | none=>simp [AVal.ids]
 | some p=>obtain ⟨j,o⟩:=p; simp only [AVal.ids,bv]; rintro i rfl; exact h _ _ rfl
end Go.Abs.AbsHier

namespace Go.Abs.AbsHier
open Go.Abs.AbsDesc
variable {os O H:List AObj} {b w:Nat}
theorem gk {α:Type} {L:List α} {i:Nat} {x:α} (h:L[i]? = some x):L.drop i=x :: L.drop (i+1):=by
 have:=ah h
 rw [ag this] at h
 rw [List.drop_eq_getElem_cons this,cd h]
def fieldAt (L:List FieldU) (n d:Str):Option FieldU:=L.find? fun x=>decide (x.name=n) && decide (x.desc=d)
end Go.Abs.AbsHier

namespace Go.Abs.AbsHier
open Go.Abs.AbsDesc
variable {os O H:List AObj} {b w:Nat}
structure Units (O:List AObj) (W:List UnitU) (a:Option (Nat × Nat)):Prop where
 r:Row O 4 UnitU.cells W a
 n:W.length≤200
 ok:∀ u ∈ W,u.ok O
theorem methO_pre (O:List AObj) (q:Option (List Str × Str)):Pre O (methO O q):=by
 unfold methO
 split
 ·exact Pre.app _ _
 ·exact Pre.refl _
end Go.Abs.AbsHier

namespace Go.Abs.AbsHier
open Go.Abs.AbsDesc
variable {os O H:List AObj} {b w:Nat}
end Go.Abs.AbsHier

namespace Go.Abs.AbsHier
open Go.Abs.AbsDesc
variable {os O H:List AObj} {b w:Nat}
end Go.Abs.AbsHier

namespace Go.Abs.AbsHier
open Go.Abs.AbsDesc
variable {os O H:List AObj} {b w:Nat}
end Go.Abs.AbsHier

namespace Go.Abs.AbsHier
open Go.Abs.AbsDesc
variable {os O H:List AObj} {b w:Nat}
end Go.Abs.AbsHier

namespace Go.Abs.AbsHier
open Go.Abs.AbsDesc
variable {os O H:List AObj} {b w:Nat}
end Go.Abs.AbsHier

namespace Go.Abs
variable {α:Type} {e:Nat} {f:α→List AVal} {O P:List AObj} {A:List α} {v:AVal} {b:Nat}
structure Acc (e:Nat) (f:α→List AVal) (O:List AObj) (A:List α) (P:List AObj) (v:AVal):Prop where
 pre:Pre O P
 val:(A=[]∧v = .slice none 0 (some 0))∨(A≠[]∧∃ i,O.length≤i∧v = .slice (some (i,0)) A.length none∧P[i]? = some (.cells e (A.flatMap f)))
theorem Acc.nil:Acc e f O [] O (.slice none 0 (some 0)):=⟨Pre.refl _,.inl ⟨rfl,rfl⟩⟩
def newV (n:Nat) (A:List α):AVal:=if A=[] then .slice none 0 (some 0) else .slice (some (n,0)) A.length none
def newO (e:Nat) (f:α→List AVal) (O:List AObj) (A:List α):List AObj:=if A=[] then O else O++[.cells e (A.flatMap f)]
theorem newO_pre:Pre O (newO e f O A):=by
 unfold newO
 split
 ·exact Pre.refl _
 ·exact Pre.app _ _
def newA (n:Nat) (A:List α):Option (Nat × Nat):=if A=[] then none else some (n,0)
def newC (A:List α):Option Nat:=if A=[] then some 0 else none
theorem newV_eq (n:Nat) (A:List α):newV n A = .slice (newA n A) A.length (newC A):=by
 unfold newV newA newC
 split
 ·rename_i h; rw [h]; rfl
 ·rfl
theorem new_row (hf:∀ y,(f y).length=e):Row (newO e f O A) e f A (newA O.length A):=by
 unfold newO newA
 split
 ·rename_i h; subst h; exact ⟨fun h=>absurd rfl h⟩
 ·exact Row.mk0 hf (by rw [get_k0]; rfl)
def Keeps (P P':List AObj) (n:Nat) (v:AVal):Prop:=∀ (k:Nat) (o:AObj),P[k]? = some o→v ≠ .slice (some (k,0)) n none→P'[k]? = some o
theorem Acc.add (h:Acc e f O A P v) (hf:∀ y,(f y).length=e) (hb:b≤O.length) {by':Nat} (hl:(A.length+1)*by'≤140737488355328) (hl2:A.length≤1000000000) (x:α) :
  ∃ P' v',∃ nx:Nat→Nat,Acc e f O (A++[x]) P' v'∧(∀ w,O.length≤w→O.length≤nx w)∧((∀ w,nx w≤w∧(A≠[]→nx w < P.length))∧Keeps P P' A.length v∧v' = .slice (some (P.length+1,0)) (A.length+1) none)∧∀ w,aAppend e by' ⟨P++[.cells e (f x)],b,w⟩ v (.slice (some (P.length,0)) 1 (some 1))=some (v',⟨P',b,nx w⟩):=by
 have hz:∀ w,rowOf e ⟨P++[.cells e (f x)],b,w⟩ (.slice (some (P.length,0)) 1 (some 1))=some (f x):=fun w =>
  rowOfC (by show (P++[AObj.cells e (f x)])[P.length]? = _; rw [get_k0]; rfl) (by rw [hf,Nat.one_mul])
 have hs:(P++[AObj.cells e (f x)]).length=P.length+1:=by simp
 have he:(A++[x]).flatMap f=A.flatMap f++f x:=by simp
 have hlen:(A++[x]).length=A.length+1:=by simp
 have hne:A++[x]≠[]:=by simp
 have hpl:=h.pre.len
 rcases h.val with ⟨rfl,rfl⟩ | ⟨h1,i,h2,rfl,h4⟩
 ·refine ⟨P++[.cells e (f x),.cells e (f x)],.slice (some (P.length+1,0)) 1 none,id,⟨h.pre.trans (Pre.app _ _),.inr ⟨hne,P.length+1,by omega,by rw [hlen]; rfl,by rw [get_k]; simp⟩⟩,fun w hw=>hw,⟨fun w=>⟨aj w,fun h=>absurd rfl h⟩,fun k o hk _=>by rw [ai (ah hk)]; exact hk,by simp⟩,fun w=>?_⟩
  unfold aAppend
  simp only [hz,rowOf0,aApp,alen]
  have q1:¬ (1:Nat)=0:=by decide
  have q2:(0+1)*by'≤140737488355328∧0+1≤9223372036854775807:=⟨by simpa using hl,by decide⟩
  simp only [eq_false q1,eq_true q2,if_false,if_true]
  simp [Heap.push,Heap.size]
 ·have hi:=ah h4
  have h5:(P++[AObj.cells e (f x)])[i]? = some (.cells e (A.flatMap f)):=by rw [ai hi]; exact h4
  have hfl:(A.flatMap f).length=A.length*e:=flat_len f e hf A
  have hz1:∀ w,rowOf e ⟨P++[.cells e (f x)],b,w⟩ (.slice (some (i,0)) A.length none)=some (A.flatMap f):=fun w=>rowOfC h5 hfl
  have hr:∀ w,rowIs ⟨P++[.cells e (f x)],b,w⟩ i e=true:=fun w=>by
   unfold rowIs Heap.get
   simp only [h5]
   simp
  refine ⟨P.set i .dead++[.cells e (f x),.cells e ((A++[x]).flatMap f)],.slice (some (P.length+1,0)) (A++[x]).length none,fun w=>min w i,⟨?_,.inr ⟨hne,P.length+1,by omega,rfl,?_⟩⟩,fun w hw=>by show O.length≤min w i; omega,⟨fun w=>⟨by show min w i≤w; omega,fun _=>by show min w i < P.length; omega⟩,fun k o hk hne=>by
   rw [ai (by rw [List.length_set]; exact ah hk),ci (fun e=>hne (by rw [e]))]; exact hk,by rw [hlen]⟩,fun w=>?_⟩
  ·exact (h.pre.set .dead h2).trans (Pre.app _ _)
  ·rw [ak (by simp)]
   simp
  ·unfold aAppend
   simp only [hz,hz1,aApp,alen]
   have q1:¬ (1:Nat)=0:=by decide
   have q2:(A.length+1)*by'≤140737488355328∧A.length+1≤9223372036854775807:=⟨hl,by omega⟩
   have q3:¬ (none:Option Nat)=some A.length:=by simp
   have q4:(⟨P++[AObj.cells e (f x)],b,w⟩:Heap).base≤i∧rowIs ⟨P++[AObj.cells e (f x)],b,w⟩ i e=true:=⟨by show b≤i; omega,hr w⟩
   simp only [eq_false q1,eq_true q2,eq_false q3,eq_true q4,if_false,if_true]
   simp only [Heap.push,Heap.put,Heap.size,List.set_append_left _ _ hi,List.length_set,hs,he,hlen,bc,fe,List.nil_append]
theorem idsL_none {L:List AVal} (h:∀ x ∈ L,x.ids=[]):AVal.idsL L=[]:=by
 rw [idsL_flat,List.flatMap_eq_nil_iff]; exact h
theorem Acc.fin (h:Acc e f O A P v) (hi:∀ x,AVal.idsL (f x)=[]) (hr:∀ g x,AVal.renL g (f x)=f x) {w0 W:Nat} (hW:O.length≤W):finish ⟨O,b,w0⟩ v ⟨P,b,W⟩=(newV O.length A,⟨newO e f O A,b,w0⟩):=by
 have hia:AVal.idsL (A.flatMap f)=[]:=by
  refine idsL_none fun y hy=>?_
  obtain ⟨x,hx,hy⟩:=cj.1 hy
  have:=hi x
  rw [idsL_flat,List.flatMap_eq_nil_iff] at this
  exact this y hy
 have hra:∀ g,AVal.renL g (A.flatMap f)=A.flatMap f:=fun g=>by
  have:∀ L:List α,AVal.renL g (L.flatMap f)=L.flatMap f:=fun L=>by
   induction L with
   | nil=>rfl
   | cons x L ih=>rw [d7,renL_app,hr,ih]
  exact this A
 have hw2:(⟨O,b,w0⟩:Heap).size≤(⟨P,b,W⟩:Heap).wmin:=hW
 rcases h.val with ⟨rfl,rfl⟩ | ⟨h1,i,h2,rfl,h4⟩
 ·have hw3:¬ W < O.length:=by omega
  simp [finish,newV,newO,Heap.size,hw3,AVal.under]
 ·have hv:AVal.under (⟨O,b,w0⟩:Heap).size (.slice (some (i,0)) A.length none)=false:=by
   have:¬ i < O.length:=by omega
   simp [AVal.under,Heap.size,this]
  have hg:(⟨P,b,W⟩:Heap).get i=some (.cells e (A.flatMap f)):=h4
  have hreach:reach ⟨P,b,W⟩ (⟨O,b,w0⟩:Heap).size 1000 (AVal.slice (some (i,0)) A.length none).ids []=[i]:=by
   simp only [AVal.ids]
   rw [reach,if_neg (by show ¬ i < O.length; omega),if_neg (by simp),hg]
   simp only [bw,ff,AObj.ids,hia,List.nil_append]
   rfl
  refine (finish_keep hw2 hv hreach fun j hj=>?_).trans ?_
  ·simp only [AVal.ids,d7,List.flatMap_nil,hg,bw,ff,AObj.ids,hia,List.append_nil,bt,List.not_mem_nil,or_false] at hj
   subst hj
   exact .inr (c9 _)
  ·have key:∀ g:Nat→Nat,g i=O.length→((AVal.slice (some (i,0)) A.length none).ren g,(⟨O++[AObj.cells e (A.flatMap f)],b,w0⟩:Heap))=(newV O.length A,⟨newO e f O A,b,w0⟩):=fun g hg'=>by
    unfold newV newO
    rw [if_neg h1,if_neg h1]
    simp only [AVal.ren,hg']
   simp only [Heap.size,dw,List.map_nil,hg,bw,ff,AObj.ren,hra]
   exact key _ ((if_neg (show ¬ i < O.length by omega)).trans (by simp [idxIn]))
end Go.Abs

namespace Go.Abs.AbsFlow
open Go.Abs.AbsDesc Go.Abs.AbsHier
open Go.Abs.AbsOrd hiding T sub
variable {os O:List AObj} {b w:Nat}
theorem subT:∀ g f,AbsHier.T g=some f→AbsFlow.T g=some f:=fun g f h=>AbsFlow.sub g f (AbsOrd.subH g f h)
def endsC (c:Int):Bool:=decide (c=167) || (decide (c=191) || (decide (c=172) || (decide (c=173) || (decide (c=176) || decide (c=177)))))
section
attribute [-simp] getElem?_pos getElem?_neg List.all_eq_true
attribute [local simp] gz gs nltT nltF iltT iltF ileT nleT ef
theorem s73 {c:Int} {h:Heap}:xCall T 73 [.int .u8 c] h=some (.bool (endsC c),h):=by
 obtain ⟨os,b,w⟩:=h
 unfold endsC
 by_cases c1:c=167
 ·subst c1; simp (disch:=omega) [a6 t73,code73]
 ·by_cases c2:c=191
  ·subst c2; simp (disch:=omega) [a6 t73,code73]
  ·by_cases c3:c=172
   ·subst c3; simp (disch:=omega) [a6 t73,code73]
   ·by_cases c4:c=173
    ·subst c4; simp (disch:=omega) [a6 t73,code73]
    ·by_cases c5:c=176
     ·subst c5; simp (disch:=omega) [a6 t73,code73]
     ·by_cases c6:c=177
      ·subst c6; simp (disch:=omega) [a6 t73,code73]
      ·simp (disch:=omega) [a6 t73,code73,c1,c2,c3,c4,c5,c6]
end
def inI (a lo hi:Int):Bool:=decide (lo≤a) && decide (a≤hi)
section
attribute [-simp] getElem?_pos getElem?_neg List.all_eq_true
attribute [local simp] gz gs nltT nltF iltT iltF ileT nleT ef
theorem s127 {a lo hi:Int} {h:Heap}:xCall T 127 [.int .i64 a,.int .i64 lo,.int .i64 hi] h=some (.bool (inI a lo hi),h):=by
 obtain ⟨os,b,w⟩:=h
 unfold inI
 by_cases c1:lo≤a
 ·by_cases c2:a≤hi <;> simp (disch:=omega) [a6 t127,code127,c1,c2]
 ·simp (disch:=omega) [a6 t127,code127,c1]
theorem s164 {a lo hi:Int} {h:Heap}:xCall T 164 [.int .i64 a,.int .i64 lo,.int .i64 hi] h=some (.bool (inI a lo hi),h):=by
 obtain ⟨os,b,w⟩:=h
 unfold inI
 by_cases c1:lo≤a
 ·by_cases c2:a≤hi <;> simp (disch:=omega) [a6 t164,code164,c1,c2]
 ·simp (disch:=omega) [a6 t164,code164,c1]
theorem s131 {m:MethU} {i:Int} {h:Heap} (hn:m.code.length≤reachB):xCall T 131 [.agg m.cells,.int .i64 i] h=some (.bool (inI i 0 (m.code.length - 1)),h):=by
 have hrb:reachB=140737488351232:=rfl
 have hcm:m.cells=[.bool m.st,.str m.name,.str m.desc,.int .i64 m.stack,.int .i64 m.locals,.slice m.ca m.code.length m.cc,.slice m.ta m.traps.length m.tc,.slice m.xa m.maps.length m.xc]:=rfl
 obtain ⟨os,b,w⟩:=h
 have h164:=fun a lo hi h=>s164 (a:=a) (lo:=lo) (hi:=hi) (h:=h)
 simp (disch:=omega) [a6 t131,code131,hcm,h164]
end
def shapeF (m:MethU) (x:InsU) (f:Int):Bool :=
 if f=0 then false else if f=2∨f=8 then inI x.n 0 (m.locals - 1 - (if x.op=22∨x.op=55 then 1 else 0)) else true
section
attribute [-simp] getElem?_pos getElem?_neg List.all_eq_true
attribute [local simp] gz gs nltT nltF iltT iltF ileT nleT ef
theorem s125 {m:MethU} {x:InsU} {f:Int} {h:Heap} (h0:0≤m.locals) (h1:m.locals≤64):xCall T 125 [.agg m.cells,.agg x.cells,.int .i64 f] h=some (.bool (shapeF m x f),h):=by
 have hcm:m.cells=[.bool m.st,.str m.name,.str m.desc,.int .i64 m.stack,.int .i64 m.locals,.slice m.ca m.code.length m.cc,.slice m.ta m.traps.length m.tc,.slice m.xa m.maps.length m.xc]:=rfl
 have hcx:x.cells=[.int .u8 x.op,.int .i64 x.n,.int .i64 x.m,.str x.cls,.str x.name,.str x.desc,.str x.text]:=rfl
 obtain ⟨os,b,w⟩:=h
 have h164:=fun a lo hi h=>s164 (a:=a) (lo:=lo) (hi:=hi) (h:=h)
 unfold shapeF
 by_cases c1:f=0
 ·by_cases d1:x.op=22
  ·simp (disch:=omega) [a6 t125,code125,hcm,hcx,c1,d1]
  ·by_cases d2:x.op=55
   ·simp (disch:=omega) [a6 t125,code125,hcm,hcx,c1,d1,d2]
   ·simp (disch:=omega) [a6 t125,code125,hcm,hcx,c1,d1,d2]
 ·by_cases c2:f=2
  ·subst c2
   by_cases d1:x.op=22
   ·simp (disch:=omega) [a6 t125,code125,hcm,hcx,c1,d1,h164]
   ·by_cases d2:x.op=55
    ·simp (disch:=omega) [a6 t125,code125,hcm,hcx,c1,d1,d2,h164]
    ·simp (disch:=omega) [a6 t125,code125,hcm,hcx,c1,d1,d2,h164]
  ·by_cases c3:f=8
   ·subst c3
    by_cases d1:x.op=22
    ·simp (disch:=omega) [a6 t125,code125,hcm,hcx,c1,d1,h164]
    ·by_cases d2:x.op=55
     ·simp (disch:=omega) [a6 t125,code125,hcm,hcx,c1,d1,d2,h164]
     ·simp (disch:=omega) [a6 t125,code125,hcm,hcx,c1,d1,d2,h164]
   ·by_cases d1:x.op=22
    ·simp (disch:=omega) [a6 t125,code125,hcm,hcx,c1,c2,c3,d1]
    ·by_cases d2:x.op=55
     ·simp (disch:=omega) [a6 t125,code125,hcm,hcx,c1,c2,c3,d1,d2]
     ·simp (disch:=omega) [a6 t125,code125,hcm,hcx,c1,c2,c3,d1,d2]
theorem s132 {x:MapU} {k:Nat} {i:Int} (hk:O[k]? = some (.cells 1 [.int .i64 i])) (w:Nat):xCall T 132 [.agg x.cells,.ptr (some (k,0))] ⟨O,b,w⟩=some (.bool (decide (x.at'=i)),⟨O,b,w⟩):=by
 have hcx:x.cells=[.int .i64 x.at',.slice x.la x.locals.length x.lc,.slice x.sa x.stack.length x.sc]:=rfl
 simp (disch:=omega) [a6 t132,code132,hcx,hk]
end
theorem s133 {L:List MapU} {a:Option (Nat × Nat)} {c:Option Nat} {k:Nat} {i:Int} (hR:Row O 3 MapU.cells L a) (hn:L.length≤reachB) (hk:O[k]? = some (.cells 1 [.int .i64 i])) :
  xCall T 133 [.slice a L.length c,.func 132 [] [.ptr (some (k,0))]] ⟨O,b,w⟩=some (.int .i64 (firstIx (fun x=>decide (x.at'=i)) L 0),⟨O,b,w⟩):=by
 have hrb:reachB=140737488351232:=rfl
 have hl:=loop_find (T:=T) (c:=code133L0) (fun x:MapU=>decide (x.at'=i)) L (fun j=>⟨[(0,.val (.slice a L.length c)),(1,.val (.func 132 [] [.ptr (some (k,0))])),(7,.val (.int .i64 L.length)),(8,.val (.int .i64 j))],⟨O,b,O.length⟩⟩)
  (fun j=>⟨[(4,.val (.int .i64 j))],⟨O,b,O.length⟩⟩) .ret (.exit 0) ⟨[],⟨O,b,O.length⟩⟩ ?_ (by simp) (by simp) (by simp [code133L0])
 ·rcases hl with ⟨h1,h2⟩ | ⟨j,x,h1,h2,h3,h4⟩
  ·rw [List.any_eq_false] at h1
   rw [gm _ L 0 fun x hx=>by simpa using h1 x hx]
   simp only [bf] at h2
   simp [cf T t133,code133,h2]
  ·rw [firstIx_at _ L 0 j x h1 h2 h3]
   simp only [bf] at h4
   simp [cf T t133,code133,h4]
 ·intro j x hx
  obtain ⟨bb,o,cs,rfl,hrow,hpart⟩:=hR.at' (ne_of_get hx)
  obtain ⟨p1,p2⟩:=hpart j x hx
  have hw:=wrap_next (get_lt hx) (by omega)
  have hi':(j:Int) < (L.length:Int):=by have:=get_lt hx; omega
  have hge:(0:Int)≤j:=by omega
  have hgx:=fun w=>s132 (b:=b) (x:=x) hk w
  by_cases hp:x.at'=i
  ·rw [decide_eq_true hp] at hgx
   simp [code133L0,hi',hge,hrow,p2,hgx,hp,p1]
  ·rw [decide_eq_false hp] at hgx
   simp [code133L0,hi',hge,hrow,p2,hgx,hp,hw,p1]
theorem firstIx_get {α:Type} (p:α→Bool):∀ (l:List α) (i:Nat),l.any p=true→∃ (j:Nat) (x:α),l[j]? = some x∧p x=true∧firstIx p l i=((i+j:Nat):Int)
 | [],_,h=>by simp at h
 | x :: l,i,h=>by
  by_cases hp:p x=true
  ·exact ⟨0,x,rfl,hp,by simp [firstIx,hp]⟩
  ·have hp:p x=false:=by simpa using hp
   rw [List.any_cons,hp,Bool.false_or] at h
   obtain ⟨j,y,h1,h2,h3⟩:=firstIx_get p l (i+1) h
   refine ⟨j+1,y,by simpa using h1,h2,?_⟩
   simp only [firstIx,hp,av,if_false,h3]
   omega
def hasMap (m:MethU) (i:Int):Bool:=m.maps.any fun x=>decide (x.at'=i)
theorem underV {n:Nat} {a:Option (Nat × Nat)} {l:Nat} {c:Option Nat} (h:under n a):(AVal.slice a l c).under n=true:=by
 cases a with
 | none=>rfl
 | some p =>
  obtain ⟨i,o⟩:=p
  have:=h i o rfl
  simp [AVal.under,this]
section
attribute [-simp] getElem?_pos getElem?_neg List.all_eq_true
attribute [local simp] gz gs nltT nltF iltT iltF ileT nleT ef
theorem s71 {m:MethU} {i:Int} (hm:m.ok O) (hf:m.fits) (hb:b≤O.length) (w:Nat) :
  (hasMap m i=true∧∃ x ∈ m.maps,x.at'=i∧xCall T 71 [.agg m.cells,.int .i64 i] ⟨O,b,w⟩=some (.tuple [.agg x.cells,.bool true],⟨O,b,w⟩)) ∨
  (hasMap m i=false∧xCall T 71 [.agg m.cells,.int .i64 i] ⟨O,b,w⟩=some (.tuple [.agg [.int .i64 0,.slice none 0 (some 0),.slice none 0 (some 0)],.bool false],⟨O,b,w⟩)):=by
 have hrb:reachB=140737488351232:=rfl
 have hcm:m.cells=[.bool m.st,.str m.name,.str m.desc,.int .i64 m.stack,.int .i64 m.locals,.slice m.ca m.code.length m.cc,.slice m.ta m.traps.length m.tc,.slice m.xa m.maps.length m.xc]:=rfl
 have hka:(O++[AObj.cells 1 [.int .i64 i]])[O.length]? = some (.cells 1 [.int .i64 i]):=by rw [get_k0]; rfl
 have hr:=(Pre.app O [AObj.cells 1 [.int .i64 i]]).row hm.x
 have h133:=fun w=>s133 (b:=b) (w:=w) (c:=m.xc) hr hf.x hka
 cases e:hasMap m i with
 | false =>
  refine .inr ⟨rfl,?_⟩
  have h0:firstIx (fun x:MapU=>decide (x.at'=i)) m.maps 0 = -1:=gm _ _ 0 fun x hx=>by
   unfold hasMap at e
   rw [List.any_eq_false] at e
   simpa using e x hx
  rw [h0] at h133
  simp (disch:=omega) [a6 t71,code71,hcm,h133]
 | true =>
  refine .inl ⟨rfl,?_⟩
  unfold hasMap at e
  rw [List.any_eq_true] at e
  obtain ⟨j,x,hj,hx,hx2⟩:=firstIx_get _ m.maps 0 (by rw [List.any_eq_true]; exact e)
  have hx:x.at'=i:=by simpa using hx
  rw [hx2,b8] at h133
  have hjl:=ah hj
  have hxm:=hm.xok x (aq hj)
  have hfx:=hf.x
  refine ⟨x,aq hj,hx,?_⟩
  obtain ⟨p,o,cs,ha,hp,hpl,hcs,hv⟩:=fh hr hj
  rw [ha] at h133 hcm
  have hcx:x.cells=[.int .i64 x.at',.slice x.la x.locals.length x.lc,.slice x.sa x.stack.length x.sc]:=rfl
  have u1:=underV (l:=x.locals.length) (c:=x.lc) hxm.lu
  have u2:=underV (l:=x.stack.length) (c:=x.sc) hxm.su
  rw [hcx] at hv ⊢
  simp (disch:=omega) [a6 t71,code71,hcm,h133,hp,hv,u1,u2]
end
def formTab:List Int:=[1,1,1,1,1,1,1,1,1,1,1,0,0,0,0,0,3,4,5,0,6,2,2,0,0,2,0,0,0,0,0,0,0,0,0,0,0,0,0,0,0,0,0,0,0,0,1,0,0,0,1,1,0,0,2,2,0,0,2,0,0,0,0,0,0,0,0,0,0,0,0,0,0,0,0,0,0,0,0,1,0,0,0,1,1,0,0,1,0,1,0,0,0,0,0,1,1,1,0,0,1,1,0,0,1,1,0,0,1,1,0,0,1,1,0,0,1,1,0,0,1,1,1,1,1,1,1,1,1,1,1,1,8,1,0,0,1,0,0,0,0,0,0,0,0,1,0,0,1,0,0,0,0,7,7,7,7,7,7,7,7,7,7,7,7,7,7,7,0,0,0,0,1,1,0,0,1,1,6,6,6,6,6,0,6,0,0,6,9,6,1,1,6,6,0,0,0,0,7,7,0,0,0,0,0,0,0,0,0,0,0,0,0,0,0,0,0,0,0,0,0,0,0,0,0,0,0,0,0,0,0,0,0,0,0,0,0,0,0,0,0,0,0,0,0,0,0,0,0,0,0,0,0,0,0,0]
def formN (c:Int):Int:=formTab.getD c.toNat 0
theorem s165 {h:Heap}:xCall T 165 [] h=some (.agg (formTab.map (AVal.int .u8)),h) :=
 closed_run (f:=code165) t165 rfl 60 rfl (by decide +kernel) (h':=⟨[],0,0⟩) (by kernel_rfl) h
theorem s130 {c:Int} {h:Heap} (h0:0≤c) (h1:c < 256):xCall T 130 [.int .u8 c] h=some (.int .i64 (formN c),h):=by
 obtain ⟨os,b,w⟩:=h
 obtain ⟨k,rfl⟩:=di h0
 have hl:formTab.length=256:=by decide +kernel
 have hk:k < formTab.length:=by omega
 have hx:formTab[k]? = some (formN (k:Nat)):=by
  unfold formN
  rw [Int.toNat_natCast,dj,ag hk]; rfl
 have hr:∀ x ∈ formTab,0≤x∧x < 256:=by decide +kernel
 have hn:=hr _ (aq hx)
 have h165:=fun h=>s165 (h:=h)
 generalize formN (k:Nat)=v at *
 have hm:(formTab.map (AVal.int .u8))[k]? = some (.int .u8 v):=by rw [bq,hx]; rfl
 generalize formTab.map (AVal.int .u8)=X at *
 have hk2:(k:Int) < 256:=by omega
 simp (disch:=omega) [-getElem?_pos,-getElem?_neg,-List.all_eq_true,gz,gs,nltT,nltF,iltT,iltF,ileT,nleT,ef,a6 t130,code130,h165,hm,hk2]
end Go.Abs.AbsFlow

namespace Go.Abs.AbsFlow
open Go.Abs.AbsDesc Go.Abs.AbsHier
open Go.Abs.AbsOrd hiding T sub
variable {os O:List AObj} {b w:Nat}
def intC (n:Int):List AVal:=[.int .i64 n]
theorem dr (n:Int):(intC n).length=1:=rfl
theorem idsI (n:Int):AVal.idsL (intC n)=[]:=rfl
theorem renI (g:Nat→Nat) (n:Int):AVal.renL g (intC n)=intC n:=rfl
def formsL (L:List InsU):List Int:=L.map fun x=>formN x.op
section
attribute [-simp] getElem?_pos getElem?_neg List.all_eq_true
attribute [local simp] gz gs nltT nltF iltT iltF ileT nleT ef
theorem l126 {L:List InsU} {a:Option (Nat × Nat)} {c:Option Nat} (hL:Row O 7 InsU.cells L a) (ho:∀ x ∈ L,0≤x.op∧x.op < 256) (hb:b≤O.length) (hn:L.length≤1000):∀ (j i w:Nat) (A:List Int) (P:List AObj) (v:AVal),i+j=L.length→A.length≤i→O.length≤w→Acc 1 intC O A P v →
  ∃ P' v',∃ W:Nat,Acc 1 intC O (A++formsL (L.drop i)) P' v'∧O.length≤W∧∀ (k:AExit→St→Option (AVal × Heap)),
  xK T (.loop code126L0) ⟨[(3,.val v),(7,.val (.slice a L.length c)),(8,.val (.int .i64 L.length)),(9,.val (.int .i64 i))],⟨P,b,w⟩⟩ (k:=⟨k⟩)=k (.exit 0) ⟨[(3,.val v')],⟨P',b,W⟩⟩
 | 0,i,w,A,P,v,hi,hA,hw,h=>by
  refine ⟨P,v,w,?_,hw,fun k=>?_⟩
  ·rw [dc (by omega)]; simpa [formsL] using h
  ·rw [bh]
   simp (disch:=omega) [code126L0]
 | j+1,i,w,A,P,v,hi,hA,hw,h=>by
  obtain ⟨x,hx⟩:∃ x,L[i]? = some x:=⟨_,ag (by omega)⟩
  obtain ⟨p,o,cs,ha,hp,hpl,hcs,hv⟩:=fh (h.pre.row hL) hx
  subst ha
  obtain ⟨P1,v1,n1,h1,hn1,_,e1⟩:=h.add (b:=b) dr hb (by':=8) (by omega) (by omega) (formN x.op)
  have hdx:formsL (L.drop i)=formN x.op :: formsL (L.drop (i+1)):=by rw [gk hx]; rfl
  have e2:((i+1:Nat):Int)=(i:Int)+1:=by omega
  have hs:intC (formN x.op)=[.int .i64 (formN x.op)]:=rfl
  rw [hs] at e1
  obtain ⟨o1,o2⟩:=ho x (aq hx)
  have h130:=fun h=>s130 (h:=h) o1 o2
  obtain ⟨P',v',W,i1,i2,i3⟩:=l126 (c:=c) hL ho hb hn j (i+1) (n1 w) _ P1 v1 (by omega) (by simp; omega) (hn1 _ hw) h1
  refine ⟨P',v',W,?_,i2,fun k=>?_⟩
  ·rw [hdx]; simpa using i1
  ·have ih:=i3 k
   rw [e2] at ih
   have hcx:x.cells=[.int .u8 x.op,.int .i64 x.n,.int .i64 x.m,.str x.cls,.str x.name,.str x.desc,.str x.text]:=rfl
   rw [hcx] at hv
   rw [bh]
   generalize ACode.loop code126L0=LL at ih ⊢
   simp (disch:=omega) [-aAppend,code126L0,hp,hv,h130,e1,ih]
theorem s126 {m:MethU} (hm:m.ok O) (ho:∀ x ∈ m.code,0≤x.op∧x.op < 256) (hb:b≤O.length) (hn:m.code.length≤1000) :
  xCall T 126 [.agg m.cells] ⟨O,b,w⟩=some (newV O.length (formsL m.code),⟨newO 1 intC O (formsL m.code),b,w⟩):=by
 have hcm:m.cells=[.bool m.st,.str m.name,.str m.desc,.int .i64 m.stack,.int .i64 m.locals,.slice m.ca m.code.length m.cc,.slice m.ta m.traps.length m.tc,.slice m.xa m.maps.length m.xc]:=rfl
 obtain ⟨P',v',W,i1,i2,i3⟩:=l126 (c:=m.cc) hm.c ho hb hn m.code.length 0 O.length [] O _ (by omega) (by simp) (aj _) Acc.nil
 have hf:=i1.fin (b:=b) (w0:=w) idsI renI i2
 simp only [bf,List.drop_zero,List.nil_append] at i3 hf
 simp (disch:=omega) [-aAppend,-finish,a6 t126,code126,hcm,i3,hf]
end
end Go.Abs.AbsFlow

namespace Go.Abs.AbsFlow
open Go.Abs.AbsDesc Go.Abs.AbsHier
open Go.Abs.AbsOrd hiding T sub
variable {os O:List AObj} {b w:Nat}
theorem int_at {L:List Int} {a:Option (Nat × Nat)} {i:Nat} {x:Int} (h:Row O 1 intC L a) (hx:L[i]? = some x):∃ p o cs,a=some (p,o)∧O[p]? = some (.cells 1 cs)∧cs[o+i]? = some (.int .i64 x):=by
 obtain ⟨p,o,cs,h1,h2,h3,h4,h5⟩:=fh h hx
 have h6:=Go.Abs.AbsMake.take_get (k:=0) h5 (by decide)
 refine ⟨p,o,cs,h1,h2,?_⟩
 rw [Nat.mul_one,Nat.add_zero] at h6
 rw [h6]; rfl
def inM (m:MethU) (i:Int):Bool:=inI i 0 (m.code.length - 1)
def branchOk (m:MethU) (x:InsU):Bool:=!decide (formN x.op=7) || inM m x.n
def trapOk (m:MethU) (t:TrapU):Bool:=decide (0≤t.lo) && (decide (t.lo < t.hi) && (decide (t.hi≤m.code.length) && inM m t.at'))
def mapsUp (m:MethU):Int→List MapU→Bool
 | _,[]=>true
 | l,x :: r=>decide (l < x.at') && (inM m x.at' && mapsUp m x.at' r)
section
attribute [-simp] getElem?_pos getElem?_neg List.all_eq_true
attribute [local simp] gz gs nltT nltF iltT iltF ileT nleT ef
theorem l124a {m:MethU} {fa:Option (Nat × Nat)} {fc:Option Nat} (hm:m.ok O) (hn:m.code.length≤1000) (hF:Row O 1 intC (formsL m.code) fa):∀ (j i:Nat) (w:Nat),i+j=m.code.length→∀ (k:AExit→St→Option (AVal × Heap)),
  xK T (.loop code124L2) ⟨[(1,.val (.slice fa m.code.length fc)),(2,.var m.cells),(13,.val (.slice m.ca m.code.length m.cc)),(14,.val (.int .i64 m.code.length)),(15,.val (.int .i64 i))],⟨O,b,w⟩⟩ (k:=⟨k⟩) =
   if (m.code.drop i).all (branchOk m) then k (.exit 0) ⟨[(2,.var m.cells)],⟨O,b,w⟩⟩ else k .ret ⟨[(4,.val (.bool false))],⟨O,b,w⟩⟩
 | 0,i,w,hi,k=>by
  rw [bh,dc (by omega)]
  simp (disch:=omega) [code124L2]
 | j+1,i,w,hi,k=>by
  have hrb:reachB=140737488351232:=rfl
  have hcm:m.cells=[.bool m.st,.str m.name,.str m.desc,.int .i64 m.stack,.int .i64 m.locals,.slice m.ca m.code.length m.cc,.slice m.ta m.traps.length m.tc,.slice m.xa m.maps.length m.xc]:=rfl
  obtain ⟨x,hx⟩:∃ x,m.code[i]? = some x:=⟨_,ag (by omega)⟩
  obtain ⟨p,o,cs,ha,hp,hpl,hcs,hv⟩:=fh hm.c hx
  obtain ⟨p',o',cs',hfa,hp',hv'⟩:=int_at hF (i:=i) (x:=formN x.op) (by unfold formsL; rw [bq,hx]; rfl)
  have ih:=l124a (fc:=fc) hm hn hF j (i+1) w (by omega) k
  have e2:((i+1:Nat):Int)=(i:Int)+1:=by omega
  rw [e2] at ih
  have hcx:x.cells=[.int .u8 x.op,.int .i64 x.n,.int .i64 x.m,.str x.cls,.str x.name,.str x.desc,.str x.text]:=rfl
  rw [hcx] at hv
  have h131:=fun h=>s131 (m:=m) (i:=x.n) (h:=h) (by omega)
  have hin:inM m x.n=inI x.n 0 (m.code.length - 1):=rfl
  rw [← hin,hcm] at h131
  rw [hcm] at ih ⊢
  rw [ha] at ih h131 ⊢
  subst hfa
  rw [bh,gk hx]
  rw [List.all_cons]
  generalize ACode.loop code124L2=LL at ih ⊢
  by_cases c1:formN x.op=7
  ·rw [c1] at hv'
   cases e:inM m x.n with
   | true =>
    have hB:branchOk m x=true:=by simp [branchOk,e]
    rw [e] at h131
    simp only [hB,Bool.true_and]
    simp (disch:=omega) [code124L2,hp,hv,hp',hv',h131,ih]
   | false =>
    have hB:branchOk m x=false:=by simp [branchOk,e,c1]
    rw [e] at h131
    simp only [hB,Bool.false_and]
    simp (disch:=omega) [code124L2,hp,hv,hp',hv',h131]
  ·have hB:branchOk m x=true:=by simp [branchOk,c1]
   simp only [hB,Bool.true_and]
   simp (disch:=omega) [code124L2,hp,hv,hp',hv',c1,ih]
theorem l124b {m:MethU} (hm:m.ok O) (hn:m.code.length≤1000) (htn:m.traps.length≤1000):∀ (j i:Nat) (w:Nat),i+j=m.traps.length→∀ (k:AExit→St→Option (AVal × Heap)),
  xK T (.loop code124L1) ⟨[(2,.var m.cells),(34,.val (.slice m.ta m.traps.length m.tc)),(35,.val (.int .i64 m.traps.length)),(36,.val (.int .i64 i))],⟨O,b,w⟩⟩ (k:=⟨k⟩) =
   if (m.traps.drop i).all (trapOk m) then k (.exit 2) ⟨[(2,.var m.cells)],⟨O,b,w⟩⟩ else k .ret ⟨[(4,.val (.bool false))],⟨O,b,w⟩⟩
 | 0,i,w,hi,k=>by
  rw [bh,dc (by omega)]
  simp (disch:=omega) [code124L1]
 | j+1,i,w,hi,k=>by
  have hrb:reachB=140737488351232:=rfl
  have hcm:m.cells=[.bool m.st,.str m.name,.str m.desc,.int .i64 m.stack,.int .i64 m.locals,.slice m.ca m.code.length m.cc,.slice m.ta m.traps.length m.tc,.slice m.xa m.maps.length m.xc]:=rfl
  obtain ⟨x,hx⟩:∃ x,m.traps[i]? = some x:=⟨_,ag (by omega)⟩
  obtain ⟨p,o,cs,ha,hp,hpl,hcs,hv⟩:=fh hm.t hx
  have ih:=l124b hm hn htn j (i+1) w (by omega) k
  have e2:((i+1:Nat):Int)=(i:Int)+1:=by omega
  rw [e2] at ih
  have hcx:x.cells=[.int .i64 x.lo,.int .i64 x.hi,.int .i64 x.at',.str x.cls]:=rfl
  rw [hcx] at hv
  have h131:=fun h=>s131 (m:=m) (i:=x.at') (h:=h) (by omega)
  have hin:inM m x.at'=inI x.at' 0 (m.code.length - 1):=rfl
  rw [← hin,hcm] at h131
  rw [hcm] at ih ⊢
  rw [ha] at ih h131 ⊢
  rw [bh,gk hx]
  rw [List.all_cons]
  generalize ACode.loop code124L1=LL at ih ⊢
  by_cases c1:0≤x.lo
  ·have c1':¬ x.lo < 0:=by omega
   by_cases c2:x.lo < x.hi
   ·have c2':¬ x.hi≤x.lo:=by omega
    by_cases c3:x.hi≤m.code.length
    ·have c3':¬ (m.code.length:Int) < x.hi:=by omega
     cases e:inM m x.at' with
     | true =>
      have hB:trapOk m x=true:=by simp [trapOk,c1,c2,c3,e]
      rw [e] at h131
      simp only [hB,Bool.true_and]
      simp (disch:=omega) [code124L1,hp,hv,c1',c2',c3',h131,ih]
     | false =>
      have hB:trapOk m x=false:=by simp [trapOk,e]
      rw [e] at h131
      simp only [hB,Bool.false_and]
      simp (disch:=omega) [code124L1,hp,hv,c1',c2',c3',h131]
    ·have c3':(m.code.length:Int) < x.hi:=by omega
     have hB:trapOk m x=false:=by simp [trapOk,c3]
     simp only [hB,Bool.false_and]
     simp (disch:=omega) [code124L1,hp,hv,c1',c2',c3']
   ·have c2':x.hi≤x.lo:=by omega
    have hB:trapOk m x=false:=by simp [trapOk,c2]
    simp only [hB,Bool.false_and]
    simp (disch:=omega) [code124L1,hp,hv,c1',c2']
  ·have c1':x.lo < 0:=by omega
   have hB:trapOk m x=false:=by simp [trapOk,c1]
   simp only [hB,Bool.false_and]
   simp (disch:=omega) [code124L1,hp,hv,c1']
theorem l124c {m:MethU} (hm:m.ok O) (hn:m.code.length≤1000) (hxn:m.maps.length≤reachB):∀ (j i:Nat) (l:Int) (w:Nat),i+j=m.maps.length→∀ (k:AExit→St→Option (AVal × Heap)),
  xK T (.loop code124L0) ⟨[(2,.var m.cells),(9,.val (.int .i64 l)),(67,.val (.slice m.xa m.maps.length m.xc)),(68,.val (.int .i64 m.maps.length)),(69,.val (.int .i64 i))],⟨O,b,w⟩⟩ (k:=⟨k⟩) =
   if mapsUp m l (m.maps.drop i) then k (.exit 4) ⟨[],⟨O,b,w⟩⟩ else k .ret ⟨[(4,.val (.bool false))],⟨O,b,w⟩⟩
 | 0,i,l,w,hi,k=>by
  rw [bh,dc (by omega)]
  simp (disch:=omega) [code124L0,mapsUp]
 | j+1,i,l,w,hi,k=>by
  have hrb:reachB=140737488351232:=rfl
  have hcm:m.cells=[.bool m.st,.str m.name,.str m.desc,.int .i64 m.stack,.int .i64 m.locals,.slice m.ca m.code.length m.cc,.slice m.ta m.traps.length m.tc,.slice m.xa m.maps.length m.xc]:=rfl
  obtain ⟨x,hx⟩:∃ x,m.maps[i]? = some x:=⟨_,ag (by omega)⟩
  obtain ⟨p,o,cs,ha,hp,hpl,hcs,hv⟩:=fh hm.x hx
  have ih:=l124c hm hn hxn j (i+1) x.at' w (by omega) k
  have e2:((i+1:Nat):Int)=(i:Int)+1:=by omega
  rw [e2] at ih
  have hcx:x.cells=[.int .i64 x.at',.slice x.la x.locals.length x.lc,.slice x.sa x.stack.length x.sc]:=rfl
  rw [hcx] at hv
  have h131:=fun h=>s131 (m:=m) (i:=x.at') (h:=h) (by omega)
  have hin:inM m x.at'=inI x.at' 0 (m.code.length - 1):=rfl
  rw [← hin,hcm] at h131
  rw [hcm] at ih ⊢
  rw [ha] at ih h131 ⊢
  rw [bh,gk hx]
  have hM:mapsUp m l (x :: List.drop (i+1) m.maps)=(decide (l < x.at') && (inM m x.at' && mapsUp m x.at' (List.drop (i+1) m.maps))):=rfl
  generalize ACode.loop code124L0=LL at ih ⊢
  by_cases c1:l < x.at'
  ·have c1':¬ x.at'≤l:=by omega
   cases e:inM m x.at' with
   | true =>
    rw [decide_eq_true c1,e,Bool.true_and,Bool.true_and] at hM
    rw [e] at h131
    simp only [hM]
    simp (disch:=omega) [code124L0,hp,hv,c1',h131,ih]
   | false =>
    rw [e,Bool.false_and,Bool.and_false] at hM
    rw [e] at h131
    simp only [hM]
    simp (disch:=omega) [code124L0,hp,hv,c1',h131]
  ·have c1':x.at'≤l:=by omega
   rw [decide_eq_false c1,Bool.false_and] at hM
   simp only [hM]
   simp (disch:=omega) [code124L0,hp,hv,c1']
end
def rangesOk (m:MethU):Bool:=m.code.all (branchOk m) && (m.traps.all (trapOk m) && mapsUp m (-1) m.maps)
section
attribute [-simp] getElem?_pos getElem?_neg List.all_eq_true
attribute [local simp] gz gs nltT nltF iltT iltF ileT nleT ef
theorem s124 {m:MethU} {fa:Option (Nat × Nat)} {fc:Option Nat} (hm:m.ok O) (hn:m.code.length≤1000) (htn:m.traps.length≤1000) (hxn:m.maps.length≤reachB) (hF:Row O 1 intC (formsL m.code) fa) :
  xCall T 124 [.agg m.cells,.slice fa m.code.length fc] ⟨O,b,w⟩=some (.bool (rangesOk m),⟨O,b,w⟩):=by
 have hrb:reachB=140737488351232:=rfl
 have hcm:m.cells=[.bool m.st,.str m.name,.str m.desc,.int .i64 m.stack,.int .i64 m.locals,.slice m.ca m.code.length m.cc,.slice m.ta m.traps.length m.tc,.slice m.xa m.maps.length m.xc]:=rfl
 have k1:=fun w k=>l124a (b:=b) (fc:=fc) hm hn hF m.code.length 0 w (by omega) k
 have k2:=fun w k=>l124b (b:=b) hm hn htn m.traps.length 0 w (by omega) k
 have k3:=fun w k=>l124c (b:=b) hm hn hxn m.maps.length 0 (-1) w (by omega) k
 simp only [bf,List.drop_zero] at k1 k2 k3
 rw [hcm] at k1 k2 k3
 unfold rangesOk
 cases e1:m.code.all (branchOk m) with
 | false=>rw [e1] at k1; simp (disch:=omega) [a6 t124,code124,hcm,k1]
 | true =>
  rw [e1] at k1
  cases e2:m.traps.all (trapOk m) with
  | false=>rw [e2] at k2; simp (disch:=omega) [a6 t124,code124,hcm,k1,k2]
  | true =>
   rw [e2] at k2
   cases e3:mapsUp m (-1) m.maps with
   | false=>rw [e3] at k3; simp (disch:=omega) [a6 t124,code124,hcm,k1,k2,k3]
   | true=>rw [e3] at k3; simp (disch:=omega) [a6 t124,code124,hcm,k1,k2,k3]
end
end Go.Abs.AbsFlow

namespace Go.Abs.AbsFlow
open Go.Abs.AbsDesc Go.Abs.AbsHier
open Go.Abs.AbsOrd hiding T sub
variable {os O:List AObj} {b w:Nat}
def needB (x:InsU):List Int:=if formN x.op=7 then [x.n] else []
def needE (n i:Nat) (x:InsU):List Int:=if endsC x.op=true∧i+1 < n then [((i+1:Nat):Int)] else []
def needL (n:Nat):Nat→List InsU→List Int
 | _,[]=>[]
 | i,x :: r=>needB x++(needE n i x++needL n (i+1) r)
def needs (m:MethU):List Int:=needL m.code.length 0 m.code++m.traps.map TrapU.at'
theorem needB_len (x:InsU):(needB x).length≤1:=by unfold needB; split <;> simp
theorem needE_len (n i:Nat) (x:InsU):(needE n i x).length≤1:=by unfold needE; split <;> simp
theorem needL_len (n:Nat):∀ (L:List InsU) (i:Nat),(needL n i L).length≤2*L.length
 | [],_=>by simp [needL]
 | x :: r,i=>by
  have:=needL_len n r (i+1)
  have h1:=needB_len x
  have h2:=needE_len n i x
  simp only [needL,bg,bo]
  omega
section
attribute [-simp] getElem?_pos getElem?_neg List.all_eq_true
attribute [local simp] gz gs nltT nltF iltT iltF ileT nleT ef
theorem l123a {m:MethU} {fa:Option (Nat × Nat)} {fc:Option Nat} (hm:m.ok O) (hb:b≤O.length) (hn:m.code.length≤1000) (hF:Row O 1 intC (formsL m.code) fa):∀ (j i w:Nat) (A:List Int) (P:List AObj) (v:AVal),i+j=m.code.length→A.length≤2*i→O.length≤w→Acc 1 intC O A P v →
  ∃ P' v',∃ W:Nat,Acc 1 intC O (A++needL m.code.length i (m.code.drop i)) P' v'∧O.length≤W∧∀ (k:AExit→St→Option (AVal × Heap)),
  xK T (.loop code123L1) ⟨[(1,.val (.slice fa m.code.length fc)),(2,.var m.cells),(5,.val v),(11,.val (.slice m.ca m.code.length m.cc)),(12,.val (.int .i64 m.code.length)),(13,.val (.int .i64 i))],⟨P,b,w⟩⟩ (k:=⟨k⟩)=k (.exit 0) ⟨[(2,.var m.cells),(5,.val v')],⟨P',b,W⟩⟩
 | 0,i,w,A,P,v,hi,hA,hw,h=>by
  refine ⟨P,v,w,?_,hw,fun k=>?_⟩
  ·rw [dc (by omega)]; simpa [needL] using h
  ·rw [bh]
   simp (disch:=omega) [code123L1]
 | j+1,i,w,A,P,v,hi,hA,hw,h=>by
  have hcm:m.cells=[.bool m.st,.str m.name,.str m.desc,.int .i64 m.stack,.int .i64 m.locals,.slice m.ca m.code.length m.cc,.slice m.ta m.traps.length m.tc,.slice m.xa m.maps.length m.xc]:=rfl
  obtain ⟨x,hx⟩:∃ x,m.code[i]? = some x:=⟨_,ag (by omega)⟩
  obtain ⟨p,o,cs,ha,hp,hpl,hcs,hv⟩:=fh (h.pre.row hm.c) hx
  obtain ⟨p',o',cs',hfa,hp',hv'⟩:=int_at (h.pre.row hF) (i:=i) (x:=formN x.op) (by unfold formsL; rw [bq,hx]; rfl)
  have hcx:x.cells=[.int .u8 x.op,.int .i64 x.n,.int .i64 x.m,.str x.cls,.str x.name,.str x.desc,.str x.text]:=rfl
  rw [hcx] at hv
  have e2:((i+1:Nat):Int)=(i:Int)+1:=by omega
  have hdx:needL m.code.length i (m.code.drop i)=needB x++(needE m.code.length i x++needL m.code.length (i+1) (m.code.drop (i+1))):=by rw [gk hx]; rfl
  have h73:=fun h=>s73 (c:=x.op) (h:=h)
  by_cases c1:formN x.op=7
  ·rw [c1] at hv'
   have hB:needB x=[x.n]:=by unfold needB; rw [if_pos c1]
   obtain ⟨P1,v1,n1,h1,hn1,_,e1⟩:=h.add (b:=b) dr hb (by':=8) (by omega) (by omega) x.n
   have hs:intC x.n=[.int .i64 x.n]:=rfl
   rw [hs] at e1
   cases e:endsC x.op with
   | true =>
    rw [e] at h73
    by_cases c2:i+1 < m.code.length
    ·have hE:needE m.code.length i x=[((i+1:Nat):Int)]:=by unfold needE; rw [if_pos ⟨e,c2⟩]
     obtain ⟨P2,v2,n2,h2,hn2,_,e3⟩:=h1.add (b:=b) dr hb (by':=8) (by simp; omega) (by simp; omega) ((i+1:Nat):Int)
     obtain ⟨P',v',W,i1,i2,i3⟩:=l123a (fc:=fc) hm hb hn hF j (i+1) (n2 (n1 w)) _ P2 v2 (by omega) (by simp; omega) (hn2 _ (hn1 _ hw)) h2
     refine ⟨P',v',W,by rw [hdx,hB,hE]; simpa using i1,i2,fun k=>?_⟩
     have ih:=i3 k
     have hs2:intC ((i+1:Nat):Int)=[.int .i64 ((i:Int)+1)]:=by rw [e2]; rfl
     rw [hs2] at e3
     have c2':(i:Int)+1 < m.code.length:=by omega
     rw [e2] at ih
     rw [hcm,ha] at ih ⊢
     subst hfa
     rw [bh]
     generalize ACode.loop code123L1=LL at ih ⊢
     simp (disch:=omega) [-aAppend,code123L1,hp,hv,hp',hv',h73,c2',e3,e1,ih]
    ·have hE:needE m.code.length i x=[]:=by unfold needE; rw [if_neg fun q=>c2 q.2]
     obtain ⟨P',v',W,i1,i2,i3⟩:=l123a (fc:=fc) hm hb hn hF j (i+1) (n1 w) _ P1 v1 (by omega) (by simp; omega) (hn1 _ hw) h1
     refine ⟨P',v',W,by rw [hdx,hB,hE]; simpa using i1,i2,fun k=>?_⟩
     have ih:=i3 k
     have c2':¬ (i:Int)+1 < m.code.length:=by omega
     rw [e2] at ih
     rw [hcm,ha] at ih ⊢
     subst hfa
     rw [bh]
     generalize ACode.loop code123L1=LL at ih ⊢
     simp (disch:=omega) [-aAppend,code123L1,hp,hv,hp',hv',h73,c2',e1,ih]
   | false =>
    rw [e] at h73
    have hE:needE m.code.length i x=[]:=by unfold needE; rw [if_neg fun q=>by rw [e] at q; cases q.1]
    obtain ⟨P',v',W,i1,i2,i3⟩:=l123a (fc:=fc) hm hb hn hF j (i+1) (n1 w) _ P1 v1 (by omega) (by simp; omega) (hn1 _ hw) h1
    refine ⟨P',v',W,by rw [hdx,hB,hE]; simpa using i1,i2,fun k=>?_⟩
    have ih:=i3 k
    rw [e2] at ih
    rw [hcm,ha] at ih ⊢
    subst hfa
    rw [bh]
    generalize ACode.loop code123L1=LL at ih ⊢
    simp (disch:=omega) [-aAppend,code123L1,hp,hv,hp',hv',h73,e1,ih]
  ·have hB:needB x=[]:=by unfold needB; rw [if_neg c1]
   cases e:endsC x.op with
   | true =>
    rw [e] at h73
    by_cases c2:i+1 < m.code.length
    ·have hE:needE m.code.length i x=[((i+1:Nat):Int)]:=by unfold needE; rw [if_pos ⟨e,c2⟩]
     obtain ⟨P2,v2,n2,h2,hn2,_,e3⟩:=h.add (b:=b) dr hb (by':=8) (by omega) (by omega) ((i+1:Nat):Int)
     obtain ⟨P',v',W,i1,i2,i3⟩:=l123a (fc:=fc) hm hb hn hF j (i+1) (n2 w) _ P2 v2 (by omega) (by simp; omega) (hn2 _ hw) h2
     refine ⟨P',v',W,by rw [hdx,hB,hE]; simpa using i1,i2,fun k=>?_⟩
     have ih:=i3 k
     have hs2:intC ((i+1:Nat):Int)=[.int .i64 ((i:Int)+1)]:=by rw [e2]; rfl
     rw [hs2] at e3
     have c2':(i:Int)+1 < m.code.length:=by omega
     rw [e2] at ih
     rw [hcm,ha] at ih ⊢
     subst hfa
     rw [bh]
     generalize ACode.loop code123L1=LL at ih ⊢
     simp (disch:=omega) [-aAppend,code123L1,hp,hv,hp',hv',h73,c2',e3,c1,ih]
    ·have hE:needE m.code.length i x=[]:=by unfold needE; rw [if_neg fun q=>c2 q.2]
     obtain ⟨P',v',W,i1,i2,i3⟩:=l123a (fc:=fc) hm hb hn hF j (i+1) w _ P v (by omega) (by omega) hw h
     refine ⟨P',v',W,by rw [hdx,hB,hE]; simpa using i1,i2,fun k=>?_⟩
     have ih:=i3 k
     have c2':¬ (i:Int)+1 < m.code.length:=by omega
     rw [e2] at ih
     rw [hcm,ha] at ih ⊢
     subst hfa
     rw [bh]
     generalize ACode.loop code123L1=LL at ih ⊢
     simp (disch:=omega) [-aAppend,code123L1,hp,hv,hp',hv',h73,c2',c1,ih]
   | false =>
    rw [e] at h73
    have hE:needE m.code.length i x=[]:=by unfold needE; rw [if_neg fun q=>by rw [e] at q; cases q.1]
    obtain ⟨P',v',W,i1,i2,i3⟩:=l123a (fc:=fc) hm hb hn hF j (i+1) w _ P v (by omega) (by omega) hw h
    refine ⟨P',v',W,by rw [hdx,hB,hE]; simpa using i1,i2,fun k=>?_⟩
    have ih:=i3 k
    rw [e2] at ih
    rw [hcm,ha] at ih ⊢
    subst hfa
    rw [bh]
    generalize ACode.loop code123L1=LL at ih ⊢
    simp (disch:=omega) [-aAppend,code123L1,hp,hv,hp',hv',h73,c1,ih]
theorem l123b {m:MethU} (hm:m.ok O) (hb:b≤O.length) (htn:m.traps.length≤1000):∀ (j i w:Nat) (A:List Int) (P:List AObj) (v:AVal),i+j=m.traps.length→A.length≤2000+i→O.length≤w→Acc 1 intC O A P v →
  ∃ P' v',∃ W:Nat,Acc 1 intC O (A++(m.traps.drop i).map TrapU.at') P' v'∧O.length≤W∧∀ (k:AExit→St→Option (AVal × Heap)),
  xK T (.loop code123L0) ⟨[(5,.val v),(46,.val (.slice m.ta m.traps.length m.tc)),(47,.val (.int .i64 m.traps.length)),(48,.val (.int .i64 i))],⟨P,b,w⟩⟩ (k:=⟨k⟩)=k (.exit 2) ⟨[(5,.val v')],⟨P',b,W⟩⟩
 | 0,i,w,A,P,v,hi,hA,hw,h=>by
  refine ⟨P,v,w,?_,hw,fun k=>?_⟩
  ·rw [dc (by omega)]; simpa using h
  ·rw [bh]
   simp (disch:=omega) [code123L0]
 | j+1,i,w,A,P,v,hi,hA,hw,h=>by
  obtain ⟨x,hx⟩:∃ x,m.traps[i]? = some x:=⟨_,ag (by omega)⟩
  obtain ⟨p,o,cs,ha,hp,hpl,hcs,hv⟩:=fh (h.pre.row hm.t) hx
  have hcx:x.cells=[.int .i64 x.lo,.int .i64 x.hi,.int .i64 x.at',.str x.cls]:=rfl
  rw [hcx] at hv
  obtain ⟨P1,v1,n1,h1,hn1,_,e1⟩:=h.add (b:=b) dr hb (by':=8) (by omega) (by omega) x.at'
  have hs:intC x.at'=[.int .i64 x.at']:=rfl
  rw [hs] at e1
  have e2:((i+1:Nat):Int)=(i:Int)+1:=by omega
  obtain ⟨P',v',W,i1,i2,i3⟩:=l123b hm hb htn j (i+1) (n1 w) _ P1 v1 (by omega) (by simp; omega) (hn1 _ hw) h1
  refine ⟨P',v',W,by rw [gk hx]; simpa using i1,i2,fun k=>?_⟩
  have ih:=i3 k
  rw [e2] at ih
  rw [ha] at ih ⊢
  rw [bh]
  generalize ACode.loop code123L0=LL at ih ⊢
  simp (disch:=omega) [-aAppend,code123L0,hp,hv,e1,ih]
theorem s123 {m:MethU} {fa:Option (Nat × Nat)} {fc:Option Nat} (hm:m.ok O) (hb:b≤O.length) (hn:m.code.length≤1000) (htn:m.traps.length≤1000) (hF:Row O 1 intC (formsL m.code) fa) :
  xCall T 123 [.agg m.cells,.slice fa m.code.length fc] ⟨O,b,w⟩=some (newV O.length (needs m),⟨newO 1 intC O (needs m),b,w⟩):=by
 have hcm:m.cells=[.bool m.st,.str m.name,.str m.desc,.int .i64 m.stack,.int .i64 m.locals,.slice m.ca m.code.length m.cc,.slice m.ta m.traps.length m.tc,.slice m.xa m.maps.length m.xc]:=rfl
 obtain ⟨P1,v1,W1,i1,i2,i3⟩:=l123a (fc:=fc) hm hb hn hF m.code.length 0 O.length [] O _ (by omega) (by simp) (aj _) Acc.nil
 have hl:=needL_len m.code.length m.code 0
 obtain ⟨P',v',W,j1,j2,j3⟩:=l123b hm hb htn m.traps.length 0 W1 _ P1 v1 (by omega) (by simp; omega) i2 i1
 have hf:=j1.fin (b:=b) (w0:=w) idsI renI j2
 simp only [bf,List.drop_zero,List.nil_append] at i3 j3 hf
 have hnd:needL m.code.length 0 m.code++m.traps.map TrapU.at'=needs m:=rfl
 rw [hnd] at hf
 rw [hcm] at i3
 simp (disch:=omega) [-aAppend,-finish,a6 t123,code123,hcm,i3,j3,hf]
end
end Go.Abs.AbsFlow

namespace Go.Abs.AbsFlow
open Go.Abs.AbsDesc Go.Abs.AbsHier
open Go.Abs.AbsOrd hiding T sub
variable {os O:List AObj} {b w:Nat}
def shapeOk (m:MethU) (x:InsU):Bool:=shapeF m x (formN x.op)
section
attribute [-simp] getElem?_pos getElem?_neg List.all_eq_true
attribute [local simp] gz gs nltT nltF iltT iltF ileT nleT ef
theorem l76a {m:MethU} {fa:Option (Nat × Nat)} {fc:Option Nat} (hm:m.ok O) (hn:m.code.length≤1000) (h0:0≤m.locals) (h1:m.locals≤64) (hF:Row O 1 intC (formsL m.code) fa):∀ (j i:Nat) (w:Nat),i+j=m.code.length→∀ (k:AExit→St→Option (AVal × Heap)),
  xK T (.loop code76L1) ⟨[(1,.var m.cells),(6,.val (.slice fa m.code.length fc)),(56,.val (.slice m.ca m.code.length m.cc)),(57,.val (.int .i64 m.code.length)),(58,.val (.int .i64 i))],⟨O,b,w⟩⟩ (k:=⟨k⟩) =
   if (m.code.drop i).all (shapeOk m) then k (.exit 0) ⟨[(1,.var m.cells),(6,.val (.slice fa m.code.length fc))],⟨O,b,w⟩⟩ else k .ret ⟨[(2,.val (.int .i64 8))],⟨O,b,w⟩⟩
 | 0,i,w,hi,k=>by
  rw [bh,dc (by omega)]
  simp (disch:=omega) [code76L1]
 | j+1,i,w,hi,k=>by
  have hcm:m.cells=[.bool m.st,.str m.name,.str m.desc,.int .i64 m.stack,.int .i64 m.locals,.slice m.ca m.code.length m.cc,.slice m.ta m.traps.length m.tc,.slice m.xa m.maps.length m.xc]:=rfl
  obtain ⟨x,hx⟩:∃ x,m.code[i]? = some x:=⟨_,ag (by omega)⟩
  obtain ⟨p,o,cs,ha,hp,hpl,hcs,hv⟩:=fh hm.c hx
  obtain ⟨p',o',cs',hfa,hp',hv'⟩:=int_at hF (i:=i) (x:=formN x.op) (by unfold formsL; rw [bq,hx]; rfl)
  have ih:=l76a (fc:=fc) hm hn h0 h1 hF j (i+1) w (by omega) k
  have e2:((i+1:Nat):Int)=(i:Int)+1:=by omega
  rw [e2] at ih
  have hcx:x.cells=[.int .u8 x.op,.int .i64 x.n,.int .i64 x.m,.str x.cls,.str x.name,.str x.desc,.str x.text]:=rfl
  have h125:=fun h=>s125 (x:=x) (f:=formN x.op) (h:=h) h0 h1
  have hso:shapeF m x (formN x.op)=shapeOk m x:=rfl
  rw [hso,hcm,hcx] at h125
  rw [hcx] at hv
  rw [hcm] at ih ⊢
  rw [ha] at ih h125 ⊢
  subst hfa
  rw [bh,gk hx,List.all_cons]
  generalize ACode.loop code76L1=LL at ih ⊢
  cases e:shapeOk m x with
  | true =>
   rw [e] at h125
   simp only [Bool.true_and]
   simp (disch:=omega) [code76L1,hp,hv,hp',hv',h125,ih]
  | false =>
   rw [e] at h125
   simp only [Bool.false_and]
   simp (disch:=omega) [code76L1,hp,hv,hp',hv',h125]
theorem l76b {m:MethU} {L:List Int} {a:Option (Nat × Nat)} {c:Option Nat} (hm:m.ok O) (hf:m.fits) (hb:b≤O.length) (hn:L.length≤10000) (hL:Row O 1 intC L a):∀ (j i:Nat) (w:Nat),i+j=L.length→∀ (k:AExit→St→Option (AVal × Heap)),
  xK T (.loop code76L0) ⟨[(1,.var m.cells),(78,.val (.slice a L.length c)),(79,.val (.int .i64 L.length)),(80,.val (.int .i64 i))],⟨O,b,w⟩⟩ (k:=⟨k⟩) =
   if (L.drop i).all (hasMap m) then k (.exit 2) ⟨[],⟨O,b,w⟩⟩ else k .ret ⟨[(2,.val (.int .i64 11))],⟨O,b,w⟩⟩
 | 0,i,w,hi,k=>by
  rw [bh,dc (by omega)]
  simp (disch:=omega) [code76L0]
 | j+1,i,w,hi,k=>by
  have hcm:m.cells=[.bool m.st,.str m.name,.str m.desc,.int .i64 m.stack,.int .i64 m.locals,.slice m.ca m.code.length m.cc,.slice m.ta m.traps.length m.tc,.slice m.xa m.maps.length m.xc]:=rfl
  obtain ⟨x,hx⟩:∃ x,L[i]? = some x:=⟨_,ag (by omega)⟩
  obtain ⟨p,o,cs,ha,hp,hv⟩:=int_at hL hx
  have ih:=l76b (c:=c) hm hf hb hn hL j (i+1) w (by omega) k
  have e2:((i+1:Nat):Int)=(i:Int)+1:=by omega
  rw [e2] at ih
  subst ha
  rw [bh,gk hx,List.all_cons]
  rcases s71 (i:=x) hm hf hb w with ⟨e,y,hy,_,h71⟩ | ⟨e,h71⟩
  ·rw [e]
   simp only [Bool.true_and]
   have hcy:y.cells=[.int .i64 y.at',.slice y.la y.locals.length y.lc,.slice y.sa y.stack.length y.sc]:=rfl
   rw [hcy,hcm] at h71
   rw [hcm] at ih ⊢
   generalize ACode.loop code76L0=LL at ih ⊢
   simp (disch:=omega) [code76L0,hp,hv,h71,ih]
  ·rw [e]
   simp only [Bool.false_and]
   rw [hcm] at h71 ih ⊢
   generalize ACode.loop code76L0=LL at ih ⊢
   simp (disch:=omega) [code76L0,hp,hv,h71]
end
def checkM (m:MethU):Int :=
 if (methL m.desc).isNone then 8 else if inI m.stack 0 64=false then 8 else if inI m.locals 0 64=false then 8
 else match m.code.getLast? with
 | none=>8
 | some x=>if endsC x.op=false then 8 else if m.code.all (shapeOk m)=false then 8 else if rangesOk m=false then 2 else if (needs m).all (hasMap m)=false then 11 else 0
section
attribute [-simp] getElem?_pos getElem?_neg List.all_eq_true
attribute [local simp] gz gs nltT nltF iltT iltF ileT nleT ef
set_option maxHeartbeats 2000000 in
theorem s76 {m:MethU} (hm:m.ok O) (hf:m.fits) (ho:∀ x ∈ m.code,0≤x.op∧x.op < 256) (hb:b≤O.length) (hn:m.code.length≤1000) (htn:m.traps.length≤1000) :
  xCall T 76 [.agg m.cells] ⟨O,b,w⟩=some (.int .i64 (checkM m),⟨O,b,w⟩):=by
 have hrb:reachB=140737488351232:=rfl
 have hcm:m.cells=[.bool m.st,.str m.name,.str m.desc,.int .i64 m.stack,.int .i64 m.locals,.slice m.ca m.code.length m.cc,.slice m.ta m.traps.length m.tc,.slice m.xa m.maps.length m.xc]:=rfl
 have hfd:=hf.desc
 have h38:=fun w=>xCall_sub subT (AbsHier.s38 (os:=O) (b:=b) (w:=w) (s:=m.desc) (by omega) hb)
 have h127:=fun a lo hi h=>s127 (a:=a) (lo:=lo) (hi:=hi) (h:=h)
 unfold checkM
 cases hq:methL m.desc with
 | none =>
  rw [hq] at h38
  simp only [methV,methO] at h38
  simp (disch:=omega) [a6 t76,code76,hcm,h38]
 | some q =>
  obtain ⟨A,r⟩:=q
  have hp1:=methO_pre O (some (A,r))
  obtain ⟨V,hV⟩:∃ V,methV O.length (some (A,r)) = .tuple [V,.str r,.int .i64 0]:=by cases A <;> exact ⟨_,rfl⟩
  rw [hq,hV] at h38
  generalize methO O (some (A,r))=O1 at *
  simp only [Option.isNone_some,av,if_false]
  cases e1:inI m.stack 0 64 with
  | false=>simp (disch:=omega) [a6 t76,code76,hcm,h38,h127,e1]
  | true =>
   cases e2:inI m.locals 0 64 with
   | false=>simp (disch:=omega) [a6 t76,code76,hcm,h38,h127,e1,e2]
   | true =>
    simp only [reduceCtorEq,if_false]
    have hloc:0≤m.locals∧m.locals≤64:=by
     unfold inI at e2
     simp only [ap,decide_eq_true_eq] at e2
     exact e2
    rw [List.getLast?_eq_getElem?]
    cases hx:m.code[m.code.length - 1]? with
    | none =>
     have hz:m.code.length=0:=by
      rw [List.getElem?_eq_none_iff] at hx
      omega
     simp (disch:=omega) [a6 t76,code76,hcm,h38,h127,e1,e2,hz]
    | some x =>
     have hlt:=ah hx
     have hlt':(0:Int) < m.code.length:=by omega
     have hne:¬ (m.code.length:Int)=0:=by omega
     have hl1:((m.code.length - 1:Nat):Int)=(m.code.length:Int) - 1:=by omega
     obtain ⟨p,o,cs,ha,hp,hpl,hcs,hv⟩:=fh (hp1.row hm.c) hx
     have hcx:x.cells=[.int .u8 x.op,.int .i64 x.n,.int .i64 x.m,.str x.cls,.str x.name,.str x.desc,.str x.text]:=rfl
     rw [hcx] at hv
     have h73:=fun h=>s73 (c:=x.op) (h:=h)
     have hK:(m.code.length:Int) - 1=((m.code.length - 1:Nat):Int):=by omega
     have hKl:m.code.length - 1 < m.code.length:=by omega
     generalize m.code.length - 1=K at *
     have hca:=ha
     have hKl':(K:Int) < m.code.length:=by omega
     have hb1:b≤O1.length:=by have:=hp1.len; omega
     have hm1:=MethU.ok.pre hp1 hm
     have hv0:cs[o+K*7]? = some (.int .u8 x.op):=by
      have h6:=Go.Abs.AbsMake.take_get (k:=0) hv (by decide)
      rw [Nat.add_zero] at h6
      rw [h6]; rfl
     have hnil:¬ m.code=[]:=fun e=>by rw [e] at hlt; simp at hlt
     rw [ha] at hcm
     dsimp only
     cases e3:endsC x.op with
     | false =>
      rw [e3] at h73
      simp (disch:=omega) [a6 t76,code76,hcm,h38,h127,e1,e2,hne,hnil,hlt',hK,hKl',hp,hv,hv0,h73]
     | true =>
      rw [e3] at h73
      simp only [reduceCtorEq,if_false]
      have h126:=fun w=>s126 (w:=w) hm1 ho hb1 hn
      have hFl:(formsL m.code).length=m.code.length:=List.length_map ..
      have hF:Row (newO 1 intC O1 (formsL m.code)) 1 intC (formsL m.code) (newA O1.length (formsL m.code)):=new_row dr
      have hp2:Pre O1 (newO 1 intC O1 (formsL m.code)):=newO_pre
      rw [newV_eq,hFl,hcm] at h126
      generalize newO 1 intC O1 (formsL m.code)=O2 at *
      generalize newA O1.length (formsL m.code)=fa at *
      generalize newC (formsL m.code)=fc at *
      have hm2:=MethU.ok.pre hp2 hm1
      have hb2:b≤O2.length:=by have:=hp2.len; omega
      have k1:=fun w k=>l76a (b:=b) (fc:=fc) hm2 hn hloc.1 hloc.2 hF m.code.length 0 w (by omega) k
      simp only [bf,List.drop_zero] at k1
      rw [hcm,ha] at k1
      cases e4:m.code.all (shapeOk m) with
      | false =>
       rw [e4] at k1
       simp (disch:=omega) [a6 t76,code76,hcm,h38,h127,e1,e2,hne,hnil,hlt',hK,hKl',hp,hv,hv0,h73,h126,k1]
      | true =>
       rw [e4] at k1
       simp only [reduceCtorEq,if_false]
       have h124:=fun w=>s124 (b:=b) (w:=w) (fc:=fc) hm2 hn htn hf.x hF
       rw [hcm] at h124
       cases e5:rangesOk m with
       | false =>
        rw [e5] at h124
        simp (disch:=omega) [a6 t76,code76,hcm,h38,h127,e1,e2,hne,hnil,hlt',hK,hKl',hp,hv,hv0,h73,h126,k1,h124]
       | true =>
        rw [e5] at h124
        simp only [reduceCtorEq,if_false]
        have h123:=fun w=>s123 (w:=w) (fc:=fc) hm2 hb2 hn htn hF
        have hN:Row (newO 1 intC O2 (needs m)) 1 intC (needs m) (newA O2.length (needs m)):=new_row dr
        have hp3:Pre O2 (newO 1 intC O2 (needs m)):=newO_pre
        have hNl:(needs m).length≤10000:=by
         have:=needL_len m.code.length m.code 0
         unfold needs
         rw [bg,List.length_map]
         omega
        rw [newV_eq,hcm] at h123
        generalize newO 1 intC O2 (needs m)=O3 at *
        generalize newA O2.length (needs m)=na at *
        generalize newC (needs m)=nc at *
        have hm3:=MethU.ok.pre hp3 hm2
        have hb3:b≤O3.length:=by have:=hp3.len; omega
        have k2:=fun w k=>l76b (b:=b) (c:=nc) hm3 hf hb3 hNl hN (needs m).length 0 w (by omega) k
        simp only [bf,List.drop_zero] at k2
        rw [hcm] at k2
        cases e6:(needs m).all (hasMap m) with
        | false =>
         rw [e6] at k2
         simp (disch:=omega) [a6 t76,code76,hcm,h38,h127,e1,e2,hne,hnil,hlt',hK,hKl',hp,hv,hv0,h73,h126,k1,h124,h123,k2]
        | true =>
         rw [e6] at k2
         simp (disch:=omega) [a6 t76,code76,hcm,h38,h127,e1,e2,hne,hnil,hlt',hK,hKl',hp,hv,hv0,h73,h126,k1,h124,h123,k2]
end
end Go.Abs.AbsFlow

namespace Go.Abs.AbsFlow
open Go.Abs.AbsDesc Go.Abs.AbsHier
open Go.Abs.AbsOrd hiding T sub
variable {os O:List AObj} {b w:Nat}
section
attribute [-simp] getElem?_pos getElem?_neg List.all_eq_true
attribute [local simp] gz gs nltT nltF iltT iltF ileT nleT ef
theorem s217 {x:Int} {h:Heap}:xCall T 217 [.int .i64 x] h=some (.bool false,h):=by
 obtain ⟨os,b,w⟩:=h
 simp (disch:=omega) [a6 t217,code217]
theorem s193 {x y:Int} {h:Heap}:xCall T 193 [.int .i64 x,.int .i64 y] h=some (.bool (decide (x < y)),h):=by
 obtain ⟨os,b,w⟩:=h
 have h217:=fun x h=>s217 (x:=x) (h:=h)
 by_cases c:x < y
 ·simp (disch:=omega) [a6 t193,code193,h217,c]
 ·simp (disch:=omega) [a6 t193,code193,h217,c]
theorem s166 {n:Int} (hn:n=0∨n=1∨n=2) {h:Heap}:∃ k:Int,xCall T 166 [.int .u64 n] h=some (.int .i64 k,h):=by
 obtain ⟨os,b,w⟩:=h
 have q0:IntKind.u8.wrap 0=0:=by decide
 have q1:IntKind.u8.wrap 1=1:=by decide
 have q2:IntKind.u8.wrap 2=2:=by decide
 rcases hn with rfl | rfl | rfl
 ·refine ⟨0,?_⟩; simp (disch:=omega) [a6 t166,code166,a6 t200,code200,q0,q1,q2]
 ·refine ⟨1,?_⟩; simp (disch:=omega) [a6 t166,code166,a6 t200,code200,q0,q1,q2]
 ·refine ⟨2,?_⟩; simp (disch:=omega) [a6 t166,code166,a6 t200,code200,q0,q1,q2]
theorem l199_0 {P:List AObj} {a:Option (Nat × Nat)} {c:Option Nat} {n:Nat} (hn:n≤1) (w:Nat) (k:AExit→St→Option (AVal × Heap)) :
  xK T (.loop code199L1) ⟨[(0,.val (.slice a n c)),(1,.val (.int .i64 0)),(2,.val (.int .i64 n)),(6,.val (.int .i64 1))],⟨P,b,w⟩⟩ (k:=⟨k⟩)=k (.exit 0) ⟨[],⟨P,b,w⟩⟩:=by
 have h1:¬ (1:Int) < n:=by omega
 rw [bh]
 simp (disch:=omega) [code199L1,h1]
end
section
attribute [-simp] getElem?_pos getElem?_neg List.all_eq_true sget
attribute [local simp] gz gs nltT nltF iltT iltF ileT nleT ef sgetN sgetH sgetT
theorem s199_2 {P:List AObj} {c:Option Nat} {q:Nat} {x y:Int} (hq:P[q]? = some (.cells 1 [.int .i64 x,.int .i64 y])) (hb:b≤q) (w:Nat) :
  xCall T 199 [.slice (some (q,0)) 2 c,.int .i64 0,.int .i64 2] ⟨P,b,w⟩=some (.tuple [],if y < x then ⟨P.set q (.cells 1 [.int .i64 y,.int .i64 x]),b,min w q⟩ else ⟨P,b,w⟩):=by
 have hl:=ah hq
 have h193:=fun x y h=>s193 (x:=x) (y:=y) (h:=h)
 by_cases c1:y < x
 ·simp (disch:=omega) [dz,benign,again,AVal.eqb,a6 t199,code199,bh,code199L1,code199L0,h193,hq,c1,hl]
 ·simp (disch:=omega) [a6 t199,code199,bh,code199L1,code199L0,h193,hq,c1,hl]
end
end Go.Abs.AbsFlow

namespace Go.Abs.AbsFlow
open Go.Abs.AbsDesc Go.Abs.AbsHier
open Go.Abs.AbsOrd hiding T sub
variable {os O:List AObj} {b w:Nat}
section
attribute [-simp] getElem?_pos getElem?_neg List.all_eq_true
attribute [local simp] gz gs nltT nltF iltT iltF ileT nleT ef
theorem s199_0 {P:List AObj} {a:Option (Nat × Nat)} {c:Option Nat} {n:Nat} (hn:n≤1) (w:Nat):xCall T 199 [.slice a n c,.int .i64 0,.int .i64 n] ⟨P,b,w⟩=some (.tuple [],⟨P,b,w⟩):=by
 have h:=fun w k=>l199_0 (P:=P) (a:=a) (b:=b) (c:=c) hn w k
 simp (disch:=omega) [a6 t199,code199,h]
theorem s167_0 {P:List AObj} {a:Option (Nat × Nat)} {c:Option Nat} {n:Nat} {l:Int} (hn:n≤1) (w:Nat):xCall T 167 [.slice a n c,.int .i64 0,.int .i64 n,.int .i64 l] ⟨P,b,w⟩=some (.tuple [],⟨P,b,w⟩):=by
 have h:=fun w=>s199_0 (P:=P) (a:=a) (b:=b) (c:=c) hn w
 have hn':(n:Int)≤12:=by omega
 simp (disch:=omega) [a6 t167,code167,bh,code167L0,h,hn']
theorem s167_2 {P:List AObj} {c:Option Nat} {q:Nat} {x y l:Int} (hq:P[q]? = some (.cells 1 [.int .i64 x,.int .i64 y])) (hb:b≤q) (w:Nat) :
  xCall T 167 [.slice (some (q,0)) 2 c,.int .i64 0,.int .i64 2,.int .i64 l] ⟨P,b,w⟩=some (.tuple [],if y < x then ⟨P.set q (.cells 1 [.int .i64 y,.int .i64 x]),b,min w q⟩ else ⟨P,b,w⟩):=by
 have hl:=ah hq
 have h:=fun w=>s199_2 (b:=b) (c:=c) hq hb w
 by_cases c1:y < x
 ·simp only [c1,if_true] at h
  simp (disch:=omega) [a6 t167,code167,bh,code167L0,h,c1,hl]
 ·simp only [c1,if_false] at h
  simp (disch:=omega) [a6 t167,code167,bh,code167L0,h,c1,hl]
theorem s129_0 {P:List AObj} {a:Option (Nat × Nat)} {c:Option Nat} {n:Nat} (hn:n≤1) (w:Nat):xCall T 129 [.slice a n c] ⟨P,b,w⟩=some (.tuple [],⟨P,b,w⟩):=by
 have h:=fun l w=>s167_0 (P:=P) (a:=a) (b:=b) (c:=c) (l:=l) hn w
 have q0:IntKind.u64.wrap (n:Int)=n:=by
  have:n=0∨n=1:=by omega
  rcases this with rfl | rfl <;> decide
 obtain ⟨k,hk⟩:=s166 (n:=(n:Int)) (h:=⟨P,b,P.length⟩) (by omega)
 simp (disch:=omega) [a6 t129,code129,h,q0,hk]
theorem s129_2 {P:List AObj} {c:Option Nat} {q:Nat} {x y:Int} (hq:P[q]? = some (.cells 1 [.int .i64 x,.int .i64 y])) (hb:b≤q) (w:Nat) :
  xCall T 129 [.slice (some (q,0)) 2 c] ⟨P,b,w⟩=some (.tuple [],if y < x then ⟨P.set q (.cells 1 [.int .i64 y,.int .i64 x]),b,min w q⟩ else ⟨P,b,w⟩):=by
 have hl:=ah hq
 have h:=fun l w=>s167_2 (b:=b) (c:=c) (l:=l) hq hb w
 have q0:IntKind.u64.wrap 2=2:=by decide
 obtain ⟨k,hk⟩:=s166 (n:=2) (h:=⟨P,b,P.length⟩) (by omega)
 by_cases c1:y < x
 ·simp only [c1,if_true] at h
  simp (disch:=omega) [a6 t129,code129,h,q0,hk,c1,hl]
 ·simp only [c1,if_false] at h
  simp (disch:=omega) [a6 t129,code129,h,q0,hk,c1,hl]
theorem s128_0 {P:List AObj} {a:Option (Nat × Nat)} {c:Option Nat} {n:Nat} (hn:n≤1) (hu:a=none∨∃ q,a=some (q,0)∧q < P.length) (w:Nat):xCall T 128 [.slice a n c] ⟨P,b,w⟩=some (.slice a n c,⟨P,b,w⟩):=by
 have hn':(n:Int) < 2:=by omega
 rcases hu with rfl | ⟨q,rfl,hq⟩
 ·simp (disch:=omega) [a6 t128,code128,hn',AVal.under]
 ·simp (disch:=omega) [a6 t128,code128,hn',hq,AVal.under]
end
section
attribute [-simp] getElem?_pos getElem?_neg List.all_eq_true sget
attribute [local simp] gz gs nltT nltF iltT iltF ileT nleT ef sgetN sgetH sgetT
theorem s128_2 {P:List AObj} {q:Nat} {x y:Int} (hq:P[q]? = some (.cells 1 [.int .i64 x,.int .i64 y])) (hb:b≤q) (w:Nat) :
  xCall T 128 [.slice (some (q,0)) 2 none] ⟨P,b,w⟩=some (if y=x then (.slice (some (q,0)) 1 none,⟨P.set q (.cells 1 [.int .i64 x,.int .i64 0]),b,min w q⟩) else (.slice (some (q,0)) 2 none,⟨P,b,w⟩)):=by
 have hl:=ah hq
 by_cases c1:y=x
 ·subst c1
  simp (disch:=omega) [a6 t128,code128,bh,code128L1,code128L0,hq,hl]
 ·simp (disch:=omega) [a6 t128,code128,bh,code128L1,code128L0,hq,hl,c1,AVal.under]
end
end Go.Abs.AbsFlow
