/-
  Texts joined.
-/
import Derived.Test.YtjmnbfijplhkfaaDoorR0
import Derived.Test.YtjmnbfijplhkfaaDoorR8
import Derived.KernelRfl
import Derived.Test.YtjmnbfijplhkfaaDoorR7
import Derived.Test.YtjmnbfijplhkfaaDoorR6
set_option linter.unusedVariables false
set_option linter.unusedSimpArgs false
set_option maxRecDepth 100000
namespace Go.Abs.AbsMake
open Go.Abs.AbsDesc Go.Abs.AbsHier
variable {os O P Q B:List AObj} {b w:Nat} {tN:Nat} {tb:List UInt8} {tv:AVal} {n:Nat}
structure KeepX (t:Nat) (P Q:List AObj):Prop where
 at':∀ i o,i≠t→P[i]? = some o→Q[i]? = some o
 len:P.length≤Q.length
theorem KeepX.app (t:Nat) (P X:List AObj):KeepX t P (P++X):=⟨fun i o _ h=>by rw [ag (ah h)]; exact h,by simp⟩
theorem KeepX.set (t:Nat) (P:List AObj) (y:AObj):KeepX t P (P.set t y):=⟨fun i o h1 h=>by rw [al (Ne.symm h1)]; exact h,by simp⟩
theorem KeepX.trans {A B C:List AObj} {t:Nat} (h:KeepX t A B) (k:KeepX t B C):KeepX t A C:=⟨fun i o h1 h2=>k.at' i o h1 (h.at' i o h1 h2),bl h.len k.len⟩
theorem Made.keepX {st:Bool} {nm:Str} {m:MethU} (h:Made P tN tb tv st nm Q m):KeepX tN P Q:=by
 have hat:∀ i o,i≠tN→P[i]? = some o→Q[i]? = some o:=fun i o h1 h2=>by rw [h.keep i (ah h2) h1]; exact h2
 refine ⟨hat,?_⟩
 rcases ja P.length with h0 | h0
 ·omega
 ·obtain ⟨p,hp⟩:=h.tape
  have h3:=ah hp.at'
  by_cases e:P.length - 1=tN
  ·omega
  ·have:=ah (hat (P.length - 1) _ e (ak (by omega)))
   omega
theorem KeepX.row {t:Nat} (h:KeepX t P Q) {α:Type} {e:Nat} {f:α→List AVal} {L:List α} {a:Option (Nat × Nat)} (ho:over n a) (hn:t < n) (hR:Row P e f L a):Row Q e f L a :=
 ⟨fun hne=>by
  obtain ⟨i,o,cs,h1,h2,h3⟩:=hR.at' hne
  have:=ho i o h1
  exact ⟨i,o,cs,h1,h.at' i _ (by omega) h2,h3⟩⟩
theorem _root_.Go.Abs.MapU.ok.keep {t:Nat} (h:KeepX t P Q) (hn:t < n) {x:MapU} (ho:x.over n) (hx:x.ok P):x.ok Q:=⟨h.row ho.l hn hx.l,hx.ln,hx.lu.le h.len,h.row ho.s hn hx.s,hx.sn,hx.su.le h.len,hx.ls⟩
theorem _root_.Go.Abs.MethU.ok.keep {t:Nat} (h:KeepX t P Q) (hn:t < n) {m:MethU} (ho:m.over n) (hx:m.ok P):m.ok Q :=
 ⟨hx.name,hx.desc,h.row ho.c hn hx.c,hx.cn,hx.cu.le h.len,hx.cok,h.row ho.t hn hx.t,hx.tn,hx.tu.le h.len,hx.tok,h.row ho.x hn hx.x,hx.xn,hx.xu.le h.len,fun x hm=>(hx.xok x hm).keep h hn (ho.xs x hm)⟩
theorem over_mono {n m:Nat} {a:Option (Nat × Nat)} (h:over n a) (hm:m≤n):over m a:=fun i o e=>bl hm (h i o e)
theorem _root_.Go.Abs.MethU.over.mono {n k:Nat} {m:MethU} (h:m.over n) (hk:k≤n):m.over k:=⟨over_mono h.c hk,over_mono h.t hk,over_mono h.x hk,fun x hx=>⟨over_mono (h.xs x hx).l hk,over_mono (h.xs x hx).s hk⟩⟩
structure MOk (n:Nat) (P:List AObj) (st:Bool) (nm:Str) (m:MethU):Prop where
 st:m.st=st
 name:m.name=nm
 desc:m.desc=descII
 ok:m.ok P
 over:m.over n
 fits:m.fits
 traps:∀ x ∈ m.traps,x.cls ∈ classesT
theorem MOk.keep {t:Nat} (h:KeepX t P Q) (hn:t < n) {st:Bool} {nm:Str} {m:MethU} (hm:MOk n P st nm m):MOk n Q st nm m:=⟨hm.st,hm.name,hm.desc,hm.ok.keep h hn hm.over,hm.over,hm.fits,hm.traps⟩
theorem Made.mok {st:Bool} {nm:Str} {m:MethU} (h:Made P tN tb tv st nm Q m) (hn:n≤P.length):MOk n Q st nm m:=⟨h.st,h.name,h.desc,h.ok,h.over.mono hn,h.fits,h.traps⟩
structure Good (P:List AObj) (tN:Nat) (tb:List UInt8) (tv:AVal):Prop where
 tape:∃ p,Tape P tN tb tv p
 tv:TapeV P tN tb tv
theorem Good.keep (h:Good P tN tb tv) (k:KeepX tN P Q) (ht:∃ p,Tape Q tN tb tv p):Good Q tN tb tv:=by
 refine ⟨ht,?_⟩
 obtain ⟨a,c,e,hr,hd⟩:=h.tv.row
 exact ⟨a,c,e,⟨fun hne=>by
  obtain ⟨i,o,cs,h1,h2,h3⟩:=hr.at' hne
  exact ⟨i,o,cs,h1,k.at' i _ (hd i o h1) h2,h3⟩⟩,hd⟩
theorem Good.app (h:Good P tN tb tv) (X:List AObj):Good (P++X) tN tb tv:=by
 obtain ⟨p,hp⟩:=h.tape
 exact h.keep (KeepX.app _ _ _) ⟨p,by rw [ag (ah hp.at')]; exact hp.at',hp.le,hp.small⟩
theorem Good.lt (h:Good P tN tb tv):tN < P.length:=by
 obtain ⟨p,hp⟩:=h.tape
 exact ah hp.at'
theorem Good.next (h:Good P tN tb tv) (hb:b≤tN) {x:Int} (hx:1≤x) (hx2:x≤1000):∃ (r:Nat) (Q:List AObj) (nx:Nat→Nat),(r:Int) < x∧Good Q tN tb tv∧KeepX tN P Q∧Q.length=P.length∧((∀ w,nx w=w)∨(∀ w,nx w=min w tN))∧∀ w,xCall T 102 [.ptr (some (tN,0)),.int .i64 x] ⟨P,b,w⟩=some (.int .i64 r,⟨Q,b,nx w⟩):=by
 obtain ⟨p,hp⟩:=h.tape
 obtain ⟨r,p',nx,q1,q2,q3,q4⟩:=s102 hp h.tv hb hx hx2
 have hk:=KeepX.set tN P (tapeO tv p')
 exact ⟨r,_,nx,q1,h.keep hk ⟨p',by rw [a9,if_pos rfl,if_pos h.lt],q2,hp.small⟩,hk,by simp,q3,q4⟩
theorem Good.body (h:Good P tN tb tv) (hb:b≤tN) {st:Bool} {nm:Str} (hn:nm.length≤100) {most:Int} (hm:st=true→1≤most∧most≤6) (w:Nat) :
  ∃ m Q w',xCall T 101 [.ptr (some (tN,0)),.bool st,.str nm,.int .i64 most] ⟨P,b,w⟩=some (.agg m.cells,⟨Q,b,w'⟩)∧Good Q tN tb tv∧KeepX tN P Q∧(∀ n,n≤P.length→MOk n Q st nm m)∧min w tN≤w'∧w'≤w:=by
 obtain ⟨p,hp⟩:=h.tape
 have go:∀ {m:MethU} {Q:List AObj},Made P tN tb tv st nm Q m→Good Q tN tb tv∧KeepX tN P Q∧(∀ n,n≤P.length→MOk n Q st nm m):=fun hM=>⟨h.keep hM.keepX hM.tape,hM.keepX,fun n hn=>hM.mok hn⟩
 cases st with
 | false =>
  obtain ⟨m,Q,w',h1,h2,h3,h4⟩:=s101a hp h.tv hb hn (most:=most) w
  obtain ⟨g1,g2,g3⟩:=go h2
  exact ⟨m,Q,w',h1,g1,g2,g3,h3,h4⟩
 | true =>
  obtain ⟨m,Q,w',h1,h2,h3,h4⟩:=s101b hp h.tv hb hn (hm rfl).1 (hm rfl).2 w
  obtain ⟨g1,g2,g3⟩:=go h2
  exact ⟨m,Q,w',h1,g1,g2,g3,h3,h4⟩
end Go.Abs.AbsMake

namespace Go.Abs.AbsMake
open Go.Abs.AbsDesc Go.Abs.AbsHier
variable {os O P Q B:List AObj} {b w:Nat} {tN:Nat} {tb:List UInt8} {tv:AVal} {n:Nat}
def mainT:Str:=[77,97,105,110]
def fieldsM:List FieldU:=[⟨true,[115],[73]⟩,⟨true,[111],[76,65,59]⟩]
def fieldsA:List FieldU:=[⟨false,[102],[73]⟩,⟨false,[108],[74]⟩,⟨false,[110,101,120,116],[76,65,59]⟩]
def fieldsB:List FieldU:=[⟨false,[103],[73]⟩]
def insO (x:Int):InsU:=⟨x,0,0,[],[],[],[]⟩
def helpM (q:Nat) (x y:Int):MethU:=⟨true,[104,101,108,112],descII,4,1,[insO 21,insO x,insO y,insO 172],some (q,0),some 4,[],none,some 0,[],none,some 0⟩
def actsH:List Int:=[100,108,112]
def uMain (f m:Nat) (m1 m2:MethU):UnitU:=⟨mainT,objectT,fieldsM,some (f,0),some 2,[m1,m2],some (m,0),some 2⟩
def uA (f m:Nat) (m1:MethU):UnitU:=⟨[65],objectT,fieldsA,some (f,0),some 3,[m1],some (m,0),some 1⟩
def uB (f:Nat) (ms:List MethU) (a:Option (Nat × Nat)) (c:Option Nat):UnitU:=⟨[66],[65],fieldsB,some (f,0),some 1,ms,a,c⟩
def uOops:UnitU:=⟨[79,111,112,115],[84,104,114,111,119,97,98,108,101],[],none,some 0,[],none,some 0⟩
theorem helpM_mok {q:Nat} {x y:Int} (hq:n≤q) (h:P[q]? = some (.cells 7 ([insO 21,insO x,insO y,insO 172].flatMap InsU.cells))):MOk n P true [104,101,108,112] (helpM q x y):=by
 have hlt:=ah h
 have h0:(0:Nat)≤reachB:=bz _
 have hs:∀ z ∈ [insO 21,insO x,insO y,insO 172],z.cls=[]∧z.name=[]∧z.desc=[]∧z.text=[]:=by simp [insO]
 refine ⟨rfl,rfl,rfl,⟨by show (4:Nat)≤9223372036854775807; decide,(show descII.length≤big by decide),Row.mk0 (fun _=>rfl) h,by show (4:Nat)≤9223372036854775807; decide,fun i o e=>?_,fun z hz=>?_,⟨fun h=>absurd rfl h⟩,bz _,fun i o e=>(by cases e),fun z hz=>(by cases hz),⟨fun h=>absurd rfl h⟩,bz _,fun i o e=>(by cases e),fun z hz=>(by cases hz)⟩,
  ⟨fun i o e=>?_,fun i o e=>(by cases e),fun i o e=>(by cases e),fun z hz=>(by cases hz)⟩,⟨by show (4:Nat)≤140737488351232; decide,by show (4:Nat)≤140737488351232; decide,by show (4:Nat)≤140737488351232; decide,fun z hz=>?_,h0,fun z hz=>(by cases hz),h0,fun z hz=>(by cases hz)⟩,fun z hz=>(by cases hz)⟩
 ·simp only [helpM,ap,bt] at e; omega
 ·obtain ⟨h1,h2,h3,h4⟩:=hs z hz
  rw [h1,h2,h3,h4]; exact ⟨bz _,bz _,bz _,bz _⟩
 ·simp only [helpM,ap,bt] at e; omega
 ·obtain ⟨h1,h2,h3,h4⟩:=hs z hz
  unfold InsU.fits
  rw [h1,h2,h3,h4]; exact ⟨bz _,bz _,bz _,bz _⟩
def sk (m:MethU):Bool × Str × Str:=(m.st,m.name,m.desc)
structure Skel (L:List UnitU):Prop where
 traps:∀ u ∈ L,∀ m ∈ u.meths,∀ t ∈ m.traps,t.cls ∈ classesT
 ex:∃ u1 u2 u3 u4,L=[u1,u2,u3,u4] ∧
  (u1.name=mainT∧u1.super=objectT∧u1.fields=fieldsM∧u1.meths.map sk=[(true,[109,97,105,110],descII),(true,[104,101,108,112],descII)]) ∧
  (u2.name=[65]∧u2.super=objectT∧u2.fields=fieldsA∧u2.meths.map sk=[(false,[118],descII)]) ∧
  (u3.name=[66]∧u3.super=[65]∧u3.fields=fieldsB∧(u3.meths.map sk=[]∨u3.meths.map sk=[(false,[118],descII)])) ∧
  (u4.name=[79,111,112,115]∧u4.super=[84,104,114,111,119,97,98,108,101]∧u4.fields=[]∧u4.meths.map sk=[])
end Go.Abs.AbsMake

namespace Go.Abs.AbsMake
open Go.Abs.AbsDesc Go.Abs.AbsHier
variable {os O P Q B:List AObj} {b w:Nat} {tN:Nat} {tb:List UInt8} {tv:AVal} {n:Nat}
def unitsEnd (O:List AObj) (b w:Nat) (Q:List AObj) (W:Nat) (L:List UnitU):Option (AVal × Heap):=some (finish ⟨O,b,w⟩ (.slice (some (Q.length,0)) 4 (some 4)) ⟨Q++[.cells 4 (L.flatMap UnitU.cells)],b,W⟩)
section
attribute [-simp] getElem?_pos getElem?_neg List.all_eq_true sget
attribute [local simp] gz gs nltT nltF iltT iltF ileT nleT cf dy dz d7
theorem t48_0 (hb:b≤P.length) {u1 u2 u3:UnitU} (w:Nat) (c:AExit→St→Option (AVal × Heap)) :
  xK T code48T0 ⟨[(3,.var u1.cells),(4,.var u2.cells),(5,.var u3.cells)],⟨P,b,w⟩⟩ (k:=⟨c⟩)=c .ret ⟨[(2,.val (.slice (some (P.length,0)) 4 (some 4)))],⟨P++[.cells 4 ([u1,u2,u3,uOops].flatMap UnitU.cells)],b,w⟩⟩:=by
 simp (disch:=omega) [code48T0,UnitU.cells,uOops]
theorem t48_1 (h:Good P tN tb tv) (hb:b≤tN) {u1 u2:UnitU} {f:Nat} (w:Nat) :
  ∃ Q W ms a c,Good Q tN tb tv∧KeepX tN P Q∧min w tN≤W∧W≤w∧(ms=[]∧a=none∧c=some 0∨∃ m q,ms=[m]∧a=some (q,0)∧c=some 1∧P.length≤q∧Q[q]? = some (.cells 8 m.cells)∧∀ n,tN < n→n≤P.length→MOk n Q false [118] m) ∧
   ∀ (k:AExit→St→Option (AVal × Heap)),xK T code48T1 ⟨[(0,.val (.ptr (some (tN,0)))),(3,.var u1.cells),(4,.var u2.cells),(5,.var (uB f [] none (some 0)).cells)],⟨P,b,w⟩⟩ (k:=⟨k⟩) =
    k .ret ⟨[(2,.val (.slice (some (Q.length,0)) 4 (some 4)))],⟨Q++[.cells 4 ([u1,u2,uB f ms a c,uOops].flatMap UnitU.cells)],b,W⟩⟩:=by
 obtain ⟨r,P1,nx,h1,g1,k1,l1,hnx,e1⟩:=h.next hb (x:=3) (by decide) (by decide)
 have hlt:=h.lt
 have hnx2:min w tN≤nx w∧nx w≤w:=by rcases hnx with g | g <;> rw [g] <;> omega
 by_cases hr:r=0
 ·subst hr
  have e2:=fun c=>t48_0 (P:=P1) (b:=b) (by omega) (u1:=u1) (u2:=u2) (u3:=uB f [] none (some 0)) (nx w) c
  refine ⟨P1,nx w,[],none,some 0,g1,k1,hnx2.1,hnx2.2,.inl ⟨rfl,rfl,rfl⟩,fun k=>?_⟩
  generalize u1.cells=z1 at *
  generalize u2.cells=z2 at *
  simp (disch:=omega) [code48T1,e1,e2]
 ·obtain ⟨m,P2,w2,e2,g2,k2,hm,hw1,hw2⟩:=g1.body (st:=false) hb (nm:=[118]) (by decide) (most:=0) (fun h=>by cases h) (nx w)
  have hlt2:=g2.lt
  have hk3:=KeepX.app tN P2 [.cells 8 m.cells]
  have e3:=fun c=>t48_0 (P:=P2++[.cells 8 m.cells]) (b:=b) (by simp; omega) (u1:=u1) (u2:=u2) (u3:=uB f [m] (some (P2.length,0)) (some 1)) w2 c
  refine ⟨P2++[.cells 8 m.cells],w2,[m],some (P2.length,0),some 1,g2.app _,(k1.trans k2).trans hk3,by omega,by omega,.inr ⟨m,P2.length,rfl,rfl,rfl,(k1.trans k2).len,by rw [dh]; rfl,fun n hn0 hn=>((hm n (by omega)).keep hk3 hn0)⟩,fun k=>?_⟩
  ·have hr2:(0:Int) < r:=by omega
   have hml:m.cells.length=8:=rfl
   have htk:List.take 8 m.cells=m.cells:=rfl
   generalize ([u1,u2,uB f [m] (some (P2.length,0)) (some 1),uOops].flatMap UnitU.cells)=R at e3 ⊢
   have hc3:(uB f [m] (some (P2.length,0)) (some 1)).cells=[.str [66],.str [65],.slice (some (f,0)) 1 (some 1),.slice (some (P2.length,0)) 1 (some 1)]:=rfl
   have hc4:(uB f [] none (some 0)).cells=[.str [66],.str [65],.slice (some (f,0)) 1 (some 1),.slice none 0 (some 0)]:=rfl
   rw [hc3] at e3
   rw [hc4]
   generalize u1.cells=z1 at *
   generalize u2.cells=z2 at *
   generalize m.cells=z at *
   simp (disch:=omega) [code48T1,e1,hr2,e2,hml,htk,e3]
end
end Go.Abs.AbsMake

namespace Go.Abs.AbsMake
open Go.Abs.AbsDesc Go.Abs.AbsHier
variable {os O P Q B:List AObj} {b w:Nat} {tN:Nat} {tb:List UInt8} {tv:AVal} {n:Nat}
def RowIs {α:Type} (Q:List AObj) (n e:Nat) (f:α→List AVal) (L:List α) (a:Option (Nat × Nat)):Prop:=L=[]∧a=none∨∃ q,a=some (q,0)∧n≤q∧Q[q]? = some (.cells e (L.flatMap f))
theorem RowIs.row {α:Type} {e:Nat} {f:α→List AVal} {L:List α} {a:Option (Nat × Nat)} (hf:∀ x,(f x).length=e) (h:RowIs Q n e f L a):Row Q e f L a∧under Q.length a∧over n a:=by
 rcases h with ⟨rfl,rfl⟩ | ⟨q,rfl,h1,h2⟩
 ·exact ⟨⟨fun h=>absurd rfl h⟩,fun i o e=>(by cases e),fun i o e=>(by cases e)⟩
 ·refine ⟨Row.mk0 hf h2,fun i o e=>?_,fun i o e=>?_⟩
  ·simp only [ap,bt] at e; have:=ah h2; omega
  ·simp only [ap,bt] at e; omega
theorem unit_is {u:UnitU} (hn:u.name.length≤100) (hs:u.super.length≤100) (hf:RowIs Q n 3 FieldU.cells u.fields u.fa) (hfl:u.fields.length≤100) (hfs:∀ x ∈ u.fields,x.name.length≤100∧x.desc.length≤100)
  (hm:RowIs Q n 8 MethU.cells u.meths u.ma) (hml:u.meths.length≤100) (hms:∀ x ∈ u.meths,∃ st nm,MOk n Q st nm x) (hcf:∀ k,u.fc=some k→u.fields.length≤k) (hcm:∀ k,u.mc=some k→u.meths.length≤k):u.ok Q∧u.fits∧u.over n:=by
 obtain ⟨f1,f2,f3⟩:=RowIs.row (f:=FieldU.cells) (fun _=>rfl) hf
 obtain ⟨m1,m2,m3⟩:=RowIs.row (f:=MethU.cells) (fun _=>rfl) hm
 have r:∀ {x:Nat},x≤100→x≤reachB:=fun h=>short_reach (by omega)
 exact ⟨⟨short_big hn,short_big hs,f1,short_big hfl,f2,fun x hx=>⟨short_big (hfs x hx).1,short_big (hfs x hx).2⟩,m1,short_big hml,m2,fun x hx=>by obtain ⟨_,_,h⟩:=hms x hx; exact h.ok⟩,
  ⟨r hn,r hs,r hfl,fun x hx=>⟨r (hfs x hx).1,r (hfs x hx).2⟩,r hml,fun x hx=>(by obtain ⟨_,_,h⟩:=hms x hx; exact h.fits),⟨hcf,hcm⟩⟩,
  ⟨f3,m3,fun x hx=>by obtain ⟨_,_,h⟩:=hms x hx; exact h.over⟩⟩
theorem one100 {x:UInt8}:([x]:Str).length≤100:=by show 1≤100; decide
theorem nm100:mainT.length≤100∧objectT.length≤100:=by decide
theorem fs100:(fieldsM.length≤100∧∀ x ∈ fieldsM,x.name.length≤100∧x.desc.length≤100)∧(fieldsA.length≤100∧∀ x ∈ fieldsA,x.name.length≤100∧x.desc.length≤100)∧(fieldsB.length≤100∧∀ x ∈ fieldsB,x.name.length≤100∧x.desc.length≤100):=by
 refine ⟨⟨by decide,fun x hx=>?_⟩,⟨by decide,fun x hx=>?_⟩,by decide,fun x hx=>?_⟩
 ·simp only [fieldsM,ba,b8,or_false] at hx
  rcases hx with rfl | rfl <;> exact ⟨by show (_:Nat)≤100; decide,by show (_:Nat)≤100; decide⟩
 ·simp only [fieldsA,ba,b8,or_false] at hx
  rcases hx with rfl | rfl | rfl <;> exact ⟨by show (_:Nat)≤100; decide,by show (_:Nat)≤100; decide⟩
 ·simp only [fieldsB,ba,b8,or_false] at hx
  subst hx; exact ⟨by show (_:Nat)≤100; decide,by show (_:Nat)≤100; decide⟩
theorem s48_run (h:Good O tN tb tv) (hb:b≤tN):∃ (Q:List AObj) (W:Nat) (L:List UnitU),Good Q tN tb tv∧KeepX tN O Q∧tN≤W∧L.length=4∧Skel L∧(∀ u ∈ L,u.ok Q∧u.fits∧u.over O.length)∧∀ w,xCall T 48 [.ptr (some (tN,0))] ⟨O,b,w⟩=unitsEnd O b w Q W L:=by
 have hlt:=h.lt
 have g1:=h.app [.cells 3 (fieldsM.flatMap FieldU.cells)]
 have k1:=KeepX.app tN O [.cells 3 (fieldsM.flatMap FieldU.cells)]
 obtain ⟨m1,P2,w2,e2,g2,k2,hm1,hw2,hw2'⟩:=g1.body (st:=true) hb (nm:=[109,97,105,110]) (by decide) (most:=6) (fun _=>⟨by decide,by decide⟩) O.length
 obtain ⟨r1,P3,nx1,h3,g3,k3,l3,hnx3,e3⟩:=g2.next hb (x:=7) (by decide) (by decide)
 have g3b:=g3.app [.cells 1 (actsH.map (AVal.int .u8))]
 have k3b:=KeepX.app tN P3 [.cells 1 (actsH.map (AVal.int .u8))]
 obtain ⟨r2,P4,nx2,h4,g4,k4,l4,hnx4,e4⟩:=g3b.next hb (x:=3) (by decide) (by decide)
 obtain ⟨y,hy⟩:=bytes_get actsH (r:=r2) (by simp only [actsH,bp,a7]; omega)
 have hP3:=g3.lt
 have hP4:=g4.lt
 have hy4:P4[P3.length]? = some (.cells 1 (actsH.map (AVal.int .u8))):=k4.at' _ _ (by omega) (by rw [dh]; rfl)
 obtain ⟨x,hx⟩:∃ x:Int,x=IntKind.u8.wrap (2+(r1:Int)):=⟨_,rfl⟩
 obtain ⟨X5,hX5⟩:∃ X,X=[AObj.cells 7 ([insO 21,insO x,insO y,insO 172].flatMap InsU.cells),AObj.cells 8 ([m1,helpM P4.length x y].flatMap MethU.cells)]:=⟨_,rfl⟩
 have g5:=g4.app X5
 have k5:=KeepX.app tN P4 X5
 have g6:=g5.app [.cells 3 (fieldsA.flatMap FieldU.cells)]
 have k6:=KeepX.app tN (P4++X5) [.cells 3 (fieldsA.flatMap FieldU.cells)]
 obtain ⟨m2,P7,w3,e7,g7,k7,hm2,hw3,hw3'⟩:=g6.body (st:=false) hb (nm:=[118]) (by decide) (most:=0) (fun h=>by cases h) (nx2 (nx1 w2))
 have g8:=g7.app [.cells 8 m2.cells]
 have k8:=KeepX.app tN P7 [.cells 8 m2.cells]
 have g9:=g8.app [.cells 3 (fieldsB.flatMap FieldU.cells)]
 have k9:=KeepX.app tN (P7++[.cells 8 m2.cells]) [.cells 3 (fieldsB.flatMap FieldU.cells)]
 obtain ⟨Q,W,ms,a,c,gQ,kQ,hW1,hW2,hms,e9⟩:=t48_1 g9 hb (u1:=uMain O.length (P4.length+1) m1 (helpM P4.length x y)) (u2:=uA (P4.length+2) P7.length m2) (f:=P7.length+1) w3
 have hP7:=g7.lt
 have hlen5:(P4++X5).length=P4.length+2:=by rw [hX5]; simp
 have n1:tN≤nx1 w2:=by rcases hnx3 with g | g <;> rw [g] <;> omega
 have n2:tN≤nx2 (nx1 w2):=by rcases hnx4 with g | g <;> rw [g] <;> omega
 refine ⟨Q,W,[uMain O.length (P4.length+1) m1 (helpM P4.length x y),uA (P4.length+2) P7.length m2,uB (P7.length+1) ms a c,uOops],gQ,((((((((k1.trans k2).trans k3).trans k3b).trans k4).trans k5).trans k6).trans k7).trans (k8.trans k9)).trans kQ,by omega,rfl,?_,?_,fun w=>?_⟩
 ·have a1:=hm1 0 (bz _)
  have a2:=hm2 0 (bz _)
  have b1:sk m1=(true,[109,97,105,110],descII):=by unfold sk; rw [a1.st,a1.name,a1.desc]
  have b2:sk m2=(false,[118],descII):=by unfold sk; rw [a2.st,a2.name,a2.desc]
  refine ⟨fun u hu m hm t ht=>?_,_,_,_,_,rfl,⟨rfl,rfl,rfl,?_⟩,⟨rfl,rfl,rfl,?_⟩,⟨rfl,rfl,rfl,?_⟩,rfl,rfl,rfl,rfl⟩
  ·simp only [ba,b8,or_false] at hu
   rcases hu with rfl | rfl | rfl | rfl
   ·simp only [uMain,ba,b8,or_false] at hm
    rcases hm with rfl | rfl
    ·exact a1.traps t ht
    ·cases ht
   ·simp only [uA,ba,b8,or_false] at hm
    subst hm; exact a2.traps t ht
   ·rcases hms with ⟨rfl,_,_⟩ | ⟨m',q,rfl,_,_,_,_,h5⟩
    ·cases hm
    ·simp only [uB,ba,b8,or_false] at hm
     subst hm
     exact (h5 (tN+1) (by omega) (by simp only [bc]; omega)).traps t ht
   ·cases hm
  ·show [sk m1,sk (helpM P4.length x y)]=_
   rw [b1]; rfl
  ·show [sk m2]=_
   rw [b2]
  ·rcases hms with ⟨rfl,_,_⟩ | ⟨m,q,rfl,_,_,_,_,h5⟩
   ·exact .inl rfl
   ·right
    have a3:=h5 (tN+1) (by omega) (by simp only [bc]; omega)
    show [sk m]=_
    unfold sk; rw [a3.st,a3.name,a3.desc]
 ·have kB:=((((((k3.trans k3b).trans k4).trans k5).trans k6).trans k7).trans (k8.trans k9)).trans kQ
  have kC:=((k6.trans k7).trans (k8.trans k9)).trans kQ
  have kD:=(k7.trans (k8.trans k9)).trans kQ
  have kE:=(k8.trans k9).trans kQ
  have kF:=k9.trans kQ
  have hO1:O.length+1≤P2.length:=by have:=k2.len; simpa using this
  have hO3:O.length+1≤P4.length:=by have:=k3.len; have:=k3b.len; have:=k4.len; omega
  have hO7:O.length+1≤P7.length:=by have:=k7.len; simp only [bc,hlen5] at this; have:=hlen5; simp only [bc] at this; omega
  have q1:Q[O.length]? = some (.cells 3 (fieldsM.flatMap FieldU.cells)):=(k2.trans kB).at' _ _ (by omega) (by rw [dh]; rfl)
  have q2:Q[P4.length]? = some (.cells 7 ([insO 21,insO x,insO y,insO 172].flatMap InsU.cells)):=kC.at' _ _ (by omega) (by rw [dh,hX5]; rfl)
  have q3:Q[P4.length+1]? = some (.cells 8 ([m1,helpM P4.length x y].flatMap MethU.cells)):=kC.at' _ _ (by omega) (by rw [f0,hX5]; rfl)
  have q4:Q[P4.length+2]? = some (.cells 3 (fieldsA.flatMap FieldU.cells)):=kD.at' _ _ (by omega) (by rw [← hlen5,dh]; rfl)
  have q5:Q[P7.length]? = some (.cells 8 ([m2].flatMap MethU.cells)):=kF.at' _ _ (by omega) (by rw [dh]; simp)
  have q6:Q[P7.length+1]? = some (.cells 3 (fieldsB.flatMap FieldU.cells)):=kQ.at' _ _ (by omega) (by rw [bh,f0]; rfl)
  have a1:=(hm1 O.length (by simp)).keep kB hlt
  have a2:=(hm2 O.length (by rw [bc,hlen5]; omega)).keep kE hlt
  have a3:=helpM_mok (n:=O.length) (by omega) q2
  intro u hu
  simp only [ba,b8,or_false] at hu
  rcases hu with rfl | rfl | rfl | rfl
  ·refine unit_is nm100.1 nm100.2 (.inr ⟨_,rfl,aj _,q1⟩) fs100.1.1 fs100.1.2 (.inr ⟨_,rfl,by omega,q3⟩) (by show 2≤100; decide) (fun z hz=>?_) (fun k hk=>by cases hk; exact aj _) (fun k hk=>by cases hk; exact aj _)
   simp only [uMain,ba,b8,or_false] at hz
   rcases hz with rfl | rfl
   ·exact ⟨_,_,a1⟩
   ·exact ⟨_,_,a3⟩
  ·refine unit_is one100 nm100.2 (.inr ⟨_,rfl,by omega,q4⟩) fs100.2.1.1 fs100.2.1.2 (.inr ⟨_,rfl,by omega,q5⟩) (by show 1≤100; decide) (fun z hz=>?_) (fun k hk=>by cases hk; exact aj _) (fun k hk=>by cases hk; exact aj _)
   simp only [uA,ba,b8,or_false] at hz
   subst hz
   exact ⟨_,_,a2⟩
  ·rcases hms with ⟨rfl,rfl,rfl⟩ | ⟨m,q,rfl,rfl,rfl,h3,h4,h5⟩
   ·exact unit_is one100 one100 (.inr ⟨_,rfl,by omega,q6⟩) fs100.2.2.1 fs100.2.2.2 (.inl ⟨rfl,rfl⟩) (by show 0≤100; decide) (fun z hz=>by cases hz) (fun k hk=>by cases hk; exact aj _) (fun k hk=>by cases hk; exact aj _)
   ·have h3':O.length+1≤q:=by simp only [bc] at h3; omega
    refine unit_is one100 one100 (.inr ⟨_,rfl,by omega,q6⟩) fs100.2.2.1 fs100.2.2.2 (.inr ⟨_,rfl,by omega,by rw [h4]; simp [uB]⟩) (by show 1≤100; decide) (fun z hz=>?_) (fun k hk=>by cases hk; exact aj _) (fun k hk=>by cases hk; exact aj _)
    simp only [uB,ba,b8,or_false] at hz
    subst hz
    exact ⟨_,_,h5 O.length hlt (by simp only [bc]; omega)⟩
  ·exact unit_is (by decide) (by decide) (.inl ⟨rfl,rfl⟩) (by decide) (by decide) (.inl ⟨rfl,rfl⟩) (by decide) (fun z hz=>by cases hz) (fun k hk=>by cases hk; exact aj _) (fun k hk=>by cases hk; exact aj _)
 ·unfold unitsEnd
  subst hX5
  simp only [actsH,cr,gg] at e4 hy hy4
  have hml:m1.cells.length=8:=rfl
  have htk:List.take 8 m1.cells=m1.cells:=rfl
  have hml2:m2.cells.length=8:=rfl
  have htk2:List.take 8 m2.cells=m2.cells:=rfl
  have hc1:(uMain O.length (P4.length+1) m1 (helpM P4.length x y)).cells=[.str mainT,.str objectT,.slice (some (O.length,0)) 2 (some 2),.slice (some (P4.length+1,0)) 2 (some 2)]:=rfl
  have hc2:(uA (P4.length+2) P7.length m2).cells=[.str [65],.str objectT,.slice (some (P4.length+2,0)) 3 (some 3),.slice (some (P7.length,0)) 1 (some 1)]:=rfl
  have hc3:(uB (P7.length+1) [] none (some 0)).cells=[.str [66],.str [65],.slice (some (P7.length+1,0)) 1 (some 1),.slice none 0 (some 0)]:=rfl
  rw [hc1,hc2,hc3] at e9
  generalize ([uMain O.length (P4.length+1) m1 (helpM P4.length x y),uA (P4.length+2) P7.length m2,uB (P7.length+1) ms a c,uOops].flatMap UnitU.cells)=R at e9 ⊢
  simp only [fieldsM,fieldsA,fieldsB,cg,List.flatMap_nil,FieldU.cells,b9,b0,ig,bh,bp,a7,dc,Nat.reduceAdd,insO,InsU.cells,MethU.cells,helpM,mainT,objectT,descII] at e2 e4 e7 e9 ⊢
  simp (disch:=omega) [-getElem?_pos,-getElem?_neg,-List.all_eq_true,gz,gs,nltT,nltF,iltT,iltF,ileT,nleT,cf,-sget,dy,dz,d7,-finish,az t48,code48,code48T4,code48T3,code48T2,e2,e3,e4,hy,hy4,e7,e9,hml,htk,hml2,htk2,← hx]
end Go.Abs.AbsMake

namespace Go.Abs.AbsMake
open Go.Abs.AbsDesc Go.Abs.AbsHier
variable {os O P Q B:List AObj} {b w:Nat} {tN:Nat} {tb:List UInt8} {tv:AVal} {n:Nat}
theorem sk_ren (f:Nat→Nat):∀ L:List MethU,(L.map (MethU.ren f)).map sk=L.map sk
 | []=>rfl
 | m :: L=>by simp only [cr,sk_ren f L]; rfl
theorem Skel.ren {L:List UnitU} (h:Skel L) (f:Nat→Nat):Skel (L.map (UnitU.ren f)):=by
 obtain ⟨u1,u2,u3,u4,rfl,h1,h2,h3,h4⟩:=h.ex
 have e:∀ u:UnitU,(u.ren f).meths.map sk=u.meths.map sk:=fun u=>sk_ren f u.meths
 have ht:∀ u ∈ [u1,u2,u3,u4].map (UnitU.ren f),∀ m ∈ u.meths,∀ t ∈ m.traps,t.cls ∈ classesT:=fun u hu m hm t htt=>by
  obtain ⟨v,hv,rfl⟩:=ed.1 hu
  obtain ⟨m',hm',rfl⟩:=ed.1 hm
  exact h.traps v hv m' hm' t htt
 refine ⟨ht,?_⟩
 exact ⟨_,_,_,_,rfl,⟨h1.1,h1.2.1,h1.2.2.1,by rw [e]; exact h1.2.2.2⟩,⟨h2.1,h2.2.1,h2.2.2.1,by rw [e]; exact h2.2.2.2⟩,⟨h3.1,h3.2.1,h3.2.2.1,by rw [e]; exact h3.2.2.2⟩,h4.1,h4.2.1,h4.2.2.1,by rw [e]; exact h4.2.2.2⟩
theorem s48o (h:Good O tN tb tv) (hb:b≤tN) (w:Nat):∃ a c L O' w',xCall T 48 [.ptr (some (tN,0))] ⟨O,b,w⟩=some (.slice a 4 c,⟨O',b,w'⟩)∧L.length=4∧Row O' 4 UnitU.cells L a∧(∀ u ∈ L,u.ok O'∧u.fits∧u.over O.length)∧under O'.length a∧Skel L∧KeepX tN O O'∧min w tN≤w'∧w'≤w:=by
 obtain ⟨Q,W,L,gQ,kQ,hW,hL,hS,hu,hx⟩:=s48_run h hb
 rw [hx w]
 unfold unitsEnd
 have hlen:=kQ.len
 have hv:(AVal.slice (some (Q.length,0)) 4 (some 4)).under (⟨O,b,w⟩:Heap).size=false:=by
  have:¬ Q.length < O.length:=by omega
  simp [AVal.under,Heap.size,this]
 have hRow:Row (Q++[.cells 4 (L.flatMap UnitU.cells)]) 4 UnitU.cells L (some (Q.length,0)):=Row.mk0 (fun _=>rfl) (by rw [dh]; rfl)
 have hok:∀ u ∈ L,u.ok (Q++[.cells 4 (L.flatMap UnitU.cells)]):=fun u hm=>(hu u hm).1.pre (Pre.app _ _)
 rcases finish_cases (h:=⟨Q++[.cells 4 (L.flatMap UnitU.cells)],b,W⟩) hv with ⟨w',h1,h2⟩ | ⟨h1,f,I,X,h2,h3,h4⟩
 ·refine ⟨some (Q.length,0),some 4,L,_,w',by rw [h1],hL,hRow,fun u hm=>⟨hok u hm,(hu u hm).2⟩,fun i o e=>?_,hS,kQ.trans (KeepX.app _ _ _),?_,?_⟩
  ·simp only [ap,bt] at e; simp; omega
  ·rcases h2 with h2 | ⟨h2,_⟩
   ·simp only at h2; omega
   ·simp only at h2; omega
  ·rcases h2 with h2 | ⟨h2,_⟩
   ·simp only at h2; omega
   ·simp only at h2; omega
 ·have hin:inI I (some (Q.length,0)):=fun i o e=>by
   simp only [ap,bt] at e
   rw [← e.1]; exact h4 _ (by simp [AVal.ids]) hlen
  have hR2:=h3.row (F':=UnitU.cells) (g:=UnitU.ren f) hRow hin fun u=>ren_unitU u
  refine ⟨renA f (some (Q.length,0)),some 4,L.map (UnitU.ren f),_,w,by rw [h2,ren_sl],by simpa using hL,hR2,fun u hm=>?_,h3.under hin (fun i o e=>?_),hS.ren f,KeepX.app _ _ _,eq ..,aj _⟩
  ·obtain ⟨v,hv,rfl⟩:=ed.1 hm
   exact ⟨(hok v hv).move h3 (hu v hv).2.2 (h3.ids hRow hin hv),(hu v hv).2.1.ren,(hu v hv).2.2.ren h3.up⟩
  ·simp only [ap,bt] at e; simp; omega
theorem s48 (h:Good O tN tb tv) (hb:b≤tN) (w:Nat):∃ a c L O' w',xCall T 48 [.ptr (some (tN,0))] ⟨O,b,w⟩=some (.slice a 4 c,⟨O',b,w'⟩)∧L.length=4∧Row O' 4 UnitU.cells L a∧(∀ u ∈ L,u.ok O'∧u.fits)∧under O'.length a∧Skel L∧KeepX tN O O'∧min w tN≤w'∧w'≤w:=by
 obtain ⟨a,c,L,O',w',h1,h2,h3,h4,h5⟩:=s48o h hb w
 exact ⟨a,c,L,O',w',h1,h2,h3,fun u hu=>⟨(h4 u hu).1,(h4 u hu).2.1⟩,h5⟩
end Go.Abs.AbsMake

namespace Go.Abs.AbsMake
open Go.Abs.AbsDesc Go.Abs.AbsHier
end Go.Abs.AbsMake

namespace Go.Abs.AbsMake
open Go.Abs.AbsDesc Go.Abs.AbsHier
section
variable {S:List (Str × Str)}
end
end Go.Abs.AbsMake

namespace Go.Abs.AbsOrd
open Go.Abs.AbsDesc Go.Abs.AbsHier
open Go.Abs.AbsMake hiding T sub
variable {os O:List AObj} {b w:Nat}
theorem subH:∀ g f,AbsHier.T g=some f→AbsOrd.T g=some f:=fun g f h=>AbsOrd.sub g f (AbsMake.sub g f h)
end Go.Abs.AbsOrd

namespace Go.Abs.AbsHier
open Go.Abs.AbsDesc
variable {os O:List AObj} {b w:Nat}
end Go.Abs.AbsHier

namespace Go.Abs.AbsHier
open Go.Abs.AbsDesc
variable {os O:List AObj} {b w:Nat}
theorem ids_slice {n m:Nat} {a:Option (Nat × Nat)} {c:Option Nat} (h:under n a):∀ i ∈ (AVal.slice a m c).ids,i < n:=by
 cases a with
 | none=>simp [AVal.ids]
 | some p=>obtain ⟨j,o⟩:=p; simp only [AVal.ids,bo]; rintro i rfl; exact h _ _ rfl
end Go.Abs.AbsHier

namespace Go.Abs.AbsHier
open Go.Abs.AbsDesc
variable {os O H:List AObj} {b w:Nat}
theorem i8 {α:Type} {L:List α} {i:Nat} {x:α} (h:L[i]? = some x):L.drop i=x :: L.drop (i+1):=by
 have:=ah h
 rw [ak this] at h
 rw [List.drop_eq_getElem_cons this,dp h]
def fieldAt (L:List FieldU) (n d:Str):Option FieldU:=L.find? fun x=>decide (x.name=n) && decide (x.desc=d)
end Go.Abs.AbsHier

namespace Go.Abs.AbsHier
open Go.Abs.AbsDesc
variable {os O H:List AObj} {b w:Nat}
structure Units (O:List AObj) (W:List UnitU) (a:Option (Nat × Nat)):Prop where
 r:Row O 4 UnitU.cells W a
 n:W.length≤200
 ok:∀ u ∈ W,u.ok O
theorem methO_pre (O:List AObj) (q:Option (List Str × Str)):Pre O (methO O q):=by
 unfold methO
 split
 ·exact Pre.app _ _
 ·exact Pre.refl _
end Go.Abs.AbsHier

namespace Go.Abs.AbsHier
open Go.Abs.AbsDesc
variable {os O H:List AObj} {b w:Nat}
end Go.Abs.AbsHier

namespace Go.Abs.AbsHier
open Go.Abs.AbsDesc
variable {os O H:List AObj} {b w:Nat}
end Go.Abs.AbsHier

namespace Go.Abs.AbsHier
open Go.Abs.AbsDesc
variable {os O H:List AObj} {b w:Nat}
end Go.Abs.AbsHier

namespace Go.Abs.AbsHier
open Go.Abs.AbsDesc
variable {os O H:List AObj} {b w:Nat}
end Go.Abs.AbsHier

namespace Go.Abs.AbsHier
open Go.Abs.AbsDesc
variable {os O H:List AObj} {b w:Nat}
end Go.Abs.AbsHier

namespace Go.Abs
variable {α:Type} {e:Nat} {f:α→List AVal} {O P:List AObj} {A:List α} {v:AVal} {b:Nat}
structure Acc (e:Nat) (f:α→List AVal) (O:List AObj) (A:List α) (P:List AObj) (v:AVal):Prop where
 pre:Pre O P
 val:(A=[]∧v = .slice none 0 (some 0))∨(A≠[]∧∃ i,O.length≤i∧v = .slice (some (i,0)) A.length none∧P[i]? = some (.cells e (A.flatMap f)))
theorem Acc.nil:Acc e f O [] O (.slice none 0 (some 0)):=⟨Pre.refl _,.inl ⟨rfl,rfl⟩⟩
def newV (n:Nat) (A:List α):AVal:=if A=[] then .slice none 0 (some 0) else .slice (some (n,0)) A.length none
def newO (e:Nat) (f:α→List AVal) (O:List AObj) (A:List α):List AObj:=if A=[] then O else O++[.cells e (A.flatMap f)]
theorem newO_pre:Pre O (newO e f O A):=by
 unfold newO
 split
 ·exact Pre.refl _
 ·exact Pre.app _ _
def newA (n:Nat) (A:List α):Option (Nat × Nat):=if A=[] then none else some (n,0)
def newC (A:List α):Option Nat:=if A=[] then some 0 else none
theorem newV_eq (n:Nat) (A:List α):newV n A = .slice (newA n A) A.length (newC A):=by
 unfold newV newA newC
 split
 ·rename_i h; rw [h]; rfl
 ·rfl
theorem new_row (hf:∀ y,(f y).length=e):Row (newO e f O A) e f A (newA O.length A):=by
 unfold newO newA
 split
 ·rename_i h; subst h; exact ⟨fun h=>absurd rfl h⟩
 ·exact Row.mk0 hf (by rw [dh]; rfl)
def Keeps (P P':List AObj) (n:Nat) (v:AVal):Prop:=∀ (k:Nat) (o:AObj),P[k]? = some o→v ≠ .slice (some (k,0)) n none→P'[k]? = some o
theorem Acc.add (h:Acc e f O A P v) (hf:∀ y,(f y).length=e) (hb:b≤O.length) {by':Nat} (hl:(A.length+1)*by'≤140737488355328) (hl2:A.length≤1000000000) (x:α) :
  ∃ P' v',∃ nx:Nat→Nat,Acc e f O (A++[x]) P' v'∧(∀ w,O.length≤w→O.length≤nx w)∧((∀ w,nx w≤w∧(A≠[]→nx w < P.length))∧Keeps P P' A.length v∧v' = .slice (some (P.length+1,0)) (A.length+1) none)∧∀ w,aAppend e by' ⟨P++[.cells e (f x)],b,w⟩ v (.slice (some (P.length,0)) 1 (some 1))=some (v',⟨P',b,nx w⟩):=by
 have hz:∀ w,rowOf e ⟨P++[.cells e (f x)],b,w⟩ (.slice (some (P.length,0)) 1 (some 1))=some (f x):=fun w =>
  rowOfC (by show (P++[AObj.cells e (f x)])[P.length]? = _; rw [dh]; rfl) (by rw [hf,Nat.one_mul])
 have hs:(P++[AObj.cells e (f x)]).length=P.length+1:=by simp
 have he:(A++[x]).flatMap f=A.flatMap f++f x:=by simp
 have hlen:(A++[x]).length=A.length+1:=by simp
 have hne:A++[x]≠[]:=by simp
 have hpl:=h.pre.len
 rcases h.val with ⟨rfl,rfl⟩ | ⟨h1,i,h2,rfl,h4⟩
 ·refine ⟨P++[.cells e (f x),.cells e (f x)],.slice (some (P.length+1,0)) 1 none,id,⟨h.pre.trans (Pre.app _ _),.inr ⟨hne,P.length+1,by omega,by rw [hlen]; rfl,by rw [f0]; simp⟩⟩,fun w hw=>hw,⟨fun w=>⟨aj w,fun h=>absurd rfl h⟩,fun k o hk _=>by rw [ag (ah hk)]; exact hk,by simp⟩,fun w=>?_⟩
  unfold aAppend
  simp only [hz,rowOf0,aApp,alen]
  have q1:¬ (1:Nat)=0:=by decide
  have q2:(0+1)*by'≤140737488355328∧0+1≤9223372036854775807:=⟨by simpa using hl,by decide⟩
  simp only [eq_false q1,eq_true q2,if_false,if_true]
  simp [Heap.push,Heap.size]
 ·have hi:=ah h4
  have h5:(P++[AObj.cells e (f x)])[i]? = some (.cells e (A.flatMap f)):=by rw [ag hi]; exact h4
  have hfl:(A.flatMap f).length=A.length*e:=flat_len f e hf A
  have hz1:∀ w,rowOf e ⟨P++[.cells e (f x)],b,w⟩ (.slice (some (i,0)) A.length none)=some (A.flatMap f):=fun w=>rowOfC h5 hfl
  have hr:∀ w,rowIs ⟨P++[.cells e (f x)],b,w⟩ i e=true:=fun w=>by
   unfold rowIs Heap.get
   simp only [h5]
   simp
  refine ⟨P.set i .dead++[.cells e (f x),.cells e ((A++[x]).flatMap f)],.slice (some (P.length+1,0)) (A++[x]).length none,fun w=>min w i,⟨?_,.inr ⟨hne,P.length+1,by omega,rfl,?_⟩⟩,fun w hw=>by show O.length≤min w i; omega,⟨fun w=>⟨by show min w i≤w; omega,fun _=>by show min w i < P.length; omega⟩,fun k o hk hne=>by
   rw [ag (by rw [fw]; exact ah hk),al (fun e=>hne (by rw [e]))]; exact hk,by rw [hlen]⟩,fun w=>?_⟩
  ·exact (h.pre.set .dead h2).trans (Pre.app _ _)
  ·rw [ai (by simp)]
   simp
  ·unfold aAppend
   simp only [hz,hz1,aApp,alen]
   have q1:¬ (1:Nat)=0:=by decide
   have q2:(A.length+1)*by'≤140737488355328∧A.length+1≤9223372036854775807:=⟨hl,by omega⟩
   have q3:¬ (none:Option Nat)=some A.length:=by simp
   have q4:(⟨P++[AObj.cells e (f x)],b,w⟩:Heap).base≤i∧rowIs ⟨P++[AObj.cells e (f x)],b,w⟩ i e=true:=⟨by show b≤i; omega,hr w⟩
   simp only [eq_false q1,eq_true q2,eq_false q3,eq_true q4,if_false,if_true]
   simp only [Heap.push,Heap.put,Heap.size,List.set_append_left _ _ hi,fw,hs,he,hlen,bh,b9,b0]
theorem idsL_none {L:List AVal} (h:∀ x ∈ L,x.ids=[]):AVal.idsL L=[]:=by
 rw [idsL_flat,List.flatMap_eq_nil_iff]; exact h
theorem Acc.fin (h:Acc e f O A P v) (hi:∀ x,AVal.idsL (f x)=[]) (hr:∀ g x,AVal.renL g (f x)=f x) {w0 W:Nat} (hW:O.length≤W):finish ⟨O,b,w0⟩ v ⟨P,b,W⟩=(newV O.length A,⟨newO e f O A,b,w0⟩):=by
 have hia:AVal.idsL (A.flatMap f)=[]:=by
  refine idsL_none fun y hy=>?_
  obtain ⟨x,hx,hy⟩:=dj.1 hy
  have:=hi x
  rw [idsL_flat,List.flatMap_eq_nil_iff] at this
  exact this y hy
 have hra:∀ g,AVal.renL g (A.flatMap f)=A.flatMap f:=fun g=>by
  have:∀ L:List α,AVal.renL g (L.flatMap f)=L.flatMap f:=fun L=>by
   induction L with
   | nil=>rfl
   | cons x L ih=>rw [cg,renL_app,hr,ih]
  exact this A
 have hw2:(⟨O,b,w0⟩:Heap).size≤(⟨P,b,W⟩:Heap).wmin:=hW
 rcases h.val with ⟨rfl,rfl⟩ | ⟨h1,i,h2,rfl,h4⟩
 ·have hw3:¬ W < O.length:=by omega
  simp [finish,newV,newO,Heap.size,hw3,AVal.under]
 ·have hv:AVal.under (⟨O,b,w0⟩:Heap).size (.slice (some (i,0)) A.length none)=false:=by
   have:¬ i < O.length:=by omega
   simp [AVal.under,Heap.size,this]
  have hg:(⟨P,b,W⟩:Heap).get i=some (.cells e (A.flatMap f)):=h4
  have hreach:reach ⟨P,b,W⟩ (⟨O,b,w0⟩:Heap).size 1000 (AVal.slice (some (i,0)) A.length none).ids []=[i]:=by
   simp only [AVal.ids]
   rw [reach,if_neg (by show ¬ i < O.length; omega),if_neg (by simp),hg]
   simp only [db,gp,AObj.ids,hia,b0]
   rfl
  refine (finish_keep hw2 hv hreach fun j hj=>?_).trans ?_
  ·simp only [AVal.ids,cg,List.flatMap_nil,hg,db,gp,AObj.ids,hia,ig,ba,b8,or_false] at hj
   subst hj
   exact .inr (ef _)
  ·have key:∀ g:Nat→Nat,g i=O.length→((AVal.slice (some (i,0)) A.length none).ren g,(⟨O++[AObj.cells e (A.flatMap f)],b,w0⟩:Heap))=(newV O.length A,⟨newO e f O A,b,w0⟩):=fun g hg'=>by
    unfold newV newO
    rw [if_neg h1,if_neg h1]
    simp only [AVal.ren,hg']
   simp only [Heap.size,cr,gg,hg,db,gp,AObj.ren,hra]
   exact key _ ((if_neg (show ¬ i < O.length by omega)).trans (by simp [idxIn]))
end Go.Abs

namespace Go.Abs.AbsFlow
open Go.Abs.AbsDesc Go.Abs.AbsHier
open Go.Abs.AbsOrd hiding T sub
variable {os O:List AObj} {b w:Nat}
theorem subT:∀ g f,AbsHier.T g=some f→AbsFlow.T g=some f:=fun g f h=>AbsFlow.sub g f (AbsOrd.subH g f h)
def endsC (c:Int):Bool:=decide (c=167) || (decide (c=191) || (decide (c=172) || (decide (c=173) || (decide (c=176) || decide (c=177)))))
section
attribute [-simp] getElem?_pos getElem?_neg List.all_eq_true
attribute [local simp] gz gs nltT nltF iltT iltF ileT nleT cf
theorem s73 {c:Int} {h:Heap}:xCall T 73 [.int .u8 c] h=some (.bool (endsC c),h):=by
 obtain ⟨os,b,w⟩:=h
 unfold endsC
 by_cases c1:c=167
 ·subst c1; simp (disch:=omega) [az t73,code73]
 ·by_cases c2:c=191
  ·subst c2; simp (disch:=omega) [az t73,code73]
  ·by_cases c3:c=172
   ·subst c3; simp (disch:=omega) [az t73,code73]
   ·by_cases c4:c=173
    ·subst c4; simp (disch:=omega) [az t73,code73]
    ·by_cases c5:c=176
     ·subst c5; simp (disch:=omega) [az t73,code73]
     ·by_cases c6:c=177
      ·subst c6; simp (disch:=omega) [az t73,code73]
      ·simp (disch:=omega) [az t73,code73,c1,c2,c3,c4,c5,c6]
end
def inI (a lo hi:Int):Bool:=decide (lo≤a) && decide (a≤hi)
section
attribute [-simp] getElem?_pos getElem?_neg List.all_eq_true
attribute [local simp] gz gs nltT nltF iltT iltF ileT nleT cf
theorem s127 {a lo hi:Int} {h:Heap}:xCall T 127 [.int .i64 a,.int .i64 lo,.int .i64 hi] h=some (.bool (inI a lo hi),h):=by
 obtain ⟨os,b,w⟩:=h
 unfold inI
 by_cases c1:lo≤a
 ·by_cases c2:a≤hi <;> simp (disch:=omega) [az t127,code127,c1,c2]
 ·simp (disch:=omega) [az t127,code127,c1]
theorem s164 {a lo hi:Int} {h:Heap}:xCall T 164 [.int .i64 a,.int .i64 lo,.int .i64 hi] h=some (.bool (inI a lo hi),h):=by
 obtain ⟨os,b,w⟩:=h
 unfold inI
 by_cases c1:lo≤a
 ·by_cases c2:a≤hi <;> simp (disch:=omega) [az t164,code164,c1,c2]
 ·simp (disch:=omega) [az t164,code164,c1]
theorem s131 {m:MethU} {i:Int} {h:Heap} (hn:m.code.length≤reachB):xCall T 131 [.agg m.cells,.int .i64 i] h=some (.bool (inI i 0 (m.code.length - 1)),h):=by
 have hrb:reachB=140737488351232:=rfl
 have hcm:m.cells=[.bool m.st,.str m.name,.str m.desc,.int .i64 m.stack,.int .i64 m.locals,.slice m.ca m.code.length m.cc,.slice m.ta m.traps.length m.tc,.slice m.xa m.maps.length m.xc]:=rfl
 obtain ⟨os,b,w⟩:=h
 have h164:=fun a lo hi h=>s164 (a:=a) (lo:=lo) (hi:=hi) (h:=h)
 simp (disch:=omega) [az t131,code131,hcm,h164]
end
def shapeF (m:MethU) (x:InsU) (f:Int):Bool :=
 if f=0 then false else if f=2∨f=8 then inI x.n 0 (m.locals - 1 - (if x.op=22∨x.op=55 then 1 else 0)) else true
section
attribute [-simp] getElem?_pos getElem?_neg List.all_eq_true
attribute [local simp] gz gs nltT nltF iltT iltF ileT nleT cf
theorem s125 {m:MethU} {x:InsU} {f:Int} {h:Heap} (h0:0≤m.locals) (h1:m.locals≤64):xCall T 125 [.agg m.cells,.agg x.cells,.int .i64 f] h=some (.bool (shapeF m x f),h):=by
 have hcm:m.cells=[.bool m.st,.str m.name,.str m.desc,.int .i64 m.stack,.int .i64 m.locals,.slice m.ca m.code.length m.cc,.slice m.ta m.traps.length m.tc,.slice m.xa m.maps.length m.xc]:=rfl
 have hcx:x.cells=[.int .u8 x.op,.int .i64 x.n,.int .i64 x.m,.str x.cls,.str x.name,.str x.desc,.str x.text]:=rfl
 obtain ⟨os,b,w⟩:=h
 have h164:=fun a lo hi h=>s164 (a:=a) (lo:=lo) (hi:=hi) (h:=h)
 unfold shapeF
 by_cases c1:f=0
 ·by_cases d1:x.op=22
  ·simp (disch:=omega) [az t125,code125,hcm,hcx,c1,d1]
  ·by_cases d2:x.op=55
   ·simp (disch:=omega) [az t125,code125,hcm,hcx,c1,d1,d2]
   ·simp (disch:=omega) [az t125,code125,hcm,hcx,c1,d1,d2]
 ·by_cases c2:f=2
  ·subst c2
   by_cases d1:x.op=22
   ·simp (disch:=omega) [az t125,code125,hcm,hcx,c1,d1,h164]
   ·by_cases d2:x.op=55
    ·simp (disch:=omega) [az t125,code125,hcm,hcx,c1,d1,d2,h164]
    ·simp (disch:=omega) [az t125,code125,hcm,hcx,c1,d1,d2,h164]
  ·by_cases c3:f=8
   ·subst c3
    by_cases d1:x.op=22
    ·simp (disch:=omega) [az t125,code125,hcm,hcx,c1,d1,h164]
    ·by_cases d2:x.op=55
     ·simp (disch:=omega) [az t125,code125,hcm,hcx,c1,d1,d2,h164]
     ·simp (disch:=omega) [az t125,code125,hcm,hcx,c1,d1,d2,h164]
   ·by_cases d1:x.op=22
    ·simp (disch:=omega) [az t125,code125,hcm,hcx,c1,c2,c3,d1]
    ·by_cases d2:x.op=55
     ·simp (disch:=omega) [az t125,code125,hcm,hcx,c1,c2,c3,d1,d2]
     ·simp (disch:=omega) [az t125,code125,hcm,hcx,c1,c2,c3,d1,d2]
theorem s132 {x:MapU} {k:Nat} {i:Int} (hk:O[k]? = some (.cells 1 [.int .i64 i])) (w:Nat):xCall T 132 [.agg x.cells,.ptr (some (k,0))] ⟨O,b,w⟩=some (.bool (decide (x.at'=i)),⟨O,b,w⟩):=by
 have hcx:x.cells=[.int .i64 x.at',.slice x.la x.locals.length x.lc,.slice x.sa x.stack.length x.sc]:=rfl
 simp (disch:=omega) [az t132,code132,hcx,hk]
end
theorem s133 {L:List MapU} {a:Option (Nat × Nat)} {c:Option Nat} {k:Nat} {i:Int} (hR:Row O 3 MapU.cells L a) (hn:L.length≤reachB) (hk:O[k]? = some (.cells 1 [.int .i64 i])) :
  xCall T 133 [.slice a L.length c,.func 132 [] [.ptr (some (k,0))]] ⟨O,b,w⟩=some (.int .i64 (firstIx (fun x=>decide (x.at'=i)) L 0),⟨O,b,w⟩):=by
 have hrb:reachB=140737488351232:=rfl
 have hl:=loop_find (T:=T) (c:=code133L0) (fun x:MapU=>decide (x.at'=i)) L (fun j=>⟨[(0,.val (.slice a L.length c)),(1,.val (.func 132 [] [.ptr (some (k,0))])),(7,.val (.int .i64 L.length)),(8,.val (.int .i64 j))],⟨O,b,O.length⟩⟩)
  (fun j=>⟨[(4,.val (.int .i64 j))],⟨O,b,O.length⟩⟩) .ret (.exit 0) ⟨[],⟨O,b,O.length⟩⟩ ?_ (by simp) (by simp) (by simp [code133L0])
 ·rcases hl with ⟨h1,h2⟩ | ⟨j,x,h1,h2,h3,h4⟩
  ·rw [List.any_eq_false] at h1
   rw [ji _ L 0 fun x hx=>by simpa using h1 x hx]
   simp only [b7] at h2
   simp [dt T t133,code133,h2]
  ·rw [firstIx_at _ L 0 j x h1 h2 h3]
   simp only [b7] at h4
   simp [dt T t133,code133,h4]
 ·intro j x hx
  obtain ⟨bb,o,cs,rfl,hrow,hpart⟩:=hR.at' (ne_of_get hx)
  obtain ⟨p1,p2⟩:=hpart j x hx
  have hw:=wrap_next (get_lt hx) (by omega)
  have hi':(j:Int) < (L.length:Int):=by have:=get_lt hx; omega
  have hge:(0:Int)≤j:=by omega
  have hgx:=fun w=>s132 (b:=b) (x:=x) hk w
  by_cases hp:x.at'=i
  ·rw [decide_eq_true hp] at hgx
   simp [code133L0,hi',hge,hrow,p2,hgx,hp,p1]
  ·rw [decide_eq_false hp] at hgx
   simp [code133L0,hi',hge,hrow,p2,hgx,hp,hw,p1]
theorem firstIx_get {α:Type} (p:α→Bool):∀ (l:List α) (i:Nat),l.any p=true→∃ (j:Nat) (x:α),l[j]? = some x∧p x=true∧firstIx p l i=((i+j:Nat):Int)
 | [],_,h=>by simp at h
 | x :: l,i,h=>by
  by_cases hp:p x=true
  ·exact ⟨0,x,rfl,hp,by simp [firstIx,hp]⟩
  ·have hp:p x=false:=by simpa using hp
   rw [List.any_cons,hp,Bool.false_or] at h
   obtain ⟨j,y,h1,h2,h3⟩:=firstIx_get p l (i+1) h
   refine ⟨j+1,y,by simpa using h1,h2,?_⟩
   simp only [firstIx,hp,bj,if_false,h3]
   omega
def hasMap (m:MethU) (i:Int):Bool:=m.maps.any fun x=>decide (x.at'=i)
theorem underV {n:Nat} {a:Option (Nat × Nat)} {l:Nat} {c:Option Nat} (h:under n a):(AVal.slice a l c).under n=true:=by
 cases a with
 | none=>rfl
 | some p =>
  obtain ⟨i,o⟩:=p
  have:=h i o rfl
  simp [AVal.under,this]
section
attribute [-simp] getElem?_pos getElem?_neg List.all_eq_true
attribute [local simp] gz gs nltT nltF iltT iltF ileT nleT cf
theorem s71 {m:MethU} {i:Int} (hm:m.ok O) (hf:m.fits) (hb:b≤O.length) (w:Nat) :
  (hasMap m i=true∧∃ x ∈ m.maps,x.at'=i∧xCall T 71 [.agg m.cells,.int .i64 i] ⟨O,b,w⟩=some (.tuple [.agg x.cells,.bool true],⟨O,b,w⟩)) ∨
  (hasMap m i=false∧xCall T 71 [.agg m.cells,.int .i64 i] ⟨O,b,w⟩=some (.tuple [.agg [.int .i64 0,.slice none 0 (some 0),.slice none 0 (some 0)],.bool false],⟨O,b,w⟩)):=by
 have hrb:reachB=140737488351232:=rfl
 have hcm:m.cells=[.bool m.st,.str m.name,.str m.desc,.int .i64 m.stack,.int .i64 m.locals,.slice m.ca m.code.length m.cc,.slice m.ta m.traps.length m.tc,.slice m.xa m.maps.length m.xc]:=rfl
 have hka:(O++[AObj.cells 1 [.int .i64 i]])[O.length]? = some (.cells 1 [.int .i64 i]):=by rw [dh]; rfl
 have hr:=(Pre.app O [AObj.cells 1 [.int .i64 i]]).row hm.x
 have h133:=fun w=>s133 (b:=b) (w:=w) (c:=m.xc) hr hf.x hka
 cases e:hasMap m i with
 | false =>
  refine .inr ⟨rfl,?_⟩
  have h0:firstIx (fun x:MapU=>decide (x.at'=i)) m.maps 0 = -1:=ji _ _ 0 fun x hx=>by
   unfold hasMap at e
   rw [List.any_eq_false] at e
   simpa using e x hx
  rw [h0] at h133
  simp (disch:=omega) [az t71,code71,hcm,h133]
 | true =>
  refine .inl ⟨rfl,?_⟩
  unfold hasMap at e
  rw [List.any_eq_true] at e
  obtain ⟨j,x,hj,hx,hx2⟩:=firstIx_get _ m.maps 0 (by rw [List.any_eq_true]; exact e)
  have hx:x.at'=i:=by simpa using hx
  rw [hx2,dc] at h133
  have hjl:=ah hj
  have hxm:=hm.xok x (a8 hj)
  have hfx:=hf.x
  refine ⟨x,a8 hj,hx,?_⟩
  obtain ⟨p,o,cs,ha,hp,hpl,hcs,hv⟩:=gm hr hj
  rw [ha] at h133 hcm
  have hcx:x.cells=[.int .i64 x.at',.slice x.la x.locals.length x.lc,.slice x.sa x.stack.length x.sc]:=rfl
  have u1:=underV (l:=x.locals.length) (c:=x.lc) hxm.lu
  have u2:=underV (l:=x.stack.length) (c:=x.sc) hxm.su
  rw [hcx] at hv ⊢
  simp (disch:=omega) [az t71,code71,hcm,h133,hp,hv,u1,u2]
end
def formTab:List Int:=[1,1,1,1,1,1,1,1,1,1,1,0,0,0,0,0,3,4,5,0,6,2,2,0,0,2,0,0,0,0,0,0,0,0,0,0,0,0,0,0,0,0,0,0,0,0,1,0,0,0,1,1,0,0,2,2,0,0,2,0,0,0,0,0,0,0,0,0,0,0,0,0,0,0,0,0,0,0,0,1,0,0,0,1,1,0,0,1,0,1,0,0,0,0,0,1,1,1,0,0,1,1,0,0,1,1,0,0,1,1,0,0,1,1,0,0,1,1,0,0,1,1,1,1,1,1,1,1,1,1,1,1,8,1,0,0,1,0,0,0,0,0,0,0,0,1,0,0,1,0,0,0,0,7,7,7,7,7,7,7,7,7,7,7,7,7,7,7,0,0,0,0,1,1,0,0,1,1,6,6,6,6,6,0,6,0,0,6,9,6,1,1,6,6,0,0,0,0,7,7,0,0,0,0,0,0,0,0,0,0,0,0,0,0,0,0,0,0,0,0,0,0,0,0,0,0,0,0,0,0,0,0,0,0,0,0,0,0,0,0,0,0,0,0,0,0,0,0,0,0,0,0,0,0,0,0]
def formN (c:Int):Int:=formTab.getD c.toNat 0
theorem s165 {h:Heap}:xCall T 165 [] h=some (.agg (formTab.map (AVal.int .u8)),h) :=
 closed_run (f:=code165) t165 rfl 60 rfl (by decide +kernel) (h':=⟨[],0,0⟩) (by kernel_rfl) h
theorem s130 {c:Int} {h:Heap} (h0:0≤c) (h1:c < 256):xCall T 130 [.int .u8 c] h=some (.int .i64 (formN c),h):=by
 obtain ⟨os,b,w⟩:=h
 obtain ⟨k,rfl⟩:=eu h0
 have hl:formTab.length=256:=by decide +kernel
 have hk:k < formTab.length:=by omega
 have hx:formTab[k]? = some (formN (k:Nat)):=by
  unfold formN
  rw [Int.toNat_natCast,et,ak hk]; rfl
 have hr:∀ x ∈ formTab,0≤x∧x < 256:=by decide +kernel
 have hn:=hr _ (a8 hx)
 have h165:=fun h=>s165 (h:=h)
 generalize formN (k:Nat)=v at *
 have hm:(formTab.map (AVal.int .u8))[k]? = some (.int .u8 v):=by rw [co,hx]; rfl
 generalize formTab.map (AVal.int .u8)=X at *
 have hk2:(k:Int) < 256:=by omega
 simp (disch:=omega) [-getElem?_pos,-getElem?_neg,-List.all_eq_true,gz,gs,nltT,nltF,iltT,iltF,ileT,nleT,cf,az t130,code130,h165,hm,hk2]
end Go.Abs.AbsFlow

namespace Go.Abs.AbsFlow
open Go.Abs.AbsDesc Go.Abs.AbsHier
open Go.Abs.AbsOrd hiding T sub
variable {os O:List AObj} {b w:Nat}
def intC (n:Int):List AVal:=[.int .i64 n]
theorem intC_len (n:Int):(intC n).length=1:=rfl
theorem idsI (n:Int):AVal.idsL (intC n)=[]:=rfl
theorem renI (g:Nat→Nat) (n:Int):AVal.renL g (intC n)=intC n:=rfl
def formsL (L:List InsU):List Int:=L.map fun x=>formN x.op
section
attribute [-simp] getElem?_pos getElem?_neg List.all_eq_true
attribute [local simp] gz gs nltT nltF iltT iltF ileT nleT cf
theorem l126 {L:List InsU} {a:Option (Nat × Nat)} {c:Option Nat} (hL:Row O 7 InsU.cells L a) (ho:∀ x ∈ L,0≤x.op∧x.op < 256) (hb:b≤O.length) (hn:L.length≤100000):∀ (j i w:Nat) (A:List Int) (P:List AObj) (v:AVal),i+j=L.length→A.length≤i→O.length≤w→Acc 1 intC O A P v →
  ∃ P' v',∃ W:Nat,Acc 1 intC O (A++formsL (L.drop i)) P' v'∧O.length≤W∧∀ (k:AExit→St→Option (AVal × Heap)),
  xK T (.loop code126L0) ⟨[(3,.val v),(7,.val (.slice a L.length c)),(8,.val (.int .i64 L.length)),(9,.val (.int .i64 i))],⟨P,b,w⟩⟩ (k:=⟨k⟩)=k (.exit 0) ⟨[(3,.val v')],⟨P',b,W⟩⟩
 | 0,i,w,A,P,v,hi,hA,hw,h=>by
  refine ⟨P,v,w,?_,hw,fun k=>?_⟩
  ·rw [ei (by omega)]; simpa [formsL] using h
  ·rw [dk]
   simp (disch:=omega) [code126L0]
 | j+1,i,w,A,P,v,hi,hA,hw,h=>by
  obtain ⟨x,hx⟩:∃ x,L[i]? = some x:=⟨_,ak (by omega)⟩
  obtain ⟨p,o,cs,ha,hp,hpl,hcs,hv⟩:=gm (h.pre.row hL) hx
  subst ha
  obtain ⟨P1,v1,n1,h1,hn1,_,e1⟩:=h.add (b:=b) intC_len hb (by':=8) (by omega) (by omega) (formN x.op)
  have hdx:formsL (L.drop i)=formN x.op :: formsL (L.drop (i+1)):=by rw [i8 hx]; rfl
  have e2:((i+1:Nat):Int)=(i:Int)+1:=by omega
  have hs:intC (formN x.op)=[.int .i64 (formN x.op)]:=rfl
  rw [hs] at e1
  obtain ⟨o1,o2⟩:=ho x (a8 hx)
  have h130:=fun h=>s130 (h:=h) o1 o2
  obtain ⟨P',v',W,i1,i2,i3⟩:=l126 (c:=c) hL ho hb hn j (i+1) (n1 w) _ P1 v1 (by omega) (by simp; omega) (hn1 _ hw) h1
  refine ⟨P',v',W,?_,i2,fun k=>?_⟩
  ·rw [hdx]; simpa using i1
  ·have ih:=i3 k
   rw [e2] at ih
   have hcx:x.cells=[.int .u8 x.op,.int .i64 x.n,.int .i64 x.m,.str x.cls,.str x.name,.str x.desc,.str x.text]:=rfl
   rw [hcx] at hv
   rw [dk]
   generalize ACode.loop code126L0=LL at ih ⊢
   simp (disch:=omega) [-aAppend,code126L0,hp,hv,h130,e1,ih]
theorem s126 {m:MethU} (hm:m.ok O) (ho:∀ x ∈ m.code,0≤x.op∧x.op < 256) (hb:b≤O.length) (hn:m.code.length≤100000) :
  xCall T 126 [.agg m.cells] ⟨O,b,w⟩=some (newV O.length (formsL m.code),⟨newO 1 intC O (formsL m.code),b,w⟩):=by
 have hcm:m.cells=[.bool m.st,.str m.name,.str m.desc,.int .i64 m.stack,.int .i64 m.locals,.slice m.ca m.code.length m.cc,.slice m.ta m.traps.length m.tc,.slice m.xa m.maps.length m.xc]:=rfl
 obtain ⟨P',v',W,i1,i2,i3⟩:=l126 (c:=m.cc) hm.c ho hb hn m.code.length 0 O.length [] O _ (by omega) (by simp) (aj _) Acc.nil
 have hf:=i1.fin (b:=b) (w0:=w) idsI renI i2
 simp only [b7,List.drop_zero,b0] at i3 hf
 simp (disch:=omega) [-aAppend,-finish,az t126,code126,hcm,i3,hf]
end
end Go.Abs.AbsFlow

namespace Go.Abs.AbsFlow
open Go.Abs.AbsDesc Go.Abs.AbsHier
open Go.Abs.AbsOrd hiding T sub
variable {os O:List AObj} {b w:Nat}
theorem int_at {L:List Int} {a:Option (Nat × Nat)} {i:Nat} {x:Int} (h:Row O 1 intC L a) (hx:L[i]? = some x):∃ p o cs,a=some (p,o)∧O[p]? = some (.cells 1 cs)∧cs[o+i]? = some (.int .i64 x):=by
 obtain ⟨p,o,cs,h1,h2,h3,h4,h5⟩:=gm h hx
 have h6:=Go.Abs.AbsMake.take_get (k:=0) h5 (by decide)
 refine ⟨p,o,cs,h1,h2,?_⟩
 rw [Nat.mul_one,fm] at h6
 rw [h6]; rfl
def inM (m:MethU) (i:Int):Bool:=inI i 0 (m.code.length - 1)
def branchOk (m:MethU) (x:InsU):Bool:=!decide (formN x.op=7) || inM m x.n
def trapOk (m:MethU) (t:TrapU):Bool:=decide (0≤t.lo) && (decide (t.lo < t.hi) && (decide (t.hi≤m.code.length) && inM m t.at'))
def mapsUp (m:MethU):Int→List MapU→Bool
 | _,[]=>true
 | l,x :: r=>decide (l < x.at') && (inM m x.at' && mapsUp m x.at' r)
section
attribute [-simp] getElem?_pos getElem?_neg List.all_eq_true
attribute [local simp] gz gs nltT nltF iltT iltF ileT nleT cf
theorem l124a {m:MethU} {fa:Option (Nat × Nat)} {fc:Option Nat} (hm:m.ok O) (hn:m.code.length≤100000) (hF:Row O 1 intC (formsL m.code) fa):∀ (j i:Nat) (w:Nat),i+j=m.code.length→∀ (k:AExit→St→Option (AVal × Heap)),
  xK T (.loop code124L2) ⟨[(1,.val (.slice fa m.code.length fc)),(2,.var m.cells),(13,.val (.slice m.ca m.code.length m.cc)),(14,.val (.int .i64 m.code.length)),(15,.val (.int .i64 i))],⟨O,b,w⟩⟩ (k:=⟨k⟩) =
   if (m.code.drop i).all (branchOk m) then k (.exit 0) ⟨[(2,.var m.cells)],⟨O,b,w⟩⟩ else k .ret ⟨[(4,.val (.bool false))],⟨O,b,w⟩⟩
 | 0,i,w,hi,k=>by
  rw [dk,ei (by omega)]
  simp (disch:=omega) [code124L2]
 | j+1,i,w,hi,k=>by
  have hrb:reachB=140737488351232:=rfl
  have hcm:m.cells=[.bool m.st,.str m.name,.str m.desc,.int .i64 m.stack,.int .i64 m.locals,.slice m.ca m.code.length m.cc,.slice m.ta m.traps.length m.tc,.slice m.xa m.maps.length m.xc]:=rfl
  obtain ⟨x,hx⟩:∃ x,m.code[i]? = some x:=⟨_,ak (by omega)⟩
  obtain ⟨p,o,cs,ha,hp,hpl,hcs,hv⟩:=gm hm.c hx
  obtain ⟨p',o',cs',hfa,hp',hv'⟩:=int_at hF (i:=i) (x:=formN x.op) (by unfold formsL; rw [co,hx]; rfl)
  have ih:=l124a (fc:=fc) hm hn hF j (i+1) w (by omega) k
  have e2:((i+1:Nat):Int)=(i:Int)+1:=by omega
  rw [e2] at ih
  have hcx:x.cells=[.int .u8 x.op,.int .i64 x.n,.int .i64 x.m,.str x.cls,.str x.name,.str x.desc,.str x.text]:=rfl
  rw [hcx] at hv
  have h131:=fun h=>s131 (m:=m) (i:=x.n) (h:=h) (by omega)
  have hin:inM m x.n=inI x.n 0 (m.code.length - 1):=rfl
  rw [← hin,hcm] at h131
  rw [hcm] at ih ⊢
  rw [ha] at ih h131 ⊢
  subst hfa
  rw [dk,i8 hx]
  rw [List.all_cons]
  generalize ACode.loop code124L2=LL at ih ⊢
  by_cases c1:formN x.op=7
  ·rw [c1] at hv'
   cases e:inM m x.n with
   | true =>
    have hB:branchOk m x=true:=by simp [branchOk,e]
    rw [e] at h131
    simp only [hB,Bool.true_and]
    simp (disch:=omega) [code124L2,hp,hv,hp',hv',h131,ih]
   | false =>
    have hB:branchOk m x=false:=by simp [branchOk,e,c1]
    rw [e] at h131
    simp only [hB,Bool.false_and]
    simp (disch:=omega) [code124L2,hp,hv,hp',hv',h131]
  ·have hB:branchOk m x=true:=by simp [branchOk,c1]
   simp only [hB,Bool.true_and]
   simp (disch:=omega) [code124L2,hp,hv,hp',hv',c1,ih]
theorem l124b {m:MethU} (hm:m.ok O) (hn:m.code.length≤100000) (htn:m.traps.length≤100000):∀ (j i:Nat) (w:Nat),i+j=m.traps.length→∀ (k:AExit→St→Option (AVal × Heap)),
  xK T (.loop code124L1) ⟨[(2,.var m.cells),(34,.val (.slice m.ta m.traps.length m.tc)),(35,.val (.int .i64 m.traps.length)),(36,.val (.int .i64 i))],⟨O,b,w⟩⟩ (k:=⟨k⟩) =
   if (m.traps.drop i).all (trapOk m) then k (.exit 2) ⟨[(2,.var m.cells)],⟨O,b,w⟩⟩ else k .ret ⟨[(4,.val (.bool false))],⟨O,b,w⟩⟩
 | 0,i,w,hi,k=>by
  rw [dk,ei (by omega)]
  simp (disch:=omega) [code124L1]
 | j+1,i,w,hi,k=>by
  have hrb:reachB=140737488351232:=rfl
  have hcm:m.cells=[.bool m.st,.str m.name,.str m.desc,.int .i64 m.stack,.int .i64 m.locals,.slice m.ca m.code.length m.cc,.slice m.ta m.traps.length m.tc,.slice m.xa m.maps.length m.xc]:=rfl
  obtain ⟨x,hx⟩:∃ x,m.traps[i]? = some x:=⟨_,ak (by omega)⟩
  obtain ⟨p,o,cs,ha,hp,hpl,hcs,hv⟩:=gm hm.t hx
  have ih:=l124b hm hn htn j (i+1) w (by omega) k
  have e2:((i+1:Nat):Int)=(i:Int)+1:=by omega
  rw [e2] at ih
  have hcx:x.cells=[.int .i64 x.lo,.int .i64 x.hi,.int .i64 x.at',.str x.cls]:=rfl
  rw [hcx] at hv
  have h131:=fun h=>s131 (m:=m) (i:=x.at') (h:=h) (by omega)
  have hin:inM m x.at'=inI x.at' 0 (m.code.length - 1):=rfl
  rw [← hin,hcm] at h131
  rw [hcm] at ih ⊢
  rw [ha] at ih h131 ⊢
  rw [dk,i8 hx]
  rw [List.all_cons]
  generalize ACode.loop code124L1=LL at ih ⊢
  by_cases c1:0≤x.lo
  ·have c1':¬ x.lo < 0:=by omega
   by_cases c2:x.lo < x.hi
   ·have c2':¬ x.hi≤x.lo:=by omega
    by_cases c3:x.hi≤m.code.length
    ·have c3':¬ (m.code.length:Int) < x.hi:=by omega
     cases e:inM m x.at' with
     | true =>
      have hB:trapOk m x=true:=by simp [trapOk,c1,c2,c3,e]
      rw [e] at h131
      simp only [hB,Bool.true_and]
      simp (disch:=omega) [code124L1,hp,hv,c1',c2',c3',h131,ih]
     | false =>
      have hB:trapOk m x=false:=by simp [trapOk,e]
      rw [e] at h131
      simp only [hB,Bool.false_and]
      simp (disch:=omega) [code124L1,hp,hv,c1',c2',c3',h131]
    ·have c3':(m.code.length:Int) < x.hi:=by omega
     have hB:trapOk m x=false:=by simp [trapOk,c3]
     simp only [hB,Bool.false_and]
     simp (disch:=omega) [code124L1,hp,hv,c1',c2',c3']
   ·have c2':x.hi≤x.lo:=by omega
    have hB:trapOk m x=false:=by simp [trapOk,c2]
    simp only [hB,Bool.false_and]
    simp (disch:=omega) [code124L1,hp,hv,c1',c2']
  ·have c1':x.lo < 0:=by omega
   have hB:trapOk m x=false:=by simp [trapOk,c1]
   simp only [hB,Bool.false_and]
   simp (disch:=omega) [code124L1,hp,hv,c1']
theorem l124c {m:MethU} (hm:m.ok O) (hn:m.code.length≤100000) (hxn:m.maps.length≤reachB):∀ (j i:Nat) (l:Int) (w:Nat),i+j=m.maps.length→∀ (k:AExit→St→Option (AVal × Heap)),
  xK T (.loop code124L0) ⟨[(2,.var m.cells),(9,.val (.int .i64 l)),(67,.val (.slice m.xa m.maps.length m.xc)),(68,.val (.int .i64 m.maps.length)),(69,.val (.int .i64 i))],⟨O,b,w⟩⟩ (k:=⟨k⟩) =
   if mapsUp m l (m.maps.drop i) then k (.exit 4) ⟨[],⟨O,b,w⟩⟩ else k .ret ⟨[(4,.val (.bool false))],⟨O,b,w⟩⟩
 | 0,i,l,w,hi,k=>by
  rw [dk,ei (by omega)]
  simp (disch:=omega) [code124L0,mapsUp]
 | j+1,i,l,w,hi,k=>by
  have hrb:reachB=140737488351232:=rfl
  have hcm:m.cells=[.bool m.st,.str m.name,.str m.desc,.int .i64 m.stack,.int .i64 m.locals,.slice m.ca m.code.length m.cc,.slice m.ta m.traps.length m.tc,.slice m.xa m.maps.length m.xc]:=rfl
  obtain ⟨x,hx⟩:∃ x,m.maps[i]? = some x:=⟨_,ak (by omega)⟩
  obtain ⟨p,o,cs,ha,hp,hpl,hcs,hv⟩:=gm hm.x hx
  have ih:=l124c hm hn hxn j (i+1) x.at' w (by omega) k
  have e2:((i+1:Nat):Int)=(i:Int)+1:=by omega
  rw [e2] at ih
  have hcx:x.cells=[.int .i64 x.at',.slice x.la x.locals.length x.lc,.slice x.sa x.stack.length x.sc]:=rfl
  rw [hcx] at hv
  have h131:=fun h=>s131 (m:=m) (i:=x.at') (h:=h) (by omega)
  have hin:inM m x.at'=inI x.at' 0 (m.code.length - 1):=rfl
  rw [← hin,hcm] at h131
  rw [hcm] at ih ⊢
  rw [ha] at ih h131 ⊢
  rw [dk,i8 hx]
  have hM:mapsUp m l (x :: List.drop (i+1) m.maps)=(decide (l < x.at') && (inM m x.at' && mapsUp m x.at' (List.drop (i+1) m.maps))):=rfl
  generalize ACode.loop code124L0=LL at ih ⊢
  by_cases c1:l < x.at'
  ·have c1':¬ x.at'≤l:=by omega
   cases e:inM m x.at' with
   | true =>
    rw [decide_eq_true c1,e,Bool.true_and,Bool.true_and] at hM
    rw [e] at h131
    simp only [hM]
    simp (disch:=omega) [code124L0,hp,hv,c1',h131,ih]
   | false =>
    rw [e,Bool.false_and,Bool.and_false] at hM
    rw [e] at h131
    simp only [hM]
    simp (disch:=omega) [code124L0,hp,hv,c1',h131]
  ·have c1':x.at'≤l:=by omega
   rw [decide_eq_false c1,Bool.false_and] at hM
   simp only [hM]
   simp (disch:=omega) [code124L0,hp,hv,c1']
end
def rangesOk (m:MethU):Bool:=m.code.all (branchOk m) && (m.traps.all (trapOk m) && mapsUp m (-1) m.maps)
section
attribute [-simp] getElem?_pos getElem?_neg List.all_eq_true
attribute [local simp] gz gs nltT nltF iltT iltF ileT nleT cf
theorem s124 {m:MethU} {fa:Option (Nat × Nat)} {fc:Option Nat} (hm:m.ok O) (hn:m.code.length≤100000) (htn:m.traps.length≤100000) (hxn:m.maps.length≤reachB) (hF:Row O 1 intC (formsL m.code) fa) :
  xCall T 124 [.agg m.cells,.slice fa m.code.length fc] ⟨O,b,w⟩=some (.bool (rangesOk m),⟨O,b,w⟩):=by
 have hrb:reachB=140737488351232:=rfl
 have hcm:m.cells=[.bool m.st,.str m.name,.str m.desc,.int .i64 m.stack,.int .i64 m.locals,.slice m.ca m.code.length m.cc,.slice m.ta m.traps.length m.tc,.slice m.xa m.maps.length m.xc]:=rfl
 have k1:=fun w k=>l124a (b:=b) (fc:=fc) hm hn hF m.code.length 0 w (by omega) k
 have k2:=fun w k=>l124b (b:=b) hm hn htn m.traps.length 0 w (by omega) k
 have k3:=fun w k=>l124c (b:=b) hm hn hxn m.maps.length 0 (-1) w (by omega) k
 simp only [b7,List.drop_zero] at k1 k2 k3
 rw [hcm] at k1 k2 k3
 unfold rangesOk
 cases e1:m.code.all (branchOk m) with
 | false=>rw [e1] at k1; simp (disch:=omega) [az t124,code124,hcm,k1]
 | true =>
  rw [e1] at k1
  cases e2:m.traps.all (trapOk m) with
  | false=>rw [e2] at k2; simp (disch:=omega) [az t124,code124,hcm,k1,k2]
  | true =>
   rw [e2] at k2
   cases e3:mapsUp m (-1) m.maps with
   | false=>rw [e3] at k3; simp (disch:=omega) [az t124,code124,hcm,k1,k2,k3]
   | true=>rw [e3] at k3; simp (disch:=omega) [az t124,code124,hcm,k1,k2,k3]
end
end Go.Abs.AbsFlow

namespace Go.Abs.AbsFlow
open Go.Abs.AbsDesc Go.Abs.AbsHier
open Go.Abs.AbsOrd hiding T sub
variable {os O:List AObj} {b w:Nat}
def needB (x:InsU):List Int:=if formN x.op=7 then [x.n] else []
def needE (n i:Nat) (x:InsU):List Int:=if endsC x.op=true∧i+1 < n then [((i+1:Nat):Int)] else []
def needL (n:Nat):Nat→List InsU→List Int
 | _,[]=>[]
 | i,x :: r=>needB x++(needE n i x++needL n (i+1) r)
def needs (m:MethU):List Int:=needL m.code.length 0 m.code++m.traps.map TrapU.at'
theorem needB_len (x:InsU):(needB x).length≤1:=by unfold needB; split <;> simp
theorem needE_len (n i:Nat) (x:InsU):(needE n i x).length≤1:=by unfold needE; split <;> simp
theorem needL_len (n:Nat):∀ (L:List InsU) (i:Nat),(needL n i L).length≤2*L.length
 | [],_=>by simp [needL]
 | x :: r,i=>by
  have:=needL_len n r (i+1)
  have h1:=needB_len x
  have h2:=needE_len n i x
  simp only [needL,bc,bp]
  omega
section
attribute [-simp] getElem?_pos getElem?_neg List.all_eq_true
attribute [local simp] gz gs nltT nltF iltT iltF ileT nleT cf
theorem l123a {m:MethU} {fa:Option (Nat × Nat)} {fc:Option Nat} (hm:m.ok O) (hb:b≤O.length) (hn:m.code.length≤100000) (hF:Row O 1 intC (formsL m.code) fa):∀ (j i w:Nat) (A:List Int) (P:List AObj) (v:AVal),i+j=m.code.length→A.length≤2*i→O.length≤w→Acc 1 intC O A P v →
  ∃ P' v',∃ W:Nat,Acc 1 intC O (A++needL m.code.length i (m.code.drop i)) P' v'∧O.length≤W∧∀ (k:AExit→St→Option (AVal × Heap)),
  xK T (.loop code123L1) ⟨[(1,.val (.slice fa m.code.length fc)),(2,.var m.cells),(5,.val v),(11,.val (.slice m.ca m.code.length m.cc)),(12,.val (.int .i64 m.code.length)),(13,.val (.int .i64 i))],⟨P,b,w⟩⟩ (k:=⟨k⟩)=k (.exit 0) ⟨[(2,.var m.cells),(5,.val v')],⟨P',b,W⟩⟩
 | 0,i,w,A,P,v,hi,hA,hw,h=>by
  refine ⟨P,v,w,?_,hw,fun k=>?_⟩
  ·rw [ei (by omega)]; simpa [needL] using h
  ·rw [dk]
   simp (disch:=omega) [code123L1]
 | j+1,i,w,A,P,v,hi,hA,hw,h=>by
  have hcm:m.cells=[.bool m.st,.str m.name,.str m.desc,.int .i64 m.stack,.int .i64 m.locals,.slice m.ca m.code.length m.cc,.slice m.ta m.traps.length m.tc,.slice m.xa m.maps.length m.xc]:=rfl
  obtain ⟨x,hx⟩:∃ x,m.code[i]? = some x:=⟨_,ak (by omega)⟩
  obtain ⟨p,o,cs,ha,hp,hpl,hcs,hv⟩:=gm (h.pre.row hm.c) hx
  obtain ⟨p',o',cs',hfa,hp',hv'⟩:=int_at (h.pre.row hF) (i:=i) (x:=formN x.op) (by unfold formsL; rw [co,hx]; rfl)
  have hcx:x.cells=[.int .u8 x.op,.int .i64 x.n,.int .i64 x.m,.str x.cls,.str x.name,.str x.desc,.str x.text]:=rfl
  rw [hcx] at hv
  have e2:((i+1:Nat):Int)=(i:Int)+1:=by omega
  have hdx:needL m.code.length i (m.code.drop i)=needB x++(needE m.code.length i x++needL m.code.length (i+1) (m.code.drop (i+1))):=by rw [i8 hx]; rfl
  have h73:=fun h=>s73 (c:=x.op) (h:=h)
  by_cases c1:formN x.op=7
  ·rw [c1] at hv'
   have hB:needB x=[x.n]:=by unfold needB; rw [if_pos c1]
   obtain ⟨P1,v1,n1,h1,hn1,_,e1⟩:=h.add (b:=b) intC_len hb (by':=8) (by omega) (by omega) x.n
   have hs:intC x.n=[.int .i64 x.n]:=rfl
   rw [hs] at e1
   cases e:endsC x.op with
   | true =>
    rw [e] at h73
    by_cases c2:i+1 < m.code.length
    ·have hE:needE m.code.length i x=[((i+1:Nat):Int)]:=by unfold needE; rw [if_pos ⟨e,c2⟩]
     obtain ⟨P2,v2,n2,h2,hn2,_,e3⟩:=h1.add (b:=b) intC_len hb (by':=8) (by simp; omega) (by simp; omega) ((i+1:Nat):Int)
     obtain ⟨P',v',W,i1,i2,i3⟩:=l123a (fc:=fc) hm hb hn hF j (i+1) (n2 (n1 w)) _ P2 v2 (by omega) (by simp; omega) (hn2 _ (hn1 _ hw)) h2
     refine ⟨P',v',W,by rw [hdx,hB,hE]; simpa using i1,i2,fun k=>?_⟩
     have ih:=i3 k
     have hs2:intC ((i+1:Nat):Int)=[.int .i64 ((i:Int)+1)]:=by rw [e2]; rfl
     rw [hs2] at e3
     have c2':(i:Int)+1 < m.code.length:=by omega
     rw [e2] at ih
     rw [hcm,ha] at ih ⊢
     subst hfa
     rw [dk]
     generalize ACode.loop code123L1=LL at ih ⊢
     simp (disch:=omega) [-aAppend,code123L1,hp,hv,hp',hv',h73,c2',e3,e1,ih]
    ·have hE:needE m.code.length i x=[]:=by unfold needE; rw [if_neg fun q=>c2 q.2]
     obtain ⟨P',v',W,i1,i2,i3⟩:=l123a (fc:=fc) hm hb hn hF j (i+1) (n1 w) _ P1 v1 (by omega) (by simp; omega) (hn1 _ hw) h1
     refine ⟨P',v',W,by rw [hdx,hB,hE]; simpa using i1,i2,fun k=>?_⟩
     have ih:=i3 k
     have c2':¬ (i:Int)+1 < m.code.length:=by omega
     rw [e2] at ih
     rw [hcm,ha] at ih ⊢
     subst hfa
     rw [dk]
     generalize ACode.loop code123L1=LL at ih ⊢
     simp (disch:=omega) [-aAppend,code123L1,hp,hv,hp',hv',h73,c2',e1,ih]
   | false =>
    rw [e] at h73
    have hE:needE m.code.length i x=[]:=by unfold needE; rw [if_neg fun q=>by rw [e] at q; cases q.1]
    obtain ⟨P',v',W,i1,i2,i3⟩:=l123a (fc:=fc) hm hb hn hF j (i+1) (n1 w) _ P1 v1 (by omega) (by simp; omega) (hn1 _ hw) h1
    refine ⟨P',v',W,by rw [hdx,hB,hE]; simpa using i1,i2,fun k=>?_⟩
    have ih:=i3 k
    rw [e2] at ih
    rw [hcm,ha] at ih ⊢
    subst hfa
    rw [dk]
    generalize ACode.loop code123L1=LL at ih ⊢
    simp (disch:=omega) [-aAppend,code123L1,hp,hv,hp',hv',h73,e1,ih]
  ·have hB:needB x=[]:=by unfold needB; rw [if_neg c1]
   cases e:endsC x.op with
   | true =>
    rw [e] at h73
    by_cases c2:i+1 < m.code.length
    ·have hE:needE m.code.length i x=[((i+1:Nat):Int)]:=by unfold needE; rw [if_pos ⟨e,c2⟩]
     obtain ⟨P2,v2,n2,h2,hn2,_,e3⟩:=h.add (b:=b) intC_len hb (by':=8) (by omega) (by omega) ((i+1:Nat):Int)
     obtain ⟨P',v',W,i1,i2,i3⟩:=l123a (fc:=fc) hm hb hn hF j (i+1) (n2 w) _ P2 v2 (by omega) (by simp; omega) (hn2 _ hw) h2
     refine ⟨P',v',W,by rw [hdx,hB,hE]; simpa using i1,i2,fun k=>?_⟩
     have ih:=i3 k
     have hs2:intC ((i+1:Nat):Int)=[.int .i64 ((i:Int)+1)]:=by rw [e2]; rfl
     rw [hs2] at e3
     have c2':(i:Int)+1 < m.code.length:=by omega
     rw [e2] at ih
     rw [hcm,ha] at ih ⊢
     subst hfa
     rw [dk]
     generalize ACode.loop code123L1=LL at ih ⊢
     simp (disch:=omega) [-aAppend,code123L1,hp,hv,hp',hv',h73,c2',e3,c1,ih]
    ·have hE:needE m.code.length i x=[]:=by unfold needE; rw [if_neg fun q=>c2 q.2]
     obtain ⟨P',v',W,i1,i2,i3⟩:=l123a (fc:=fc) hm hb hn hF j (i+1) w _ P v (by omega) (by omega) hw h
     refine ⟨P',v',W,by rw [hdx,hB,hE]; simpa using i1,i2,fun k=>?_⟩
     have ih:=i3 k
     have c2':¬ (i:Int)+1 < m.code.length:=by omega
     rw [e2] at ih
     rw [hcm,ha] at ih ⊢
     subst hfa
     rw [dk]
     generalize ACode.loop code123L1=LL at ih ⊢
     simp (disch:=omega) [-aAppend,code123L1,hp,hv,hp',hv',h73,c2',c1,ih]
   | false =>
    rw [e] at h73
    have hE:needE m.code.length i x=[]:=by unfold needE; rw [if_neg fun q=>by rw [e] at q; cases q.1]
    obtain ⟨P',v',W,i1,i2,i3⟩:=l123a (fc:=fc) hm hb hn hF j (i+1) w _ P v (by omega) (by omega) hw h
    refine ⟨P',v',W,by rw [hdx,hB,hE]; simpa using i1,i2,fun k=>?_⟩
    have ih:=i3 k
    rw [e2] at ih
    rw [hcm,ha] at ih ⊢
    subst hfa
    rw [dk]
    generalize ACode.loop code123L1=LL at ih ⊢
    simp (disch:=omega) [-aAppend,code123L1,hp,hv,hp',hv',h73,c1,ih]
theorem l123b {m:MethU} (hm:m.ok O) (hb:b≤O.length) (htn:m.traps.length≤100000):∀ (j i w:Nat) (A:List Int) (P:List AObj) (v:AVal),i+j=m.traps.length→A.length≤200000+i→O.length≤w→Acc 1 intC O A P v →
  ∃ P' v',∃ W:Nat,Acc 1 intC O (A++(m.traps.drop i).map TrapU.at') P' v'∧O.length≤W∧∀ (k:AExit→St→Option (AVal × Heap)),
  xK T (.loop code123L0) ⟨[(5,.val v),(46,.val (.slice m.ta m.traps.length m.tc)),(47,.val (.int .i64 m.traps.length)),(48,.val (.int .i64 i))],⟨P,b,w⟩⟩ (k:=⟨k⟩)=k (.exit 2) ⟨[(5,.val v')],⟨P',b,W⟩⟩
 | 0,i,w,A,P,v,hi,hA,hw,h=>by
  refine ⟨P,v,w,?_,hw,fun k=>?_⟩
  ·rw [ei (by omega)]; simpa using h
  ·rw [dk]
   simp (disch:=omega) [code123L0]
 | j+1,i,w,A,P,v,hi,hA,hw,h=>by
  obtain ⟨x,hx⟩:∃ x,m.traps[i]? = some x:=⟨_,ak (by omega)⟩
  obtain ⟨p,o,cs,ha,hp,hpl,hcs,hv⟩:=gm (h.pre.row hm.t) hx
  have hcx:x.cells=[.int .i64 x.lo,.int .i64 x.hi,.int .i64 x.at',.str x.cls]:=rfl
  rw [hcx] at hv
  obtain ⟨P1,v1,n1,h1,hn1,_,e1⟩:=h.add (b:=b) intC_len hb (by':=8) (by omega) (by omega) x.at'
  have hs:intC x.at'=[.int .i64 x.at']:=rfl
  rw [hs] at e1
  have e2:((i+1:Nat):Int)=(i:Int)+1:=by omega
  obtain ⟨P',v',W,i1,i2,i3⟩:=l123b hm hb htn j (i+1) (n1 w) _ P1 v1 (by omega) (by simp; omega) (hn1 _ hw) h1
  refine ⟨P',v',W,by rw [i8 hx]; simpa using i1,i2,fun k=>?_⟩
  have ih:=i3 k
  rw [e2] at ih
  rw [ha] at ih ⊢
  rw [dk]
  generalize ACode.loop code123L0=LL at ih ⊢
  simp (disch:=omega) [-aAppend,code123L0,hp,hv,e1,ih]
theorem s123 {m:MethU} {fa:Option (Nat × Nat)} {fc:Option Nat} (hm:m.ok O) (hb:b≤O.length) (hn:m.code.length≤100000) (htn:m.traps.length≤100000) (hF:Row O 1 intC (formsL m.code) fa) :
  xCall T 123 [.agg m.cells,.slice fa m.code.length fc] ⟨O,b,w⟩=some (newV O.length (needs m),⟨newO 1 intC O (needs m),b,w⟩):=by
 have hcm:m.cells=[.bool m.st,.str m.name,.str m.desc,.int .i64 m.stack,.int .i64 m.locals,.slice m.ca m.code.length m.cc,.slice m.ta m.traps.length m.tc,.slice m.xa m.maps.length m.xc]:=rfl
 obtain ⟨P1,v1,W1,i1,i2,i3⟩:=l123a (fc:=fc) hm hb hn hF m.code.length 0 O.length [] O _ (by omega) (by simp) (aj _) Acc.nil
 have hl:=needL_len m.code.length m.code 0
 obtain ⟨P',v',W,j1,j2,j3⟩:=l123b hm hb htn m.traps.length 0 W1 _ P1 v1 (by omega) (by simp; omega) i2 i1
 have hf:=j1.fin (b:=b) (w0:=w) idsI renI j2
 simp only [b7,List.drop_zero,b0] at i3 j3 hf
 have hnd:needL m.code.length 0 m.code++m.traps.map TrapU.at'=needs m:=rfl
 rw [hnd] at hf
 rw [hcm] at i3
 simp (disch:=omega) [-aAppend,-finish,az t123,code123,hcm,i3,j3,hf]
end
end Go.Abs.AbsFlow

namespace Go.Abs.AbsFlow
open Go.Abs.AbsDesc Go.Abs.AbsHier
open Go.Abs.AbsOrd hiding T sub
variable {os O:List AObj} {b w:Nat}
def shapeOk (m:MethU) (x:InsU):Bool:=shapeF m x (formN x.op)
section
attribute [-simp] getElem?_pos getElem?_neg List.all_eq_true
attribute [local simp] gz gs nltT nltF iltT iltF ileT nleT cf
theorem l76a {m:MethU} {fa:Option (Nat × Nat)} {fc:Option Nat} (hm:m.ok O) (hn:m.code.length≤100000) (h0:0≤m.locals) (h1:m.locals≤64) (hF:Row O 1 intC (formsL m.code) fa):∀ (j i:Nat) (w:Nat),i+j=m.code.length→∀ (k:AExit→St→Option (AVal × Heap)),
  xK T (.loop code76L1) ⟨[(1,.var m.cells),(6,.val (.slice fa m.code.length fc)),(56,.val (.slice m.ca m.code.length m.cc)),(57,.val (.int .i64 m.code.length)),(58,.val (.int .i64 i))],⟨O,b,w⟩⟩ (k:=⟨k⟩) =
   if (m.code.drop i).all (shapeOk m) then k (.exit 0) ⟨[(1,.var m.cells),(6,.val (.slice fa m.code.length fc))],⟨O,b,w⟩⟩ else k .ret ⟨[(2,.val (.int .i64 8))],⟨O,b,w⟩⟩
 | 0,i,w,hi,k=>by
  rw [dk,ei (by omega)]
  simp (disch:=omega) [code76L1]
 | j+1,i,w,hi,k=>by
  have hcm:m.cells=[.bool m.st,.str m.name,.str m.desc,.int .i64 m.stack,.int .i64 m.locals,.slice m.ca m.code.length m.cc,.slice m.ta m.traps.length m.tc,.slice m.xa m.maps.length m.xc]:=rfl
  obtain ⟨x,hx⟩:∃ x,m.code[i]? = some x:=⟨_,ak (by omega)⟩
  obtain ⟨p,o,cs,ha,hp,hpl,hcs,hv⟩:=gm hm.c hx
  obtain ⟨p',o',cs',hfa,hp',hv'⟩:=int_at hF (i:=i) (x:=formN x.op) (by unfold formsL; rw [co,hx]; rfl)
  have ih:=l76a (fc:=fc) hm hn h0 h1 hF j (i+1) w (by omega) k
  have e2:((i+1:Nat):Int)=(i:Int)+1:=by omega
  rw [e2] at ih
  have hcx:x.cells=[.int .u8 x.op,.int .i64 x.n,.int .i64 x.m,.str x.cls,.str x.name,.str x.desc,.str x.text]:=rfl
  have h125:=fun h=>s125 (x:=x) (f:=formN x.op) (h:=h) h0 h1
  have hso:shapeF m x (formN x.op)=shapeOk m x:=rfl
  rw [hso,hcm,hcx] at h125
  rw [hcx] at hv
  rw [hcm] at ih ⊢
  rw [ha] at ih h125 ⊢
  subst hfa
  rw [dk,i8 hx,List.all_cons]
  generalize ACode.loop code76L1=LL at ih ⊢
  cases e:shapeOk m x with
  | true =>
   rw [e] at h125
   simp only [Bool.true_and]
   simp (disch:=omega) [code76L1,hp,hv,hp',hv',h125,ih]
  | false =>
   rw [e] at h125
   simp only [Bool.false_and]
   simp (disch:=omega) [code76L1,hp,hv,hp',hv',h125]
theorem l76b {m:MethU} {L:List Int} {a:Option (Nat × Nat)} {c:Option Nat} (hm:m.ok O) (hf:m.fits) (hb:b≤O.length) (hn:L.length≤1000000) (hL:Row O 1 intC L a):∀ (j i:Nat) (w:Nat),i+j=L.length→∀ (k:AExit→St→Option (AVal × Heap)),
  xK T (.loop code76L0) ⟨[(1,.var m.cells),(78,.val (.slice a L.length c)),(79,.val (.int .i64 L.length)),(80,.val (.int .i64 i))],⟨O,b,w⟩⟩ (k:=⟨k⟩) =
   if (L.drop i).all (hasMap m) then k (.exit 2) ⟨[],⟨O,b,w⟩⟩ else k .ret ⟨[(2,.val (.int .i64 11))],⟨O,b,w⟩⟩
 | 0,i,w,hi,k=>by
  rw [dk,ei (by omega)]
  simp (disch:=omega) [code76L0]
 | j+1,i,w,hi,k=>by
  have hcm:m.cells=[.bool m.st,.str m.name,.str m.desc,.int .i64 m.stack,.int .i64 m.locals,.slice m.ca m.code.length m.cc,.slice m.ta m.traps.length m.tc,.slice m.xa m.maps.length m.xc]:=rfl
  obtain ⟨x,hx⟩:∃ x,L[i]? = some x:=⟨_,ak (by omega)⟩
  obtain ⟨p,o,cs,ha,hp,hv⟩:=int_at hL hx
  have ih:=l76b (c:=c) hm hf hb hn hL j (i+1) w (by omega) k
  have e2:((i+1:Nat):Int)=(i:Int)+1:=by omega
  rw [e2] at ih
  subst ha
  rw [dk,i8 hx,List.all_cons]
  rcases s71 (i:=x) hm hf hb w with ⟨e,y,hy,_,h71⟩ | ⟨e,h71⟩
  ·rw [e]
   simp only [Bool.true_and]
   have hcy:y.cells=[.int .i64 y.at',.slice y.la y.locals.length y.lc,.slice y.sa y.stack.length y.sc]:=rfl
   rw [hcy,hcm] at h71
   rw [hcm] at ih ⊢
   generalize ACode.loop code76L0=LL at ih ⊢
   simp (disch:=omega) [code76L0,hp,hv,h71,ih]
  ·rw [e]
   simp only [Bool.false_and]
   rw [hcm] at h71 ih ⊢
   generalize ACode.loop code76L0=LL at ih ⊢
   simp (disch:=omega) [code76L0,hp,hv,h71]
end
def checkM (m:MethU):Int :=
 if (methL m.desc).isNone then 8 else if inI m.stack 0 64=false then 8 else if inI m.locals 0 64=false then 8
 else match m.code.getLast? with
 | none=>8
 | some x=>if endsC x.op=false then 8 else if m.code.all (shapeOk m)=false then 8 else if rangesOk m=false then 2 else if (needs m).all (hasMap m)=false then 11 else 0
section
attribute [-simp] getElem?_pos getElem?_neg List.all_eq_true
attribute [local simp] gz gs nltT nltF iltT iltF ileT nleT cf
set_option maxHeartbeats 2000000 in
theorem s76 {m:MethU} (hm:m.ok O) (hf:m.fits) (ho:∀ x ∈ m.code,0≤x.op∧x.op < 256) (hb:b≤O.length) (hn:m.code.length≤100000) (htn:m.traps.length≤100000) :
  xCall T 76 [.agg m.cells] ⟨O,b,w⟩=some (.int .i64 (checkM m),⟨O,b,w⟩):=by
 have hrb:reachB=140737488351232:=rfl
 have hcm:m.cells=[.bool m.st,.str m.name,.str m.desc,.int .i64 m.stack,.int .i64 m.locals,.slice m.ca m.code.length m.cc,.slice m.ta m.traps.length m.tc,.slice m.xa m.maps.length m.xc]:=rfl
 have hfd:=hf.desc
 have h38:=fun w=>ir subT (AbsHier.s38 (os:=O) (b:=b) (w:=w) (s:=m.desc) (by omega) hb)
 have h127:=fun a lo hi h=>s127 (a:=a) (lo:=lo) (hi:=hi) (h:=h)
 unfold checkM
 cases hq:methL m.desc with
 | none =>
  rw [hq] at h38
  simp only [methV,methO] at h38
  simp (disch:=omega) [az t76,code76,hcm,h38]
 | some q =>
  obtain ⟨A,r⟩:=q
  have hp1:=methO_pre O (some (A,r))
  obtain ⟨V,hV⟩:∃ V,methV O.length (some (A,r)) = .tuple [V,.str r,.int .i64 0]:=by cases A <;> exact ⟨_,rfl⟩
  rw [hq,hV] at h38
  generalize methO O (some (A,r))=O1 at *
  simp only [Option.isNone_some,bj,if_false]
  cases e1:inI m.stack 0 64 with
  | false=>simp (disch:=omega) [az t76,code76,hcm,h38,h127,e1]
  | true =>
   cases e2:inI m.locals 0 64 with
   | false=>simp (disch:=omega) [az t76,code76,hcm,h38,h127,e1,e2]
   | true =>
    simp only [reduceCtorEq,if_false]
    have hloc:0≤m.locals∧m.locals≤64:=by
     unfold inI at e2
     simp only [bg,decide_eq_true_eq] at e2
     exact e2
    rw [List.getLast?_eq_getElem?]
    cases hx:m.code[m.code.length - 1]? with
    | none =>
     have hz:m.code.length=0:=by
      rw [List.getElem?_eq_none_iff] at hx
      omega
     simp (disch:=omega) [az t76,code76,hcm,h38,h127,e1,e2,hz]
    | some x =>
     have hlt:=ah hx
     have hlt':(0:Int) < m.code.length:=by omega
     have hne:¬ (m.code.length:Int)=0:=by omega
     have hl1:((m.code.length - 1:Nat):Int)=(m.code.length:Int) - 1:=by omega
     obtain ⟨p,o,cs,ha,hp,hpl,hcs,hv⟩:=gm (hp1.row hm.c) hx
     have hcx:x.cells=[.int .u8 x.op,.int .i64 x.n,.int .i64 x.m,.str x.cls,.str x.name,.str x.desc,.str x.text]:=rfl
     rw [hcx] at hv
     have h73:=fun h=>s73 (c:=x.op) (h:=h)
     have hK:(m.code.length:Int) - 1=((m.code.length - 1:Nat):Int):=by omega
     have hKl:m.code.length - 1 < m.code.length:=by omega
     generalize m.code.length - 1=K at *
     have hca:=ha
     have hKl':(K:Int) < m.code.length:=by omega
     have hb1:b≤O1.length:=by have:=hp1.len; omega
     have hm1:=MethU.ok.pre hp1 hm
     have hv0:cs[o+K*7]? = some (.int .u8 x.op):=by
      have h6:=Go.Abs.AbsMake.take_get (k:=0) hv (by decide)
      rw [fm] at h6
      rw [h6]; rfl
     have hnil:¬ m.code=[]:=fun e=>by rw [e] at hlt; simp at hlt
     rw [ha] at hcm
     dsimp only
     cases e3:endsC x.op with
     | false =>
      rw [e3] at h73
      simp (disch:=omega) [az t76,code76,hcm,h38,h127,e1,e2,hne,hnil,hlt',hK,hKl',hp,hv,hv0,h73]
     | true =>
      rw [e3] at h73
      simp only [reduceCtorEq,if_false]
      have h126:=fun w=>s126 (w:=w) hm1 ho hb1 hn
      have hFl:(formsL m.code).length=m.code.length:=List.length_map ..
      have hF:Row (newO 1 intC O1 (formsL m.code)) 1 intC (formsL m.code) (newA O1.length (formsL m.code)):=new_row intC_len
      have hp2:Pre O1 (newO 1 intC O1 (formsL m.code)):=newO_pre
      rw [newV_eq,hFl,hcm] at h126
      generalize newO 1 intC O1 (formsL m.code)=O2 at *
      generalize newA O1.length (formsL m.code)=fa at *
      generalize newC (formsL m.code)=fc at *
      have hm2:=MethU.ok.pre hp2 hm1
      have hb2:b≤O2.length:=by have:=hp2.len; omega
      have k1:=fun w k=>l76a (b:=b) (fc:=fc) hm2 hn hloc.1 hloc.2 hF m.code.length 0 w (by omega) k
      simp only [b7,List.drop_zero] at k1
      rw [hcm,ha] at k1
      cases e4:m.code.all (shapeOk m) with
      | false =>
       rw [e4] at k1
       simp (disch:=omega) [az t76,code76,hcm,h38,h127,e1,e2,hne,hnil,hlt',hK,hKl',hp,hv,hv0,h73,h126,k1]
      | true =>
       rw [e4] at k1
       simp only [reduceCtorEq,if_false]
       have h124:=fun w=>s124 (b:=b) (w:=w) (fc:=fc) hm2 hn htn hf.x hF
       rw [hcm] at h124
       cases e5:rangesOk m with
       | false =>
        rw [e5] at h124
        simp (disch:=omega) [az t76,code76,hcm,h38,h127,e1,e2,hne,hnil,hlt',hK,hKl',hp,hv,hv0,h73,h126,k1,h124]
       | true =>
        rw [e5] at h124
        simp only [reduceCtorEq,if_false]
        have h123:=fun w=>s123 (w:=w) (fc:=fc) hm2 hb2 hn htn hF
        have hN:Row (newO 1 intC O2 (needs m)) 1 intC (needs m) (newA O2.length (needs m)):=new_row intC_len
        have hp3:Pre O2 (newO 1 intC O2 (needs m)):=newO_pre
        have hNl:(needs m).length≤1000000:=by
         have:=needL_len m.code.length m.code 0
         unfold needs
         rw [bc,List.length_map]
         omega
        rw [newV_eq,hcm] at h123
        generalize newO 1 intC O2 (needs m)=O3 at *
        generalize newA O2.length (needs m)=na at *
        generalize newC (needs m)=nc at *
        have hm3:=MethU.ok.pre hp3 hm2
        have hb3:b≤O3.length:=by have:=hp3.len; omega
        have k2:=fun w k=>l76b (b:=b) (c:=nc) hm3 hf hb3 hNl hN (needs m).length 0 w (by omega) k
        simp only [b7,List.drop_zero] at k2
        rw [hcm] at k2
        cases e6:(needs m).all (hasMap m) with
        | false =>
         rw [e6] at k2
         simp (disch:=omega) [az t76,code76,hcm,h38,h127,e1,e2,hne,hnil,hlt',hK,hKl',hp,hv,hv0,h73,h126,k1,h124,h123,k2]
        | true =>
         rw [e6] at k2
         simp (disch:=omega) [az t76,code76,hcm,h38,h127,e1,e2,hne,hnil,hlt',hK,hKl',hp,hv,hv0,h73,h126,k1,h124,h123,k2]
end
end Go.Abs.AbsFlow

namespace Go.Abs.AbsMk
open Go.Abs.AbsFlow (formN endsC inI shapeF hasMap inM branchOk trapOk mapsUp rangesOk needB needE needL needs checkM shapeOk)
def quietI (x:InsU):Prop:=formN x.op≠7∧endsC x.op=false
def okI (x:InsU):Prop:=(0≤x.op∧x.op < 256)∧formN x.op≠0∧(formN x.op=2∨formN x.op=8→0≤x.n∧x.n≤7 - (if x.op=22∨x.op=55 then 1 else 0))
def Plain (E:List InsU):Prop:=∀ x ∈ E,okI x∧quietI x
theorem da {A B:List InsU} (h:Plain A) (k:Plain B):Plain (A++B):=fun x hx=>(bf.1 hx).elim (h x) (k x)
theorem gr {x:InsU} (h:okI x∧quietI x):Plain [x]:=fun y hy=>by rw [bo.1 hy]; exact h
instance (x:InsU):Decidable (okI x):=by unfold okI; infer_instance
instance (x:InsU):Decidable (quietI x):=by unfold quietI; infer_instance
instance (E:List InsU):Decidable (Plain E):=by unfold Plain; infer_instance
theorem of_op {x:InsU} (h0:0≤x.op∧x.op < 256) (h:formN x.op≠0∧formN x.op≠2∧formN x.op≠8∧formN x.op≠7) (h2:endsC x.op=false):okI x∧quietI x:=⟨⟨h0,h.1,fun e=>by rcases e with e | e <;> omega⟩,h.2.2.2,h2⟩
theorem ok_mem {L:List Int} (hL:∀ y ∈ L,(0≤y∧y < 256)∧(formN y≠0∧formN y≠2∧formN y≠8∧formN y≠7)∧endsC y=false) {y:Int} (h:y ∈ L):okI (opI y 0)∧quietI (opI y 0):=of_op (hL y h).1 (hL y h).2.1 (hL y h).2.2
theorem p_num (x:Int):Plain [numI x]:=by
 refine gr ?_
 unfold numI
 split
 ·rename_i h
  have e:IntKind.u8.wrap (3+x)=(3+x) % 256:=rfl
  rw [e]
  have:∃ k:Nat,k < 7∧x=(k:Int) - 1:=⟨(x+1).toNat,by omega,by omega⟩
  obtain ⟨k,hk,rfl⟩:=this
  have hc:∀ k:Fin 7,okI (opI ((3+((k.1:Int) - 1)) % 256) 0)∧quietI (opI ((3+((k.1:Int) - 1)) % 256) 0):=by decide
  exact hc ⟨k,hk⟩
 ·split
  ·exact of_op (x:=opI 16 x) ⟨by show (0:Int)≤16; decide,by show (16:Int) < 256; decide⟩ (by show formN 16≠0∧formN 16≠2∧formN 16≠8∧formN 16≠7; decide) (by show endsC 16=false; decide)
  ·exact of_op (x:=opI 17 x) ⟨by show (0:Int)≤17; decide,by show (17:Int) < 256; decide⟩ (by show formN 17≠0∧formN 17≠2∧formN 17≠8∧formN 17≠7; decide) (by show endsC 17=false; decide)
theorem p_loc {op:Int} (hop:op=21∨op=54∨op=25∨op=58) {r:Nat} (hr:r < 8):Plain [opI op r]:=by
 have hc:∀ k:Fin 8,(okI (opI 21 (k.1:Int))∧quietI (opI 21 (k.1:Int)))∧(okI (opI 54 (k.1:Int))∧quietI (opI 54 (k.1:Int)))∧(okI (opI 25 (k.1:Int))∧quietI (opI 25 (k.1:Int)))∧(okI (opI 58 (k.1:Int))∧quietI (opI 58 (k.1:Int))):=by decide
 obtain ⟨h1,h2,h3,h4⟩:=hc ⟨r,hr⟩
 rcases hop with rfl | rfl | rfl | rfl
 ·exact gr h1
 ·exact gr h2
 ·exact gr h3
 ·exact gr h4
mutual
theorem GI.plain:∀ {E:List InsU},GI E→Plain E
 | _,.load r h=>p_loc (.inl rfl) (by omega)
 | _,.num x _ _=>p_num x
 | _,.stat=>by decide
 | _,.bin y a c hy ha hc=>da (GI.plain ha) (da (GI.plain hc) (gr (ok_mem (L:=acts151) (by decide) hy)))
 | _,.l2i a ha=>da (GL.plain ha) (by decide)
 | _,.iaload a ha=>da (A:=[opI 25 6]) (by decide) (da (GI.plain ha) (by decide))
 | _,.field=>by decide
 | _,.callv a ha=>da (A:=[opI 25 5]) (by decide) (da (GI.plain ha) (by decide))
 | _,.callh a ha=>da (GI.plain ha) (by decide)
 | _,.alen r h=>da (A:=[opI 25 (6+r)]) (B:=[opI 190 0]) (by have:=p_loc (op:=25) (r:=6+r) (by decide) (by omega); exact this) (by decide)
 | _,.inst=>by decide
 | _,.lcmp a c ha hc=>da (GL.plain ha) (da (GL.plain hc) (by decide))
theorem GL.plain:∀ {E:List InsU},GL E→Plain E
 | _,.bin y a c hy ha hc=>da (GL.plain ha) (da (GL.plain hc) (gr (ok_mem (L:=acts183) (by decide) hy)))
 | _,.shift y a c hy ha hc=>da (GL.plain ha) (da (GI.plain hc) (gr (ok_mem (L:=acts183b) (by decide) hy)))
 | _,.load=>by decide
 | _,.ldc r h=>gr (of_op (x:=⟨20,(r:Int)*1099511627776 - 5,0,[],[],[74],[]⟩) ⟨by show (0:Int)≤20; decide,by show (20:Int) < 256; decide⟩ (by show formN 20≠0∧formN 20≠2∧formN 20≠8∧formN 20≠7; decide) (by show endsC 20=false; decide))
 | _,.i2l a ha=>da (GI.plain ha) (by decide)
end
theorem GO.plain:∀ {E:List InsU},GO E→Plain E
 | _,.null=>by decide
 | _,.newB=>by decide
 | _,.cast=>by decide
 | _,.newA=>by decide
theorem GR.plain:∀ {E:List InsU},GR E→Plain E
 | _,.add=>by decide
 | _,.get a ha=>da (GI.plain ha) (by decide)
 | _,.set a ha=>da (GI.plain ha) (by decide)
 | _,.count=>by decide
theorem GF.plain:∀ {E:List InsU},GF E→Plain E
 | _,.istore a r ha h=>da (GI.plain ha) (by have:=p_loc (op:=54) (r:=1+r) (by decide) (by omega); exact this)
 | _,.print a ha=>da (GI.plain ha) (by decide)
 | _,.lstore a ha=>da (GL.plain ha) (by decide)
 | _,.astore a ha=>da (GO.plain ha) (by decide)
 | _,.putf a ha=>da (A:=[opI 25 5]) (by decide) (da (GI.plain ha) (by decide))
 | _,.puts a ha=>da (GI.plain ha) (by decide)
 | _,.newarr a r ha h=>da (GI.plain ha) (by
   have hc:∀ k:Fin 2,Plain [opI 188 (10 - 2*(k.1:Int)),opI 58 (6+(k.1:Int))]:=by decide
   exact hc ⟨r,h⟩)
 | _,.iastore a c ha hc=>da (A:=[opI 25 6]) (by decide) (da (GI.plain ha) (da (GI.plain hc) (by decide)))
 | _,.record a ha=>GR.plain ha
 | _,.ldc=>by decide
 | _,.text=>by decide
 | _,.iinc r q h k=>gr (by
   have hc:∀ k:Fin 3,∀ m:Int,okI ⟨132,(k.1:Int),m,[],[],[],[]⟩∧quietI ⟨132,(k.1:Int),m,[],[],[],[]⟩:=by
    intro k m
    have hd:∀ k:Fin 3,okI ⟨132,(k.1:Int),0,[],[],[],[]⟩∧quietI ⟨132,(k.1:Int),0,[],[],[],[]⟩:=by decide
    exact hd k
   exact hc ⟨r,h⟩ _)
end Go.Abs.AbsMk

namespace Go.Abs.AbsMk
open Go.Abs.AbsFlow (formN endsC inI shapeF hasMap inM branchOk trapOk mapsUp rangesOk needB needE needL needs checkM shapeOk)
def WX.at' (X:WX) (z:Int):Prop:=∃ y ∈ X.M,y.1=z
def upM:Int→List (Int × List Str × List Str)→Prop
 | _,[]=>True
 | l,y :: r=>l < y.1∧upM y.1 r
theorem swap_mem {i a c:Nat} {H:List Nat} (h:i ∈ a :: c :: H):i ∈ c :: a :: H:=by
 simp only [ba] at h ⊢
 rcases h with h | h | h
 ·exact .inr (.inl h)
 ·exact .inl h
 ·exact .inr (.inr h)
theorem upM_snoc:∀ {L:List (Int × List Str × List Str)} {l:Int} {z:Int × List Str × List Str},upM l L→l < z.1→(∀ y ∈ L,y.1 < z.1)→upM l (L++[z])
 | [],_,_,_,h,_=>⟨h,trivial⟩
 | y :: r,l,z,h,_,hy=>⟨h.1,upM_snoc h.2 (hy y (av ..)) fun x hx=>hy x (bq _ hx)⟩
theorem upM_last:∀ {L:List (Int × List Str × List Str)} {l:Int} {z:Int × List Str × List Str},upM l L→L.getLast? = some z→∀ y ∈ L,y.1≤z.1
 | [],_,_,_,h,_,_=>by simp at h
 | [y],_,z,_,h,x,hx=>by
  simp only [List.getLast?_singleton,ap] at h
  rw [bo] at hx
  rw [hx,h]; exact Int.le_refl _
 | y :: y' :: r,l,z,h,e,x,hx=>by
  rw [List.getLast?_cons_cons] at e
  have ih:=upM_last h.2 e
  rcases ba.1 hx with rfl | hx
  ·exact Int.le_trans (Int.le_of_lt h.2.1) (ih y' (av ..))
  ·exact ih x hx
structure GrI (H:List Nat) (X:WX):Prop where
 ok:∀ (i:Nat) (x:InsU),X.C[i]? = some x→okI x
 br:∀ (i:Nat) (x:InsU),X.C[i]? = some x→formN x.op=7→i ∉ H→X.at' x.n
 en:∀ (i:Nat) (x:InsU),X.C[i]? = some x→endsC x.op=true→X.at' ((i+1:Nat):Int)
 up:upM (-1) X.M
 le:∀ y ∈ X.M,y.1≤X.C.length
 tr:∀ t ∈ X.S,0≤t.lo∧t.lo < t.hi∧t.hi≤X.C.length∧X.at' t.at'
 ho:∀ i ∈ H,∃ x,X.C[i]? = some x∧formN x.op=7
theorem at_nonneg {X:WX} (h:upM (-1) X.M) {z:Int} (hz:X.at' z):0≤z:=by
 have go:∀ (L:List (Int × List Str × List Str)) (l:Int),upM l L→∀ y ∈ L,l < y.1:=by
  intro L
  induction L with
  | nil=>intro l _ y hy; cases hy
  | cons a r ih =>
   intro l h y hy
   rcases ba.1 hy with rfl | hy
   ·exact h.1
   ·exact Int.lt_trans h.1 (ih _ h.2 y hy)
 obtain ⟨y,hy,rfl⟩:=hz
 have:=go _ _ h y hy
 omega
theorem GrI.add {H:List Nat} {X:WX} (h:GrI H X) {E:List InsU} (hE:Plain E):GrI H (X.add E) where
 ok i x e:=by
  simp only [WX.add] at e
  rw [List.getElem?_append] at e
  split at e
  ·exact h.ok i x e
  ·exact (hE x (a8 e)).1
 br i x e:=by
  simp only [WX.add] at e
  rw [List.getElem?_append] at e
  split at e
  ·exact fun a c=>h.br i x e a c
  ·exact fun a _=>absurd a (hE x (a8 e)).2.1
 en i x e:=by
  simp only [WX.add] at e
  rw [List.getElem?_append] at e
  split at e
  ·exact fun a=>h.en i x e a
  ·exact fun a=>by rw [(hE x (a8 e)).2.2] at a; cases a
 up:=h.up
 le y hy:=by have:=h.le y hy; rw [dv]; omega
 tr t ht:=by
  obtain ⟨h1,h2,h3,h4⟩:=h.tr t ht
  exact ⟨h1,h2,by rw [dv]; omega,h4⟩
 ho i hi:=by
  obtain ⟨x,h1,h2⟩:=h.ho i hi
  exact ⟨x,by simp only [WX.add]; rw [ag (List.getElem?_eq_some_iff.1 h1).1]; exact h1,h2⟩
theorem label_at (X:WX) (st:List Str):(X.label st).at' X.C.length:=by
 unfold WX.label
 split
 ·rename_i h
  obtain ⟨y,h1,h2⟩:=h
  exact ⟨y,List.mem_of_getLast? h1,h2⟩
 ·exact ⟨_,eo _ (bo.2 rfl),rfl⟩
theorem gl {X:WX} {st:List Str} {z:Int} (h:X.at' z):(X.label st).at' z:=by
 obtain ⟨y,hy,e⟩:=h
 refine ⟨y,?_,e⟩
 unfold WX.label
 split
 ·exact hy
 ·exact du _ hy
theorem label_up {X:WX} {st:List Str} (h:upM (-1) X.M) (hl:∀ y ∈ X.M,y.1≤X.C.length):upM (-1) (X.label st).M∧∀ y ∈ (X.label st).M,y.1≤X.C.length:=by
 unfold WX.label
 split
 ·exact ⟨h,hl⟩
 ·rename_i hn
  refine ⟨upM_snoc h (by show (-1:Int) < X.C.length; omega) fun y hy=>?_,fun y hy=>?_⟩
  ·show y.1 < (X.C.length:Int)
   cases e:X.M.getLast? with
   | none =>
    rw [List.getLast?_eq_none_iff] at e
    rw [e] at hy; cases hy
   | some z =>
    have h1:=upM_last h e y hy
    have h2:=hl z (List.mem_of_getLast? e)
    have h3:z.1≠X.C.length:=fun e2=>hn ⟨z,e,e2⟩
    omega
  ·rcases bf.1 hy with hy | hy
   ·exact hl y hy
   ·rw [bo.1 hy]; exact Int.le_refl _
theorem GrI.label {H:List Nat} {X:WX} (h:GrI H X) (st:List Str):GrI H (X.label st) where
 ok i x e:=by rw [ff] at e; exact h.ok i x e
 br i x e a c:=by rw [ff] at e; exact gl (h.br i x e a c)
 en i x e a:=by rw [ff] at e; exact gl (h.en i x e a)
 up:=(label_up h.up h.le).1
 le y hy:=by rw [ff]; exact (label_up h.up h.le).2 y hy
 tr t ht:=by
  rw [label_S] at ht
  obtain ⟨h1,h2,h3,h4⟩:=h.tr t ht
  exact ⟨h1,h2,by rw [ff]; exact h3,gl h4⟩
 ho i hi:=by rw [ff]; exact h.ho i hi
theorem GrI.last {H H':List Nat} {X:WX} (h:GrI H X) {E:List InsU} {y:InsU} (hE:Plain E) (hy:okI y) (hb:formN y.op=7→(X.C.length+E.length) ∈ H'∨X.at' y.n) (hH:∀ i,i ∈ H' ↔ i ∈ H∨(i=X.C.length+E.length∧formN y.op=7∧(X.C.length+E.length) ∈ H')) (st:List Str) :
  GrI H' ((X.add (E++[y])).label st):=by
 have hlen:(X.add (E++[y])).C.length=X.C.length+E.length+1:=by rw [dv]; simp; omega
 have hM:∀ z,X.at' z→((X.add (E++[y])).label st).at' z:=fun z hz=>gl (X:=X.add (E++[y])) hz
 have hget:∀ (i:Nat) (x:InsU),(X.C++(E++[y]))[i]? = some x→X.C[i]? = some x∨x ∈ E∨(i=X.C.length+E.length∧x=y):=fun i x e=>by
  rw [List.getElem?_append] at e
  split at e
  ·exact .inl e
  ·rw [List.getElem?_append] at e
   split at e
   ·exact .inr (.inl (a8 e))
   ·rename_i h1 h2
    have:=List.getElem?_eq_some_iff.1 e
    obtain ⟨h3,h4⟩:=this
    simp only [ce] at h3
    have h5:i - X.C.length - E.length=0:=by omega
    refine .inr (.inr ⟨by omega,?_⟩)
    simp only [h5,List.getElem_cons_zero] at h4
    exact h4.symm
 have hlb:=label_up (X:=X.add (E++[y])) (st:=st) h.up (fun z hz=>by have:=h.le z hz; rw [hlen]; omega)
 refine ⟨fun i x e=>?_,fun i x e a c=>?_,fun i x e a=>?_,hlb.1,fun z hz=>?_,fun t ht=>?_,fun i hi=>?_⟩
 ·rw [ff] at e
  rcases hget i x e with e | e | ⟨_,rfl⟩
  ·exact h.ok i x e
  ·exact (hE x e).1
  ·exact hy
 ·rw [ff] at e
  rcases hget i x e with e | e | ⟨rfl,rfl⟩
  ·exact hM _ (h.br i x e a fun hi=>c ((hH i).2 (.inl hi)))
  ·exact absurd a (hE x e).2.1
  ·rcases hb a with hb | hb
   ·exact absurd hb c
   ·exact hM _ hb
 ·rw [ff] at e
  rcases hget i x e with e | e | ⟨rfl,rfl⟩
  ·exact hM _ (h.en i x e a)
  ·rw [(hE x e).2.2] at a; cases a
  ·rw [← hlen]; exact label_at _ _
 ·rw [ff]; exact hlb.2 z hz
 ·rw [label_S] at ht
  obtain ⟨h1,h2,h3,h4⟩:=h.tr t ht
  exact ⟨h1,h2,by rw [ff,hlen]; omega,hM _ h4⟩
 ·rw [ff]
  rcases (hH i).1 hi with hi | ⟨rfl,h2,_⟩
  ·obtain ⟨x,h1,h2⟩:=h.ho i hi
   exact ⟨x,by simp only [WX.add]; rw [ag (List.getElem?_eq_some_iff.1 h1).1]; exact h1,h2⟩
  ·refine ⟨y,?_,h2⟩
   simp only [WX.add]
   rw [ai (by omega),ai (by omega)]
   simp
theorem GrI.told {H:List Nat} {X:WX} (h:GrI H X) {E:List InsU} {y:InsU} (hE:Plain E) (hy:okI y) (hb:formN y.op=7→X.at' y.n) (st:List Str):GrI H ((X.add (E++[y])).label st) :=
 h.last hE hy (fun a=>.inr (hb a)) (fun i=>⟨.inl,fun a=>by
  rcases a with a | ⟨rfl,_,a⟩
  ·exact a
  ·exact a⟩) st
theorem GrI.hole {H:List Nat} {X:WX} (h:GrI H X) {E:List InsU} {y:InsU} (hE:Plain E) (hy:okI y) (hb:formN y.op=7) (st:List Str):GrI ((X.C.length+E.length) :: H) ((X.add (E++[y])).label st) :=
 h.last hE hy (fun _=>.inl (av ..)) (fun i=>⟨fun a=>by
  rcases ba.1 a with rfl | a
  ·exact .inr ⟨rfl,hb,av ..⟩
  ·exact .inl a,fun a=>by
  rcases a with a | ⟨rfl,_,a⟩
  ·exact bq _ a
  ·exact a⟩) st
theorem GrI.cond {H:List Nat} {X:WX} (h:GrI H X) {E:List InsU} {y:InsU} (hE:Plain E) (hy:okI y) (hb:formN y.op=7) (hn:endsC y.op=false):GrI ((X.C.length+E.length) :: H) (X.add (E++[y])):=by
 have hlen:(X.add (E++[y])).C.length=X.C.length+E.length+1:=by rw [dv]; simp; omega
 have hget:∀ (i:Nat) (x:InsU),(X.C++(E++[y]))[i]? = some x→X.C[i]? = some x∨x ∈ E∨(i=X.C.length+E.length∧x=y):=fun i x e=>by
  rw [List.getElem?_append] at e
  split at e
  ·exact .inl e
  ·rw [List.getElem?_append] at e
   split at e
   ·exact .inr (.inl (a8 e))
   ·rename_i h1 h2
    have:=List.getElem?_eq_some_iff.1 e
    obtain ⟨h3,h4⟩:=this
    simp only [ce] at h3
    have h5:i - X.C.length - E.length=0:=by omega
    refine .inr (.inr ⟨by omega,?_⟩)
    simp only [h5,List.getElem_cons_zero] at h4
    exact h4.symm
 refine ⟨fun i x e=>?_,fun i x e a c=>?_,fun i x e a=>?_,h.up,fun z hz=>?_,fun t ht=>?_,fun i hi=>?_⟩
 ·rcases hget i x e with e | e | ⟨_,rfl⟩
  ·exact h.ok i x e
  ·exact (hE x e).1
  ·exact hy
 ·rcases hget i x e with e | e | ⟨rfl,rfl⟩
  ·exact h.br i x e a fun hi=>c (bq _ hi)
  ·exact absurd a (hE x e).2.1
  ·exact absurd (av ..) c
 ·rcases hget i x e with e | e | ⟨rfl,rfl⟩
  ·exact h.en i x e a
  ·rw [(hE x e).2.2] at a; cases a
  ·rw [hn] at a; cases a
 ·have:=h.le z hz; rw [hlen]; omega
 ·obtain ⟨h1,h2,h3,h4⟩:=h.tr t ht
  exact ⟨h1,h2,by rw [hlen]; omega,h4⟩
 ·rcases ba.1 hi with rfl | hi
  ·refine ⟨y,?_,hb⟩
   simp only [WX.add]
   rw [ai (by omega),ai (by omega)]
   simp
  ·obtain ⟨x,h1,h2⟩:=h.ho i hi
   exact ⟨x,by simp only [WX.add]; rw [ag (List.getElem?_eq_some_iff.1 h1).1]; exact h1,h2⟩
theorem GrI.tell {H:List Nat} {X:WX} {i:Nat} (h:GrI (i :: H) X) {z:Int} (hz:X.at' z):GrI H (X.setN i z):=by
 have hlen:(X.setN i z).C.length=X.C.length:=by simp [WX.setN]
 have hget:∀ (j:Nat) (x:InsU),(X.setN i z).C[j]? = some x→∃ x0,X.C[j]? = some x0∧x.op=x0.op∧(j=i→x.n=z)∧(j≠i→x=x0):=fun j x e=>by
  simp only [WX.setN,List.getElem?_modify] at e
  cases e0:X.C[j]? with
  | none=>rw [e0] at e; simp at e
  | some x0 =>
   rw [e0] at e
   simp only [Option.map_eq_map,db,ap] at e
   refine ⟨x0,rfl,?_⟩
   split at e
   ·rename_i hji
    subst e
    exact ⟨rfl,fun _=>rfl,fun c=>absurd hji.symm c⟩
   ·rename_i hji
    subst e
    exact ⟨rfl,fun c=>absurd c.symm hji,fun _=>rfl⟩
 obtain ⟨xi,hxi,hfi⟩:=h.ho i (av ..)
 refine ⟨fun j x e=>?_,fun j x e a c=>?_,fun j x e a=>?_,h.up,fun y hy=>?_,fun t ht=>?_,fun j hj=>?_⟩
 ·obtain ⟨x0,h1,h2,h3,h4⟩:=hget j x e
  by_cases hji:j=i
  ·subst hji
   rw [hxi] at h1
   cases h1
   obtain ⟨k1,k2,_⟩:=h.ok _ _ hxi
   refine ⟨by rw [h2]; exact k1,by rw [h2]; exact k2,fun a=>?_⟩
   rw [h2,hfi] at a
   rcases a with a | a <;> exact absurd a (by decide)
  ·rw [h4 hji]; exact h.ok _ _ h1
 ·obtain ⟨x0,h1,h2,h3,h4⟩:=hget j x e
  by_cases hji:j=i
  ·rw [h3 hji]; exact hz
  ·rw [h2] at a
   rw [h4 hji]
   exact h.br _ _ h1 a fun hj=>(ba.1 hj).elim hji c
 ·obtain ⟨x0,h1,h2,_,_⟩:=hget j x e
  rw [h2] at a
  exact h.en _ _ h1 a
 ·rw [hlen]; exact h.le y hy
 ·obtain ⟨h1,h2,h3,h4⟩:=h.tr t ht
  exact ⟨h1,h2,by rw [hlen]; exact h3,h4⟩
 ·obtain ⟨x,h1,h2⟩:=h.ho j (bq _ hj)
  by_cases hji:i=j
  ·exact ⟨{ x with n:=z },by simp [WX.setN,List.getElem?_modify,h1,hji],h2⟩
  ·exact ⟨x,by simp [WX.setN,List.getElem?_modify,h1,hji],h2⟩
theorem GrI.aim {H:List Nat} {X:WX} {i:Nat} (h:GrI (i :: H) (X.label [])):GrI H (X.aim i):=h.tell (label_at X [])
theorem GrI.aim' {H:List Nat} {X:WX} {i:Nat} (h:GrI (i :: H) X):GrI H (X.aim i):=(h.label []).aim
theorem GrI.trap {H:List Nat} {X:WX} (h:GrI H X) {t:TrapU} (ht:0≤t.lo∧t.lo < t.hi∧t.hi≤X.C.length∧X.at' t.at'):GrI H (X.trap t) where
 ok:=h.ok
 br:=h.br
 en:=h.en
 up:=h.up
 le:=h.le
 tr t' ht':=by
  rcases bf.1 ht' with a | a
  ·exact h.tr t' a
  ·rw [bo.1 a]; exact ht
 ho:=h.ho
theorem aim_mono {X:WX} {i:Nat} {z:Int} (h:X.at' z):(X.aim i).at' z:=gl (X:=X) (st:=[]) h
mutual
theorem GS.at_mono:∀ {X Y:WX},GS X Y→∀ z,X.at' z→Y.at' z
 | _,_,.flat X E _=>fun z h=>h
 | _,_,.choice X X2 X3 a y _ _ h1 h2=>fun z h=>aim_mono (GSs.at_mono h2 z (aim_mono (X:=X2.add [opI 167 0]) (GSs.at_mono h1 z h)))
 | _,_,.loop X X2 r _ h1=>fun z h=>aim_mono (X:=X2.add _) (GSs.at_mono h1 z (gl (X:=X.add [numI r,opI 54 2]) h))
 | _,_,.guarded X X2 X3 y th _ h1 h2=>fun z h=>by
  have k:=GSs.at_mono h2 z (gl (X:=X2.add _) (GSs.at_mono h1 z h))
  cases th
  ·exact aim_mono (i:=X2.C.length+1) k
  ·exact gl k
theorem GSs.at_mono:∀ {X Y:WX},GSs X Y→∀ z,X.at' z→Y.at' z
 | _,_,.one X Y h=>GS.at_mono h
 | _,_,.more X Y Z h1 h2=>fun z h=>GS.at_mono h2 z (GSs.at_mono h1 z h)
end
theorem op_ok {op:Int} {n:Int} (h:(0≤op∧op < 256)∧formN op≠0∧formN op≠2∧formN op≠8):okI (opI op n):=⟨h.1,h.2.1,fun e=>by rcases e with e | e; exact absurd e h.2.2.1; exact absurd e h.2.2.2⟩
theorem if_ok {y:Int} (h:y ∈ acts185):okI (opI y 0)∧formN y=7∧endsC y=false:=by
 have:∀ y ∈ acts185,okI (opI y 0)∧formN y=7∧endsC y=false:=by decide
 exact this y h
theorem goto_ok (n:Int):okI (opI 167 n):=op_ok (by decide)
mutual
theorem GS.inv:∀ {X Y:WX},GS X Y→∀ H,GrI H X→GrI H Y
 | _,_,.flat X E hE=>fun H h=>h.add (GF.plain hE)
 | _,_,.choice X X2 X3 a y ha hy h1 h2=>fun H h=>by
  obtain ⟨k1,k2,k3⟩:=if_ok hy
  have i1:=GSs.inv h1 _ (h.cond (GI.plain ha) k1 k2 k3)
  have i2:=i1.hole (E:=[]) (by decide) (goto_ok 0) (by decide) []
  have i3:GrI ((X.C.length+a.length) :: X2.C.length :: H) ((X2.add [opI 167 0]).label []) :=
   { ok:=i2.ok,br:=fun i x e b c=>i2.br i x e b fun d=>c (swap_mem (by simpa using d)),en:=i2.en,up:=i2.up,le:=i2.le,tr:=i2.tr,ho:=fun i hi=>i2.ho i (by simpa using swap_mem hi) }
  exact (GSs.inv h2 _ i3.aim).aim'
 | _,_,.loop X X2 r hr h1=>fun H h=>by
  have i1:=(h.add (E:=[numI r,opI 54 2]) (da (A:=[numI r]) (p_num r) (by decide))).label []
  have hm:((X.add [numI r,opI 54 2]).label []).at' ((X.C.length+2:Nat):Int):=by
   have h:=label_at (X.add [numI r,opI 54 2]) []
   rw [dv] at h
   exact h
  obtain ⟨k1,k2,k3⟩:=if_ok (y:=158) (by decide)
  have i2:=i1.cond (E:=[opI 21 2]) (by decide) k1 k2 k3
  have i3:=GSs.inv h1 _ i2
  have i4:=i3.told (E:=[⟨132,2,-1,[],[],[],[]⟩]) (y:=opI 167 ((X.C.length+2:Nat):Int)) (by decide) (goto_ok _) (fun _=>GSs.at_mono h1 _ hm) []
  have e:((X.add [numI r,opI 54 2]).label []).C.length+[opI 21 2].length=X.C.length+3:=by rw [ff,dv]; rfl
  rw [e] at i4
  exact i4.aim
 | _,_,.guarded X X2 X3 y th hy h1 h2=>fun H h=>by
  have i1:=GSs.inv h1 _ h
  have hl:=GSs.len h1
  have r2:=GSs.inv h2
  have m2:=GSs.at_mono h2
  have hl2:=GSs.len h2
  cases th with
  | true =>
   have i2:=i1.told (E:=[⟨187,0,0,[79,111,112,115],[],[],[]⟩]) (y:=opI 191 0) (by decide) (op_ok (by decide)) (fun a=>absurd a (by decide)) (stackT y)
   have i3:=i2.add (E:=[opI 87 0]) (by decide)
   have i4:=(r2 _ i3).label []
   have ht:=m2 _ (label_at (X2.add [⟨187,0,0,[79,111,112,115],[],[],[]⟩,opI 191 0]) (stackT y))
   rw [dv,ff,dv] at hl2
   simp only [if_true,bp,a7] at hl2
   refine i4.trap ⟨by show (0:Int)≤(X.C.length:Int); omega,by show (X.C.length:Int) < (X2.C.length:Int)+2; omega,?_,?_⟩
   ·rw [ff]; show (X2.C.length:Int)+2≤X3.C.length; omega
   ·refine gl ?_
    rw [dv] at ht
    exact ht
  | false =>
   have i2:=i1.hole (E:=[opI 0 0]) (y:=opI 167 0) (by decide) (goto_ok 0) (by decide) (stackT y)
   have i3:=i2.add (E:=[opI 87 0]) (by decide)
   have i4:=(r2 _ i3).aim'
   have ht:=m2 _ (label_at (X2.add [opI 0 0,opI 167 0]) (stackT y))
   rw [dv,ff,dv] at hl2
   simp only [bj,if_false,bp,a7] at hl2
   refine i4.trap ⟨by show (0:Int)≤(X.C.length:Int); omega,by show (X.C.length:Int) < (X2.C.length:Int)+1; omega,?_,?_⟩
   ·show (X2.C.length:Int)+1≤_
    rw [aim_len]; omega
   ·refine aim_mono ?_
    rw [dv] at ht
    exact ht
theorem GSs.inv:∀ {X Y:WX},GSs X Y→∀ H,GrI H X→GrI H Y
 | _,_,.one X Y h=>GS.inv h
 | _,_,.more X Y Z h1 h2=>fun H h=>GS.inv h2 H (GSs.inv h1 H h)
end
end Go.Abs.AbsMk

namespace Go.Abs.AbsMk
open Go.Abs.AbsMake
open Go.Abs.AbsDesc hiding T
open Go.Abs.AbsHier hiding T sub
variable {os O B:List AObj} {b w:Nat}
def tapeO (tv:AVal) (p:Nat):AObj:=.cells 2 [tv,.int .i64 p]
structure Tape (O:List AObj) (tN:Nat) (tb:List UInt8) (tv:AVal) (p:Nat):Prop where
 at':O[tN]? = some (tapeO tv p)
 le:p≤tb.length
 small:tb.length≤1000
structure TapeV (O:List AObj) (tN:Nat) (tb:List UInt8) (tv:AVal):Prop where
 row:∃ a c,tv = .slice a tb.length c∧Row O 1 byteCell tb a∧∀ i o,a=some (i,o)→i≠tN
theorem set_same {O:List AObj} {i:Nat} {o:AObj} (h:O[i]? = some o):O.set i o=O:=by
 refine ia fun j=>?_
 by_cases e:i=j
 ·subst e; rw [a9,if_pos rfl,if_pos (ah h),h]
 ·rw [al e]
section
attribute [-simp] getElem?_pos getElem?_neg List.all_eq_true
attribute [local simp] gz gs nltT nltF iltT iltF ileT nleT cf
theorem s102 {tN p:Nat} {tb:List UInt8} {tv:AVal} (ht:Tape O tN tb tv p) (hv:TapeV O tN tb tv) (hb:b≤tN) {n:Int} (hn:1≤n) (hn2:n≤1000) :
  ∃ (r p':Nat) (nx:Nat→Nat),(r:Int) < n∧p'≤tb.length∧((∀ w,nx w=w)∨(∀ w,nx w=min w tN))∧∀ w,xCall T 102 [.ptr (some (tN,0)),.int .i64 n] ⟨O,b,w⟩=some (.int .i64 r,⟨O.set tN (tapeO tv p'),b,nx w⟩):=by
 obtain ⟨a,c,rfl,hr,hd⟩:=hv.row
 have h0:=ht.at'
 have hle:=ht.le
 have hsm:=ht.small
 have hl:=ah h0
 unfold tapeO at h0
 by_cases c1:n < 2
 ·refine ⟨0,p,id,by omega,hle,.inl fun w=>rfl,fun w=>?_⟩
  rw [set_same ht.at']
  simp (disch:=omega) [az t102,code102,c1]
 ·by_cases c2:tb.length≤p
  ·refine ⟨0,p,id,by omega,hle,.inl fun w=>rfl,fun w=>?_⟩
   rw [set_same ht.at']
   simp (disch:=omega) [az t102,code102,c1,h0,c2]
  ·obtain ⟨x,hx⟩:∃ x,tb[p]? = some x:=⟨_,ak (by omega)⟩
   obtain ⟨q,o,cs,ha,hp,hpl,hcs,hcv⟩:=gm hr hx
   subst ha
   have hq:q≠tN:=hd q o rfl
   have hv2:cs[o+p]? = some (.int .u8 x.toNat):=by
    have hv':(List.drop (o+p*1) cs).take 1=[.int .u8 x.toNat]:=hcv
    have:=congrArg (fun z=>z[0]?) hv'
    simpa [List.getElem?_take,c9] using this
   have hxl:=x.toNat_lt
   have hm:((x.toNat:Int).tmod n).toNat < n:=by
    rw [jb (by omega)]
    have:=Int.emod_lt_of_pos (x.toNat:Int) (show 0 < n by omega)
    have:=Int.emod_nonneg (x.toNat:Int) (show n≠0 by omega)
    omega
   have hm2:(((x.toNat:Int).tmod n).toNat:Int)=(x.toNat:Int).tmod n:=by
    rw [jb (by omega)]
    have:=Int.emod_nonneg (x.toNat:Int) (show n≠0 by omega)
    omega
   have hp2:∀ y,(O.set tN y)[q]? = some (.cells 1 cs):=fun y=>by rw [al (Ne.symm hq)]; exact hp
   have ht2:∀ y,(O.set tN y)[tN]? = some y:=fun y=>by rw [a9,if_pos rfl,if_pos hl]
   have e2:((p+1:Nat):Int)=(p:Int)+1:=by omega
   have n0:¬ n=0:=by omega
   refine ⟨((x.toNat:Int).tmod n).toNat,p+1,fun w=>min w tN,hm,by omega,.inr fun w=>rfl,fun w=>?_⟩
   rw [hm2]
   unfold tapeO
   rw [e2]
   simp (disch:=omega) [az t102,code102,c1,h0,c2,hb,hp2,ht2,hv2,n0]
end
structure Own {α:Type} (O:List AObj) (N e:Nat) (f:α→List AVal) (L:List α) (p:Option (Nat × Nat)) (c:Option Nat):Prop where
 some:∀ i o,p=some (i,o)→o=0∧c=Option.none∧N < i∧O[i]? = some (.cells e (L.flatMap f))
 none:p=Option.none→L=[]∧c=Option.some 0
structure InsU.short (x:InsU):Prop where
 cls:x.cls.length≤100
 name:x.name.length≤100
 desc:x.desc.length≤100
 text:x.text.length≤100
structure Leaf (O:List AObj) (N:Nat) (pc pt px:Option (Nat × Nat)) (L:List Str) (a:Option (Nat × Nat)):Prop where
 row:Row O 1 strC L a
 len:L.length≤100
 short:∀ t ∈ L,t.length≤100
 at':∀ i o,a=some (i,o)→N < i∧i < O.length∧(∀ o',pc≠some (i,o'))∧(∀ o',pt≠some (i,o'))∧(∀ o',px≠some (i,o'))
def wrO (tN:Nat) (pc pt px:Option (Nat × Nat)) (cc ct cx:Option Nat) (n nt nx:Nat) (dep bud:Int):AObj :=
 .cells 6 [.ptr (some (tN,0)),.slice pc n cc,.slice pt nt ct,.slice px nx cx,.int .i64 dep,.int .i64 bud]
structure Wr (tN:Nat) (tb:List UInt8) (tv:AVal) (B O:List AObj) (pc pt px:Option (Nat × Nat)) (cc ct cx:Option Nat) (C:List InsU) (S:List TrapU) (M:List MapU) (dep bud:Int):Prop where
 keep:∀ i,i < B.length→i≠tN→O[i]? = B[i]?
 tape:∃ p,Tape O tN tb tv p
 tv:TapeV B tN tb tv
 lt:tN < B.length
 wr:O[B.length]? = some (wrO tN pc pt px cc ct cx C.length S.length M.length dep bud)
 c:Own O B.length 7 InsU.cells C pc cc
 s:Own O B.length 4 TrapU.cells S pt ct
 m:Own O B.length 3 MapU.cells M px cx
 cs:∀ i o o',pc=some (i,o)→pt≠some (i,o')
 cm:∀ i o o',pc=some (i,o)→px≠some (i,o')
 sm:∀ i o o',pt=some (i,o)→px≠some (i,o')
 cok:∀ x ∈ C,InsU.short x
 sok:∀ x ∈ S,x.cls ∈ classesT
 mok:∀ x ∈ M,Leaf O B.length pc pt px x.locals x.la∧Leaf O B.length pc pt px x.stack x.sa
def _root_.Go.Abs.MapU.key (x:MapU):Int × List Str × List Str:=(x.at',x.locals,x.stack)
structure Ws (tN:Nat) (tb:List UInt8) (tv:AVal) (B O:List AObj) (X:WX) (k:Nat) (dep:Int):Prop where
 ex:∃ pc pt px cc ct cx M bud,Wr tN tb tv B O pc pt px cc ct cx X.C X.S M dep bud∧M.map MapU.key=X.M∧X.C.length≤k∧X.S.length≤k∧M.length≤k
section
variable {tN:Nat} {tb:List UInt8} {tv:AVal} {pc pt px:Option (Nat × Nat)} {cc ct cx:Option Nat} {C:List InsU} {S:List TrapU} {M:List MapU} {dep bud:Int}
theorem Wr.len (h:Wr tN tb tv B O pc pt px cc ct cx C S M dep bud):B.length < O.length:=ah h.wr
theorem Leaf.app {N:Nat} {L:List Str} {a:Option (Nat × Nat)} (h:Leaf O N pc pt px L a) (X:List AObj):Leaf (O++X) N pc pt px L a :=
 ⟨(Pre.app O X).row h.row,h.len,h.short,fun i o e=>by
  obtain ⟨h1,h2,h3⟩:=h.at' i o e
  exact ⟨h1,by rw [bc]; omega,h3⟩⟩
theorem Leaf.set {N j:Nat} {L:List Str} {a:Option (Nat × Nat)} {y:AObj} (h:Leaf O N pc pt px L a) (hj:∀ o,a≠some (j,o)):Leaf (O.set j y) N pc pt px L a :=
 ⟨⟨fun hne=>by
  obtain ⟨i,o,cs,h1,h2,h3⟩:=h.row.at' hne
  exact ⟨i,o,cs,h1,by rw [al (fun e=>hj o (by rw [e]; exact h1))]; exact h2,h3⟩⟩,h.len,h.short,fun i o e=>by
  obtain ⟨h1,h2,h3⟩:=h.at' i o e
  exact ⟨h1,by simpa using h2,h3⟩⟩
theorem Leaf.npc {N:Nat} {L:List Str} {a:Option (Nat × Nat)} {q:Nat} (h:Leaf O N pc pt px L a) (hq:∀ i o,a=some (i,o)→i < q):Leaf O N (some (q,0)) pt px L a :=
 ⟨h.row,h.len,h.short,fun i o e=>by
  obtain ⟨h1,h2,h3,h4,h5⟩:=h.at' i o e
  exact ⟨h1,h2,fun o' e'=>by have:=hq i o e; simp only [ap,bt] at e'; omega,h4,h5⟩⟩
theorem Leaf.npt {N:Nat} {L:List Str} {a:Option (Nat × Nat)} {q:Nat} (h:Leaf O N pc pt px L a) (hq:∀ i o,a=some (i,o)→i < q):Leaf O N pc (some (q,0)) px L a :=
 ⟨h.row,h.len,h.short,fun i o e=>by
  obtain ⟨h1,h2,h3,h4,h5⟩:=h.at' i o e
  exact ⟨h1,h2,h3,fun o' e'=>by have:=hq i o e; simp only [ap,bt] at e'; omega,h5⟩⟩
theorem Leaf.npx {N:Nat} {L:List Str} {a:Option (Nat × Nat)} {q:Nat} (h:Leaf O N pc pt px L a) (hq:∀ i o,a=some (i,o)→i < q):Leaf O N pc pt (some (q,0)) L a :=
 ⟨h.row,h.len,h.short,fun i o e=>by
  obtain ⟨h1,h2,h3,h4,h5⟩:=h.at' i o e
  exact ⟨h1,h2,h3,h4,fun o' e'=>by have:=hq i o e; simp only [ap,bt] at e'; omega⟩⟩
def killO:Option (Nat × Nat)→List AObj→List AObj
 | none,O=>O
 | some (i,_),O=>O.set i .dead
def killW:Option (Nat × Nat)→Nat→Nat
 | none,w=>w
 | some (i,_),w=>min w i
@[simp] theorem killO_len (p:Option (Nat × Nat)) (O:List AObj):(killO p O).length=O.length:=by
 cases p with
 | none=>rfl
 | some q=>obtain ⟨i,o⟩:=q; simp [killO]
theorem killW_le (p:Option (Nat × Nat)) (w:Nat):killW p w≤w:=by
 cases p with
 | none=>exact aj _
 | some q=>obtain ⟨i,o⟩:=q; exact eq ..
theorem app_own {α:Type} {e by':Nat} {f:α→List AVal} {L:List α} {p:Option (Nat × Nat)} {c:Option Nat} {N:Nat} {x:α} (hf:∀ y,(f y).length=e) (h:Own O N e f L p c) (hb:b≤N) (hl:(L.length+1)*by'≤140737488355328) (hl2:L.length≤1000000) (X:List AObj) (w:Nat) :
  aAppend e by' ⟨O++(X++[.cells e (f x)]),b,w⟩ (.slice p L.length c) (.slice (some (O.length+X.length,0)) 1 (some 1)) =
   some (.slice (some (O.length+X.length+1,0)) (L.length+1) none,⟨killO p O++(X++[.cells e (f x),.cells e ((L++[x]).flatMap f)]),b,killW p w⟩):=by
 have hfl:(L.flatMap f).length=L.length*e:=flat_len f e hf L
 have hz:rowOf e ⟨O++(X++[.cells e (f x)]),b,w⟩ (.slice (some (O.length+X.length,0)) 1 (some 1))=some (f x) :=
  rowOfC (by show (O++(X++[AObj.cells e (f x)]))[O.length+X.length]? = _; rw [f0,dh]; rfl) (by rw [hf,Nat.one_mul])
 have hs:(O++(X++[AObj.cells e (f x)])).length=O.length+X.length+1:=by simp; omega
 have he:(L++[x]).flatMap f=L.flatMap f++f x:=by simp
 cases p with
 | none =>
  obtain ⟨rfl,rfl⟩:=h.none rfl
  unfold aAppend
  simp only [hz,a7,rowOf0,aApp,alen]
  have q1:¬ (1:Nat)=0:=by decide
  have q2:(0+1)*by'≤140737488355328∧0+1≤9223372036854775807:=⟨by simpa using hl,by decide⟩
  simp only [eq_false q1,eq_true q2,if_false,if_true]
  simp [Heap.push,Heap.size,killO,killW]
  omega
 | some q =>
  obtain ⟨i,o⟩:=q
  obtain ⟨rfl,rfl,h3,h4⟩:=h.some i o rfl
  have hi:=ah h4
  have h5:(O++(X++[AObj.cells e (f x)]))[i]? = some (.cells e (L.flatMap f)):=by rw [ag hi]; exact h4
  have hz1:rowOf e ⟨O++(X++[.cells e (f x)]),b,w⟩ (.slice (some (i,0)) L.length none)=some (L.flatMap f):=rowOfC h5 hfl
  have hr:rowIs ⟨O++(X++[.cells e (f x)]),b,w⟩ i e=true:=by
   unfold rowIs Heap.get
   simp only [h5]
   simp
  unfold aAppend
  simp only [hz,hz1,aApp,alen]
  have q1:¬ (1:Nat)=0:=by decide
  have q2:(L.length+1)*by'≤140737488355328∧L.length+1≤9223372036854775807:=⟨hl,by omega⟩
  have q3:¬ (none:Option Nat)=some L.length:=by simp
  have q4:(⟨O++(X++[AObj.cells e (f x)]),b,w⟩:Heap).base≤i∧rowIs ⟨O++(X++[AObj.cells e (f x)]),b,w⟩ i e=true:=⟨by show b≤i; omega,hr⟩
  simp only [eq_false q1,eq_true q2,eq_false q3,eq_true q4,if_false,if_true]
  simp only [Heap.push,Heap.put,Heap.size,killO,killW,List.set_append_left _ _ hi,fw,hs,he,bh,b9,b0,bc,bp,a7]
end
end Go.Abs.AbsMk

namespace Go.Abs.AbsMk
open Go.Abs.AbsMake
open Go.Abs.AbsDesc hiding T
open Go.Abs.AbsHier hiding T sub
variable {os O B:List AObj} {b w:Nat} {tN:Nat} {tb:List UInt8} {tv:AVal} {pc pt px:Option (Nat × Nat)} {cc ct cx:Option Nat} {C:List InsU} {S:List TrapU} {M:List MapU} {dep bud:Int}
section
variable {α:Type} {N e:Nat} {f:α→List AVal} {L:List α} {p:Option (Nat × Nat)} {c:Option Nat}
theorem Own.app (h:Own O N e f L p c) (X:List AObj):Own (O++X) N e f L p c :=
 ⟨fun i o hp=>by
  obtain ⟨h1,h2,h3,h4⟩:=h.some i o hp
  exact ⟨h1,h2,h3,by rw [ag (ah h4)]; exact h4⟩,h.none⟩
theorem Own.set (h:Own O N e f L p c) {j:Nat} (y:AObj) (hj:∀ o,p≠Option.some (j,o)):Own (O.set j y) N e f L p c :=
 ⟨fun i o hp=>by
  obtain ⟨h1,h2,h3,h4⟩:=h.some i o hp
  exact ⟨h1,h2,h3,by rw [al (fun e=>hj o (by rw [e]; exact hp))]; exact h4⟩,h.none⟩
theorem Own.kill (h:Own O N e f L p c) {q:Option (Nat × Nat)} (hq:∀ i o o',q=Option.some (i,o)→p≠Option.some (i,o')):Own (killO q O) N e f L p c:=by
 cases q with
 | none=>exact h
 | some r=>obtain ⟨i,o⟩:=r; exact h.set _ fun o'=>hq i o o' rfl
theorem Leaf.kill {L:List Str} {a:Option (Nat × Nat)} (h:Leaf O N pc pt px L a) {q:Option (Nat × Nat)} (hq:∀ i o o',q=some (i,o)→a≠some (i,o')):Leaf (killO q O) N pc pt px L a:=by
 cases q with
 | none=>exact h
 | some r=>obtain ⟨i,o⟩:=r; exact h.set fun o'=>hq i o o' rfl
theorem kill_get {q:Option (Nat × Nat)} {i:Nat} (hq:∀ o,q≠some (i,o)):(killO q O)[i]? = O[i]?:=by
 cases q with
 | none=>rfl
 | some r=>obtain ⟨j,o⟩:=r; exact al fun e=>hq o (by rw [e])
end
theorem Wr.setW (h:Wr tN tb tv B O pc pt px cc ct cx C S M dep bud) (dep' bud':Int):Wr tN tb tv B (O.set B.length (wrO tN pc pt px cc ct cx C.length S.length M.length dep' bud')) pc pt px cc ct cx C S M dep' bud' where
 keep:=fun i hi ht=>by rw [al (by omega)]; exact h.keep i hi ht
 tape:=by
  obtain ⟨p,h1⟩:=h.tape
  exact ⟨p,by rw [al (by have:=h.lt; omega)]; exact h1.at',h1.le,h1.small⟩
 tv:=h.tv
 lt:=h.lt
 wr:=by rw [a9,if_pos rfl,if_pos h.len]
 c:=h.c.set _ fun o e=>by have:=(h.c.some _ _ e).2.2.1; omega
 s:=h.s.set _ fun o e=>by have:=(h.s.some _ _ e).2.2.1; omega
 m:=h.m.set _ fun o e=>by have:=(h.m.some _ _ e).2.2.1; omega
 cs:=h.cs
 cm:=h.cm
 sm:=h.sm
 cok:=h.cok
 sok:=h.sok
 mok:=fun x hx=>⟨(h.mok x hx).1.set fun o e=>by have:=((h.mok x hx).1.at' _ _ e).1; omega,(h.mok x hx).2.set fun o e=>by have:=((h.mok x hx).2.at' _ _ e).1; omega⟩
theorem Wr.setT (h:Wr tN tb tv B O pc pt px cc ct cx C S M dep bud) {p:Nat} (hp:p≤tb.length):Wr tN tb tv B (O.set tN (tapeO tv p)) pc pt px cc ct cx C S M dep bud where
 keep:=fun i hi ht=>by rw [al (by omega)]; exact h.keep i hi ht
 tape:=by
  obtain ⟨q,h1⟩:=h.tape
  exact ⟨p,by rw [a9,if_pos rfl,if_pos (by have:=h.lt; have:=h.len; omega)],hp,h1.small⟩
 tv:=h.tv
 lt:=h.lt
 wr:=by rw [al (by have:=h.lt; omega)]; exact h.wr
 c:=h.c.set _ fun o e=>by have:=(h.c.some _ _ e).2.2.1; have:=h.lt; omega
 s:=h.s.set _ fun o e=>by have:=(h.s.some _ _ e).2.2.1; have:=h.lt; omega
 m:=h.m.set _ fun o e=>by have:=(h.m.some _ _ e).2.2.1; have:=h.lt; omega
 cs:=h.cs
 cm:=h.cm
 sm:=h.sm
 cok:=h.cok
 sok:=h.sok
 mok:=fun x hx=>⟨(h.mok x hx).1.set fun o e=>by have:=((h.mok x hx).1.at' _ _ e).1; have:=h.lt; omega,(h.mok x hx).2.set fun o e=>by have:=((h.mok x hx).2.at' _ _ e).1; have:=h.lt; omega⟩
theorem Wr.app (h:Wr tN tb tv B O pc pt px cc ct cx C S M dep bud) (X:List AObj):Wr tN tb tv B (O++X) pc pt px cc ct cx C S M dep bud where
 keep:=fun i hi ht=>by have:=h.len; rw [ag (by omega)]; exact h.keep i hi ht
 tape:=by
  obtain ⟨p,h1⟩:=h.tape
  exact ⟨p,by rw [ag (ah h1.at')]; exact h1.at',h1.le,h1.small⟩
 tv:=h.tv
 lt:=h.lt
 wr:=by rw [ag h.len]; exact h.wr
 c:=h.c.app X
 s:=h.s.app X
 m:=h.m.app X
 cs:=h.cs
 cm:=h.cm
 sm:=h.sm
 cok:=h.cok
 sok:=h.sok
 mok:=fun x hx=>⟨(h.mok x hx).1.app X,(h.mok x hx).2.app X⟩
theorem Wr.addC (h:Wr tN tb tv B O pc pt px cc ct cx C S M dep bud) {x:InsU} (hx:InsU.short x) (X:List AObj) :
  Wr tN tb tv B ((killO pc O++(X++[AObj.cells 7 x.cells,AObj.cells 7 ((C++[x]).flatMap InsU.cells)])).set B.length (wrO tN (some (O.length+X.length+1,0)) pt px none ct cx (C.length+1) S.length M.length dep bud)) (some (O.length+X.length+1,0)) pt px none ct cx (C++[x]) S M dep bud:=by
 have hl:=h.len
 have hlt:=h.lt
 have hN:∀ o,pc≠some (B.length,o):=fun o e=>by have:=(h.c.some _ _ e).2.2.1; omega
 have hw:∀ Y,(killO pc O++Y)[B.length]? = some (wrO tN pc pt px cc ct cx C.length S.length M.length dep bud):=fun Y=>by
  rw [ag (by simpa using hl),kill_get hN]; exact h.wr
 have hlen:((killO pc O)++(X++[AObj.cells 7 x.cells,AObj.cells 7 ((C++[x]).flatMap InsU.cells)])).length=O.length+X.length+2:=by simp; omega
 constructor
 ·intro i hi ht
  rw [al (by omega),ag (by simp; omega),kill_get fun o e=>by have:=(h.c.some _ _ e).2.2.1; omega]
  exact h.keep i hi ht
 ·obtain ⟨p,h1⟩:=h.tape
  exact ⟨p,by
   rw [al (by omega),ag (by simp; omega),kill_get fun o e=>by have:=(h.c.some _ _ e).2.2.1; omega]
   exact h1.at',h1.le,h1.small⟩
 ·exact h.tv
 ·exact h.lt
 ·rw [a9,if_pos rfl,if_pos (by omega)]
  simp
 ·refine ⟨fun i o e=>?_,fun e=>by cases e⟩
  simp only [ap,bt] at e
  obtain ⟨rfl,rfl⟩:=e
  refine ⟨rfl,rfl,by omega,?_⟩
  rw [al (by omega),ai (by simp; omega)]
  have:O.length+X.length+1 - (killO pc O).length=X.length+1:=by simp; omega
  rw [this,f0]; rfl
 ·exact ((h.s.kill fun i o o' e=>h.cs i o o' e).app _).set _ fun o e=>by have:=(h.s.some _ _ e).2.2.1; omega
 ·exact ((h.m.kill fun i o o' e=>h.cm i o o' e).app _).set _ fun o e=>by have:=(h.m.some _ _ e).2.2.1; omega
 ·intro i o o' e e'
  have:=ah (h.s.some _ _ e').2.2.2
  simp only [ap,bt] at e
  omega
 ·intro i o o' e e'
  have:=ah (h.m.some _ _ e').2.2.2
  simp only [ap,bt] at e
  omega
 ·exact h.sm
 ·intro y hy
  rcases bf.1 hy with hy | hy
  ·exact h.cok y hy
  ·rw [bo.1 hy]; exact hx
 ·exact h.sok
 ·intro y hy
  obtain ⟨h1,h2⟩:=h.mok y hy
  have go:∀ {L:List Str} {a:Option (Nat × Nat)},Leaf O B.length pc pt px L a→Leaf ((killO pc O++(X++[AObj.cells 7 x.cells,AObj.cells 7 ((C++[x]).flatMap InsU.cells)])).set B.length (wrO tN (some (O.length+X.length+1,0)) pt px none ct cx (C.length+1) S.length M.length dep bud)) B.length (some (O.length+X.length+1,0)) pt px L a:=fun hL =>
   (((hL.kill fun i o o' e e'=>(hL.at' _ _ e').2.2.1 _ e).app _).set fun o e=>by have:=(hL.at' _ _ e).1; omega).npc fun i o e=>by have:=(hL.at' _ _ e).2.1; omega
  exact ⟨go h1,go h2⟩
end Go.Abs.AbsMk

namespace Go.Abs.AbsMk
open Go.Abs.AbsMake
open Go.Abs.AbsDesc hiding T
open Go.Abs.AbsHier hiding T sub
variable {os O B:List AObj} {b w:Nat} {tN:Nat} {tb:List UInt8} {tv:AVal} {X:WX} {k:Nat} {dep:Int}
def Did (tN:Nat) (tb:List UInt8) (tv:AVal) (B:List AObj) (b:Nat) (g:Nat) (args:List AVal) (v:AVal) (O:List AObj) (P:List AObj→Prop):Prop :=
 ∃ O' m,P O'∧tN≤m∧m≤B.length∧∀ w,xCall T g args ⟨O,b,w⟩=some (v,⟨O',b,min w m⟩)
theorem Ws.code (h:Ws tN tb tv B O X k dep) (hb:b≤tN) (hk:k≤100000) {x:InsU} (hx:InsU.short x) :
  ∃ pc pt px cc ct cx nt nx bud cs,O[B.length]? = some (.cells 6 [.ptr (some (tN,0)),.slice pc X.C.length cc,.slice pt nt ct,.slice px nx cx,.int .i64 dep,.int .i64 bud])∧tN < B.length∧B.length < O.length∧(∀ w,w≤B.length→killW pc w=w)∧(∀ w,B.length≤w→B.length≤killW pc w) ∧
   (killO pc O)[B.length]? = some (.cells 6 [.ptr (some (tN,0)),.slice pc X.C.length cc,.slice pt nt ct,.slice px nx cx,.int .i64 dep,.int .i64 bud]) ∧
   (∀ w,aAppend 7 88 ⟨O++[AObj.cells 7 x.cells],b,w⟩ (.slice pc X.C.length cc) (.slice (some (O.length,0)) 1 (some 1))=some (.slice (some (O.length+1,0)) (X.C.length+1) none,⟨killO pc O++[AObj.cells 7 x.cells,AObj.cells 7 cs],b,killW pc w⟩)) ∧
   Ws tN tb tv B ((killO pc O++[AObj.cells 7 x.cells,AObj.cells 7 cs]).set B.length (.cells 6 [.ptr (some (tN,0)),.slice (some (O.length+1,0)) (X.C.length+1) none,.slice pt nt ct,.slice px nx cx,.int .i64 dep,.int .i64 bud])) (X.add [x]) (k+1) dep:=by
 obtain ⟨pc,pt,px,cc,ct,cx,M,bud,hW,hM,h2,h3,h4⟩:=h.ex
 have h1:=app_own (b:=b) (by':=88) (x:=x) (f:=InsU.cells) (fun _=>rfl) hW.c (by have:=hW.lt; omega) (by omega) (by omega) []
 have h5:=hW.addC hx []
 simp only [b0,a7,fm] at h1 h5
 refine ⟨pc,pt,px,cc,ct,cx,X.S.length,M.length,bud,_,hW.wr,hW.lt,hW.len,fun w hw=>?_,fun w hw=>?_,?_,h1,⟨_,_,_,_,_,_,_,_,h5,hM,by simp [WX.add]; omega,by simp [WX.add]; omega,by omega⟩⟩
 ·cases pc with
  | none=>rfl
  | some q=>obtain ⟨i,o⟩:=q; have:=(hW.c.some _ _ rfl).2.2.1; simp only [killW]; omega
 ·cases pc with
  | none=>exact hw
  | some q=>obtain ⟨i,o⟩:=q; have:=(hW.c.some _ _ rfl).2.2.1; simp only [killW]; omega
 ·rw [kill_get fun o e=>by have:=(hW.c.some _ _ e).2.2.1; omega]; exact hW.wr
section
attribute [-simp] getElem?_pos getElem?_neg List.all_eq_true
attribute [local simp] gz gs nltT nltF iltT iltF ileT nleT cf
theorem s150 (h:Ws tN tb tv B O X k dep) (hb:b≤tN) (hk:k≤100000) {op nn:Int} :
  Did tN tb tv B b 150 [.ptr (some (B.length,0)),.int .u8 op,.int .i64 nn] (.tuple []) O fun O'=>Ws tN tb tv B O' (X.add [opI op nn]) (k+1) dep:=by
 obtain ⟨pc,pt,px,cc,ct,cx,nt,nx,bud,cs,h1,h2,h3,h4,h5,h6,h7,h8⟩:=h.code (x:=⟨op,nn,0,[],[],[],[]⟩) hb hk ⟨by simp,by simp,by simp,by simp⟩
 refine ⟨_,B.length,h8,by omega,aj _,fun w=>?_⟩
 have hkw:=h5 O.length (by omega)
 have h9:∀ X,(killO pc O++X)[B.length]? = _:=fun X=>(ag (l₂:=X) (by simpa using h3)).trans h6
 simp only [InsU.cells] at h7
 simp (disch:=omega) [az t150,code150,-aAppend,h1,h7,h6,h9,hkw,InsU.cells]
theorem s154 (h:Ws tN tb tv B O X k dep) (hb:b≤tN) (hk:k≤100000) {op:Int} {c m d:Str} (hc:c.length≤100) (hm:m.length≤100) (hd:d.length≤100) :
  Did tN tb tv B b 154 [.ptr (some (B.length,0)),.int .u8 op,.str c,.str m,.str d] (.tuple []) O fun O'=>Ws tN tb tv B O' (X.add [nameI op c m d]) (k+1) dep:=by
 obtain ⟨pc,pt,px,cc,ct,cx,nt,nx,bud,cs,h1,h2,h3,h4,h5,h6,h7,h8⟩:=h.code (x:=⟨op,0,0,c,m,d,[]⟩) hb hk ⟨hc,hm,hd,by simp⟩
 refine ⟨_,B.length,h8,by omega,aj _,fun w=>?_⟩
 have hkw:=h5 O.length (by omega)
 have h9:∀ X,(killO pc O++X)[B.length]? = _:=fun X=>(ag (l₂:=X) (by simpa using h3)).trans h6
 simp only [InsU.cells] at h7
 simp (disch:=omega) [az t154,code154,-aAppend,h1,h7,h6,h9,hkw,InsU.cells]
end
theorem Ws.len (h:Ws tN tb tv B O X k dep):tN < B.length∧B.length < O.length:=by
 obtain ⟨_,_,_,_,_,_,_,_,hW,_⟩:=h.ex
 exact ⟨hW.lt,hW.len⟩
theorem Ws.app (h:Ws tN tb tv B O X k dep) (Y:List AObj):Ws tN tb tv B (O++Y) X k dep:=by
 obtain ⟨_,_,_,_,_,_,_,_,hW,h1⟩:=h.ex
 exact ⟨_,_,_,_,_,_,_,_,hW.app Y,h1⟩
theorem Ws.le (h:Ws tN tb tv B O X k dep) {k':Nat} (hk:k≤k'):Ws tN tb tv B O X k' dep:=by
 obtain ⟨_,_,_,_,_,_,_,_,hW,h1,h2,h3,h4⟩:=h.ex
 exact ⟨_,_,_,_,_,_,_,_,hW,h1,by omega,by omega,by omega⟩
theorem Ws.at' (h:Ws tN tb tv B O X k dep):∃ pc pt px cc ct cx nt nx bud,O[B.length]? = some (.cells 6 [.ptr (some (tN,0)),.slice pc X.C.length cc,.slice pt nt ct,.slice px nx cx,.int .i64 dep,.int .i64 bud]) ∧
  ∀ dep' bud',Ws tN tb tv B (O.set B.length (.cells 6 [.ptr (some (tN,0)),.slice pc X.C.length cc,.slice pt nt ct,.slice px nx cx,.int .i64 dep',.int .i64 bud'])) X k dep':=by
 obtain ⟨pc,pt,px,cc,ct,cx,M,bud,hW,hM,h2,h3,h4⟩:=h.ex
 exact ⟨pc,pt,px,cc,ct,cx,X.S.length,M.length,bud,hW.wr,fun dep' bud'=>⟨_,_,_,_,_,_,_,_,hW.setW dep' bud',hM,h2,h3,h4⟩⟩
theorem Ws.next (h:Ws tN tb tv B O X k dep) (hb:b≤tN) {x:Int} (hx:1≤x) (hx2:x≤1000) :
  ∃ (r:Nat) (O':List AObj) (nx:Nat→Nat),(r:Int) < x∧Ws tN tb tv B O' X k dep∧O'.length=O.length∧(∀ i,i≠tN→O'[i]? = O[i]?)∧((∀ w,nx w=w)∨(∀ w,nx w=min w tN))∧∀ w,xCall T 102 [.ptr (some (tN,0)),.int .i64 x] ⟨O,b,w⟩=some (.int .i64 r,⟨O',b,nx w⟩):=by
 obtain ⟨pc,pt,px,cc,ct,cx,M,bud,hW,h1⟩:=h.ex
 obtain ⟨p,hp⟩:=hW.tape
 have hv:TapeV O tN tb tv:=by
  obtain ⟨a,c,e,hr,hd⟩:=hW.tv.row
  refine ⟨a,c,e,⟨fun hne=>?_⟩,hd⟩
  obtain ⟨i,o,cs,e1,e2,e3⟩:=hr.at' hne
  exact ⟨i,o,cs,e1,by rw [hW.keep i (ah e2) (hd i o e1)]; exact e2,e3⟩
 obtain ⟨r,p',nx,q1,q2,q3,q4⟩:=s102 hp hv hb hx hx2
 exact ⟨r,_,nx,q1,⟨_,_,_,_,_,_,_,_,hW.setT q2,h1⟩,by simp,fun i hi=>al (Ne.symm hi),q3,q4⟩
theorem nx_min {nx:Nat→Nat} (hx:(∀ w,nx w=w)∨(∀ w,nx w=min w tN)) {m:Nat} (hm:tN≤m):∃ m',tN≤m'∧m'≤m∧∀ w,min (nx w) m=min w m':=by
 rcases hx with h | h
 ·exact ⟨m,hm,aj _,fun w=>by rw [h]⟩
 ·exact ⟨tN,aj _,hm,fun w=>by rw [h]; omega⟩
theorem nx_le {nx:Nat→Nat} (hx:(∀ w,nx w=w)∨(∀ w,nx w=min w tN)) (w:Nat):nx w≤w:=by
 rcases hx with h | h
 ·rw [h]; exact aj _
 ·rw [h]; exact eq ..
section
attribute [-simp] getElem?_pos getElem?_neg List.all_eq_true
attribute [local simp] gz gs nltT nltF iltT iltF ileT nleT cf
theorem s153 (h:Ws tN tb tv B O X k dep) (hb:b≤tN) (hk:k≤100000) {x:Int} (hx:-100≤x) (hx2:x≤200) :
  Did tN tb tv B b 153 [.ptr (some (B.length,0)),.int .i64 x] (.tuple []) O fun O'=>Ws tN tb tv B O' (X.add [numI x]) (k+1) dep:=by
 obtain ⟨_,hBO⟩:=h.len
 have c5:-128≤x:=by omega
 have c6:-32768≤x:=by omega
 have c7:x < 32768:=by omega
 have c8:IntKind.i64.wrap (3+x)=3+x:=cf (by omega)
 by_cases c3:-1≤x∧x≤5
 ·have hnum:numI x=opI (IntKind.u8.wrap (3+x)) 0:=by unfold numI; rw [if_pos c3]
  rw [hnum]
  obtain ⟨c1,c2⟩:=c3
  obtain ⟨O1,m1,p1,l1,u1,e1⟩:=s150 h hb hk (op:=IntKind.u8.wrap (3+x)) (nn:=0)
  refine ⟨O1,m1,p1,l1,u1,fun w=>?_⟩
  simp (disch:=omega) [az t153,code153,e1,c1,c2,c8]
 ·by_cases c4:x < 128
  ·have hnum:numI x=opI 16 x:=by unfold numI; rw [if_neg c3,if_pos c4]
   rw [hnum]
   obtain ⟨O1,m1,p1,l1,u1,e1⟩:=s150 h hb hk (op:=16) (nn:=x)
   refine ⟨O1,m1,p1,l1,u1,fun w=>?_⟩
   by_cases c1:-1≤x
   ·have c2:¬ x≤5:=fun e=>c3 ⟨c1,e⟩
    simp (disch:=omega) [az t153,code153,e1,c1,c2,c4,c5]
   ·simp (disch:=omega) [az t153,code153,e1,c1,c4,c5]
  ·have hnum:numI x=opI 17 x:=by unfold numI; rw [if_neg c3,if_neg c4]
   rw [hnum]
   obtain ⟨O1,m1,p1,l1,u1,e1⟩:=s150 h hb hk (op:=17) (nn:=x)
   refine ⟨O1,m1,p1,l1,u1,fun w=>?_⟩
   have c1:-1≤x:=by omega
   have c2:¬ x≤5:=by omega
   simp (disch:=omega) [az t153,code153,e1,c1,c2,c4,c5,c6,c7]
end
theorem bytes_get (L:List Int) {r:Nat} (hr:r < L.length):∃ y,(L.map (AVal.int .u8))[r]? = some (.int .u8 y)∧y ∈ L:=by
 rw [co,ak hr]
 exact ⟨_,rfl,List.getElem_mem hr⟩
def KK:Nat→Nat
 | 0=>2
 | d+1=>2*KK d+1
def Expr (G:List InsU→Prop) (tN:Nat) (tb:List UInt8) (tv:AVal) (B:List AObj) (b:Nat) (dep:Int) (g:Nat) (x:Int) (j:Nat):Prop :=
 ∀ (O:List AObj) (X:WX) (k:Nat),Ws tN tb tv B O X k dep→k+j≤100000→Did tN tb tv B b g [.ptr (some (B.length,0)),.int .i64 x] (.tuple []) O fun O'=>∃ E,G E∧Ws tN tb tv B O' (X.add E) (k+j) dep
theorem Ws.put (h:Ws tN tb tv B O X k dep) (hb:b≤tN) (hk:k≤100000) {x:InsU} (hx:InsU.short x) :
  ∃ pc pt px cc ct cx nt nx bud cs,O[B.length]? = some (.cells 6 [.ptr (some (tN,0)),.slice pc X.C.length cc,.slice pt nt ct,.slice px nx cx,.int .i64 dep,.int .i64 bud]) ∧
   (killO pc O)[B.length]? = some (.cells 6 [.ptr (some (tN,0)),.slice pc X.C.length cc,.slice pt nt ct,.slice px nx cx,.int .i64 dep,.int .i64 bud]) ∧
   (∀ Y,(killO pc O++Y)[B.length]? = some (.cells 6 [.ptr (some (tN,0)),.slice pc X.C.length cc,.slice pt nt ct,.slice px nx cx,.int .i64 dep,.int .i64 bud])) ∧
   (∀ w,aAppend 7 88 ⟨O++[AObj.cells 7 x.cells],b,w⟩ (.slice pc X.C.length cc) (.slice (some (O.length,0)) 1 (some 1))=some (.slice (some (O.length+1,0)) (X.C.length+1) none,⟨killO pc O++[AObj.cells 7 x.cells,AObj.cells 7 cs],b,killW pc w⟩)) ∧
   (∀ w,min (killW pc w) B.length=min w B.length)∧(∀ w,B.length≤w→B.length≤killW pc w)∧(∀ w,killW pc w≤w) ∧
   Ws tN tb tv B ((killO pc O++[AObj.cells 7 x.cells,AObj.cells 7 cs]).set B.length (.cells 6 [.ptr (some (tN,0)),.slice (some (O.length+1,0)) (X.C.length+1) none,.slice pt nt ct,.slice px nx cx,.int .i64 dep,.int .i64 bud])) (X.add [x]) (k+1) dep:=by
 obtain ⟨pc,pt,px,cc,ct,cx,nt,nx,bud,cs,h1,h2,h3,h4,h5,h6,h7,h8⟩:=h.code (b:=b) (x:=x) hb hk hx
 exact ⟨pc,pt,px,cc,ct,cx,nt,nx,bud,cs,h1,h6,fun Y=>(ag (l₂:=Y) (by simpa using h3)).trans h6,h7,fun w=>by
  rcases Nat.le_total w B.length with q | q
  ·rw [h4 w q]
  ·have:=h5 w q; omega,h5,killW_le pc,h8⟩
theorem Ws.lows (h:Ws tN tb tv B O X k dep) {t d bd:AVal} {n' nt nx:Nat} {pc pt px:Option (Nat × Nat)} {cc ct cx:Option Nat} (h1:O[B.length]? = some (.cells 6 [t,.slice pc n' cc,.slice pt nt ct,.slice px nx cx,d,bd])) :
  (∀ i o,pc=some (i,o)→i < O.length∧B.length < i)∧(∀ i o,pt=some (i,o)→i < O.length∧B.length < i)∧(∀ i o,px=some (i,o)→i < O.length∧B.length < i):=by
 obtain ⟨_,_,_,_,_,_,_,_,hW,_⟩:=h.ex
 have e:=hW.wr.symm.trans h1
 simp only [wrO,ap,AObj.cells.injEq,eb,AVal.slice.injEq,true_and,and_true] at e
 obtain ⟨_,⟨e1,_⟩,⟨e2,_⟩,⟨e3,_⟩,_⟩:=e
 subst e1 e2 e3
 exact ⟨fun i o e=>⟨ah (hW.c.some i o e).2.2.2,(hW.c.some i o e).2.2.1⟩,fun i o e=>⟨ah (hW.s.some i o e).2.2.2,(hW.s.some i o e).2.2.1⟩,fun i o e=>⟨ah (hW.m.some i o e).2.2.2,(hW.m.some i o e).2.2.1⟩⟩
theorem ids_ins:∀ C:List InsU,AVal.idsL (C.flatMap InsU.cells)=[]
 | []=>rfl
 | x :: C=>by rw [cg,idsL_app,ids_ins C]; simp [InsU.cells,AVal.idsL,AVal.ids]
theorem Ws.codeIds (h:Ws tN tb tv B O X k dep) {t d bd:AVal} {n' nt nx q o:Nat} {pt px:Option (Nat × Nat)} {cc ct cx:Option Nat} {cs:List AVal} (h1:O[B.length]? = some (.cells 6 [t,.slice (some (q,o)) n' cc,.slice pt nt ct,.slice px nx cx,d,bd])) (h2:O[q]? = some (.cells 7 cs)):AVal.idsL cs=[]:=by
 obtain ⟨_,_,_,_,_,_,_,_,hW,_⟩:=h.ex
 have e:=hW.wr.symm.trans h1
 simp only [wrO,ap,AObj.cells.injEq,eb,AVal.slice.injEq,true_and,and_true] at e
 obtain ⟨_,⟨e1,_⟩,_⟩:=e
 subst e1
 have:=(hW.c.some _ _ rfl).2.2.2
 rw [h2,ap,AObj.cells.injEq] at this
 rw [this.2,ids_ins]
theorem okSl {n0 m q:Nat} {ds:List _root_.Go.Abs.Did} {p:Option (Nat × Nat)} {c:Option Nat} (h:∀ i o,p=some (i,o)→i < n0):(AVal.slice p q c).ids.all (okId n0 m ds)=true:=by
 cases p with
 | none=>rfl
 | some x=>obtain ⟨i,o⟩:=x; simp [AVal.ids,okId,h i o rfl]
theorem KK_pos (d:Nat):2≤KK d:=by
 cases d with
 | zero=>exact aj _
 | succ d=>have:=KK_pos d; simp only [KK]; omega
end Go.Abs.AbsMk

namespace Go.Abs.AbsMk
open Go.Abs.AbsMake
open Go.Abs.AbsDesc hiding T
open Go.Abs.AbsHier hiding T sub
variable {os O B:List AObj} {b w:Nat} {tN:Nat} {tb:List UInt8} {tv:AVal} {pc pt px:Option (Nat × Nat)} {cc ct cx:Option Nat} {C:List InsU} {S:List TrapU} {M:List MapU} {dep bud:Int} {X:WX} {k:Nat}
theorem Wr.addM (h:Wr tN tb tv B O pc pt px cc ct cx C S M dep bud) {x:MapU} (X:List AObj) (hx1:Leaf (O++X) B.length pc pt px x.locals x.la) (hx2:Leaf (O++X) B.length pc pt px x.stack x.sa) :
  Wr tN tb tv B ((killO px O++(X++[AObj.cells 3 x.cells,AObj.cells 3 ((M++[x]).flatMap MapU.cells)])).set B.length (wrO tN pc pt (some (O.length+X.length+1,0)) cc ct none C.length S.length (M.length+1) dep bud)) pc pt (some (O.length+X.length+1,0)) cc ct none C S (M++[x]) dep bud:=by
 have hl:=h.len
 have hlt:=h.lt
 have hN:∀ o,px≠some (B.length,o):=fun o e=>by have:=(h.m.some _ _ e).2.2.1; omega
 have hlen:((killO px O)++(X++[AObj.cells 3 x.cells,AObj.cells 3 ((M++[x]).flatMap MapU.cells)])).length=O.length+X.length+2:=by simp; omega
 constructor
 ·intro i hi ht
  rw [al (by omega),ag (by simp; omega),kill_get fun o e=>by have:=(h.m.some _ _ e).2.2.1; omega]
  exact h.keep i hi ht
 ·obtain ⟨p,h1⟩:=h.tape
  exact ⟨p,by
   rw [al (by omega),ag (by simp; omega),kill_get fun o e=>by have:=(h.m.some _ _ e).2.2.1; omega]
   exact h1.at',h1.le,h1.small⟩
 ·exact h.tv
 ·exact h.lt
 ·rw [a9,if_pos rfl,if_pos (by omega)]
  simp
 ·exact ((h.c.kill fun i o o' e e'=>h.cm i o' o e' e).app _).set _ fun o e=>by have:=(h.c.some _ _ e).2.2.1; omega
 ·exact ((h.s.kill fun i o o' e e'=>h.sm i o' o e' e).app _).set _ fun o e=>by have:=(h.s.some _ _ e).2.2.1; omega
 ·refine ⟨fun i o e=>?_,fun e=>by cases e⟩
  simp only [ap,bt] at e
  obtain ⟨rfl,rfl⟩:=e
  refine ⟨rfl,rfl,by omega,?_⟩
  rw [al (by omega),ai (by simp; omega)]
  have:O.length+X.length+1 - (killO px O).length=X.length+1:=by simp; omega
  rw [this,f0]; rfl
 ·exact h.cs
 ·intro i o o' e e'
  have:=ah (h.c.some _ _ e).2.2.2
  simp only [ap,bt] at e'
  omega
 ·intro i o o' e e'
  have:=ah (h.s.some _ _ e).2.2.2
  simp only [ap,bt] at e'
  omega
 ·exact h.cok
 ·exact h.sok
 ·intro y hy
  have go:∀ {L:List Str} {a:Option (Nat × Nat)},Leaf (O++X) B.length pc pt px L a→Leaf ((killO px O++(X++[AObj.cells 3 x.cells,AObj.cells 3 ((M++[x]).flatMap MapU.cells)])).set B.length (wrO tN pc pt (some (O.length+X.length+1,0)) cc ct none C.length S.length (M.length+1) dep bud)) B.length pc pt (some (O.length+X.length+1,0)) L a:=fun {L a} hL=>by
   have e1:killO px O++(X++[AObj.cells 3 x.cells,AObj.cells 3 ((M++[x]).flatMap MapU.cells)])=killO px (O++X)++[AObj.cells 3 x.cells,AObj.cells 3 ((M++[x]).flatMap MapU.cells)]:=by
    cases px with
    | none=>simp [killO]
    | some q =>
     obtain ⟨i,o⟩:=q
     have:=ah (h.m.some _ _ rfl).2.2.2
     simp only [killO,List.set_append_left _ _ this,bh]
   rw [e1]
   exact (((hL.kill fun i o o' e e'=>(hL.at' _ _ e').2.2.2.2 _ e).app _).set fun o e=>by have:=(hL.at' _ _ e).1; omega).npx fun i o e=>by have:=(hL.at' _ _ e).2.1; simp at this; omega
  rcases bf.1 hy with hy | hy
  ·obtain ⟨h1,h2⟩:=h.mok y hy
   exact ⟨go (h1.app X),go (h2.app X)⟩
  ·rw [bo.1 hy]
   exact ⟨go hx1,go hx2⟩
theorem Wr.addS (h:Wr tN tb tv B O pc pt px cc ct cx C S M dep bud) {x:TrapU} (hx:x.cls ∈ classesT) (X:List AObj) :
  Wr tN tb tv B ((killO pt O++(X++[AObj.cells 4 x.cells,AObj.cells 4 ((S++[x]).flatMap TrapU.cells)])).set B.length (wrO tN pc (some (O.length+X.length+1,0)) px cc none cx C.length (S.length+1) M.length dep bud)) pc (some (O.length+X.length+1,0)) px cc none cx C (S++[x]) M dep bud:=by
 have hl:=h.len
 have hlt:=h.lt
 have hN:∀ o,pt≠some (B.length,o):=fun o e=>by have:=(h.s.some _ _ e).2.2.1; omega
 have hlen:((killO pt O)++(X++[AObj.cells 4 x.cells,AObj.cells 4 ((S++[x]).flatMap TrapU.cells)])).length=O.length+X.length+2:=by simp; omega
 constructor
 ·intro i hi ht
  rw [al (by omega),ag (by simp; omega),kill_get fun o e=>by have:=(h.s.some _ _ e).2.2.1; omega]
  exact h.keep i hi ht
 ·obtain ⟨p,h1⟩:=h.tape
  exact ⟨p,by
   rw [al (by omega),ag (by simp; omega),kill_get fun o e=>by have:=(h.s.some _ _ e).2.2.1; omega]
   exact h1.at',h1.le,h1.small⟩
 ·exact h.tv
 ·exact h.lt
 ·rw [a9,if_pos rfl,if_pos (by omega)]
  simp
 ·exact ((h.c.kill fun i o o' e e'=>h.cs i o' o e' e).app _).set _ fun o e=>by have:=(h.c.some _ _ e).2.2.1; omega
 ·refine ⟨fun i o e=>?_,fun e=>by cases e⟩
  simp only [ap,bt] at e
  obtain ⟨rfl,rfl⟩:=e
  refine ⟨rfl,rfl,by omega,?_⟩
  rw [al (by omega),ai (by simp; omega)]
  have:O.length+X.length+1 - (killO pt O).length=X.length+1:=by simp; omega
  rw [this,f0]; rfl
 ·exact ((h.m.kill fun i o o' e=>h.sm i o o' e).app _).set _ fun o e=>by have:=(h.m.some _ _ e).2.2.1; omega
 ·intro i o o' e e'
  have:=ah (h.c.some _ _ e).2.2.2
  simp only [ap,bt] at e'
  omega
 ·exact h.cm
 ·intro i o o' e e'
  have:=ah (h.m.some _ _ e').2.2.2
  simp only [ap,bt] at e
  omega
 ·exact h.cok
 ·intro y hy
  rcases bf.1 hy with hy | hy
  ·exact h.sok y hy
  ·rw [bo.1 hy]; exact hx
 ·intro y hy
  obtain ⟨h1,h2⟩:=h.mok y hy
  have go:∀ {L:List Str} {a:Option (Nat × Nat)},Leaf O B.length pc pt px L a→Leaf ((killO pt O++(X++[AObj.cells 4 x.cells,AObj.cells 4 ((S++[x]).flatMap TrapU.cells)])).set B.length (wrO tN pc (some (O.length+X.length+1,0)) px cc none cx C.length (S.length+1) M.length dep bud)) B.length pc (some (O.length+X.length+1,0)) px L a:=fun hL =>
   (((hL.kill fun i o o' e e'=>(hL.at' _ _ e').2.2.2.1 _ e).app _).set fun o e=>by have:=(hL.at' _ _ e).1; omega).npt fun i o e=>by have:=(hL.at' _ _ e).2.1; omega
  exact ⟨go h1,go h2⟩
theorem flat_set {α:Type} {e:Nat} {f:α→List AVal} (hf:∀ y,(f y).length=e):∀ (L:List α) (i j:Nat) (x y:α) (v:AVal),L[i]? = some x→j < e→(f x).set j v=f y→(L.flatMap f).set (i*e+j) v=(L.set i y).flatMap f
 | [],i,j,x,y,v,h,_,_=>by simp at h
 | a :: L,0,j,x,y,v,h,hj,hy=>by
  simp only [bi,ap] at h
  subst h
  rw [cg,Nat.zero_mul,dc,List.set_append_left _ _ (by rw [hf]; exact hj),hy,List.set_cons_zero,cg]
 | a :: L,i+1,j,x,y,v,h,hj,hy=>by
  simp only [List.getElem?_cons_succ] at h
  have e1:(i+1)*e+j=(f a).length+(i*e+j):=by rw [hf,dr,Nat.one_mul]; omega
  rw [cg,e1,List.set_append_right _ _ (by omega),Nat.add_sub_cancel_left,flat_set hf L i j x y v h hj hy,List.set_cons_succ,cg]
theorem modify_set {α:Type} {f:α→α} {L:List α} {i:Nat} {x:α} (h:L[i]? = some x):L.modify i f=L.set i (f x):=by
 apply ia
 intro j
 rw [List.getElem?_modify,a9]
 by_cases e:i=j
 ·subst e
  rw [if_pos rfl,if_pos (ah h),h]
  simp
 ·simp [e]
theorem Wr.setN (h:Wr tN tb tv B O pc pt px cc ct cx C S M dep bud) {q o i:Nat} (hp:pc=some (q,o)) (hi:i < C.length) (z:Int) :
  Wr tN tb tv B (O.set q (.cells 7 ((C.flatMap InsU.cells).set (i*7+1) (.int .i64 z)))) pc pt px cc ct cx (C.modify i fun x=>{ x with n:=z }) S M dep bud:=by
 obtain ⟨x,hx⟩:∃ x,C[i]? = some x:=⟨_,ak hi⟩
 obtain ⟨h1,h2,h3,h4⟩:=h.c.some q o hp
 have hlt:=h.lt
 have hql:=ah h4
 rw [modify_set hx]
 rw [flat_set (e:=7) (fun _=>rfl) C i 1 x { x with n:=z } (.int .i64 z) hx (by decide) rfl]
 constructor
 ·intro j hj ht
  rw [al (by omega)]
  exact h.keep j hj ht
 ·obtain ⟨p,h5⟩:=h.tape
  exact ⟨p,by rw [al (by omega)]; exact h5.at',h5.le,h5.small⟩
 ·exact h.tv
 ·exact h.lt
 ·rw [al (by omega),fw]; exact h.wr
 ·refine ⟨fun i' o' e=>?_,fun e=>by rw [hp] at e; cases e⟩
  have e':=hp.symm.trans e
  simp only [ap,bt] at e'
  obtain ⟨rfl,rfl⟩:=e'
  exact ⟨h1,h2,h3,by rw [a9,if_pos rfl,if_pos hql]⟩
 ·exact h.s.set _ fun o' e=>h.cs _ _ _ hp e
 ·exact h.m.set _ fun o' e=>h.cm _ _ _ hp e
 ·exact h.cs
 ·exact h.cm
 ·exact h.sm
 ·intro y hy
  rcases List.mem_or_eq_of_mem_set hy with hy | hy
  ·exact h.cok y hy
  ·have:=h.cok x (a8 hx)
   rw [hy]
   exact ⟨this.cls,this.name,this.desc,this.text⟩
 ·exact h.sok
 ·exact fun y hy=>⟨(h.mok y hy).1.set fun o' e=>((h.mok y hy).1.at' _ _ e).2.2.1 _ hp,(h.mok y hy).2.set fun o' e=>((h.mok y hy).2.at' _ _ e).2.2.1 _ hp⟩
end Go.Abs.AbsMk

namespace Go.Abs.AbsMk
open Go.Abs.AbsMake
open Go.Abs.AbsDesc hiding T
open Go.Abs.AbsHier hiding T sub
variable {os O B:List AObj} {b w:Nat} {tN:Nat} {tb:List UInt8} {tv:AVal} {pc pt px:Option (Nat × Nat)} {cc ct cx:Option Nat} {C:List InsU} {S:List TrapU} {M:List MapU} {dep bud:Int} {n k:Nat}
theorem leaf0 {N:Nat}:Leaf O N pc pt px [] none:=⟨⟨fun h=>absurd rfl h⟩,by decide,by simp,fun _ _ e=>by cases e⟩
theorem Wr.leaf1 (h:Wr tN tb tv B O pc pt px cc ct cx C S M dep bud) {q:Nat} {L:List Str} (hq:B.length < q) (hO:O[q]? = some (.cells 1 (L.flatMap strC))) (hl:L.length≤100) (hs:∀ t ∈ L,t.length≤100):Leaf O B.length pc pt px L (some (q,0)) :=
 ⟨Row.mk0 (fun _=>rfl) hO,hl,hs,fun i o e=>by
  simp only [ap,bt] at e
  obtain ⟨rfl,rfl⟩:=e
  refine ⟨hq,ah hO,fun o' e=>?_,fun o' e=>?_,fun o' e=>?_⟩
  ·have:=(h.c.some _ _ e).2.2.2; rw [hO] at this; simp at this
  ·have:=(h.s.some _ _ e).2.2.2; rw [hO] at this; simp at this
  ·have:=(h.m.some _ _ e).2.2.2; rw [hO] at this; simp at this⟩
theorem s222 (hb:b≤O.length):xCall T 222 [] ⟨O,b,w⟩=some (.slice (some (O.length,0)) 7 (some 7),⟨O++[.cells 1 (localsL.flatMap strC)],b,w⟩):=by
 have e:localsL.flatMap strC=[.str [73],.str [73],.str [73],.str [74],.str [76,65,59],.str [91,73],.str [91,66]]:=rfl
 rw [e]
 simp (disch:=omega) [-getElem?_pos,-getElem?_neg,-List.all_eq_true,gz,gs,nltT,nltF,iltT,iltF,ileT,nleT,cf,az t222,code222,reach_step,reach_done,f0,dh]
end Go.Abs.AbsMk
