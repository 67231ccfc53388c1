/-
  Texts joined.
-/
import Derived.Test.YtjmnbfijplhkfaaGreatDoorP0
import Derived.Test.YtjmnbfijplhkfaaGreatDoorP7
import Derived.Test.YtjmnbfijplhkfaaGreatDoorP4
set_option linter.unusedVariables false
set_option linter.unusedSimpArgs false
set_option maxRecDepth 100000
namespace Go.Abs.AbsTyb
open Go.Abs.Zd Go.Abs.Zh
open Go.Abs.Zo hiding T sub
open Go.Abs.Zt hiding T sub subT
variable {os O:List AObj} {b w N:Nat} {S:List (Str × Str)} {F M:List (Key × Mem)} {V:List (Key × Bool)}
def OwnS (n:Nat) (P:List AObj) (A:List Str) (a:Option (Nat × Nat)) (c:Option Nat):Prop:=(a=none∧A=[])∨∃ i,∃ E:List Str,n≤i∧a=some (i,0)∧c=none∧P[i]? = some (.cells 1 (E.flatMap dj))
theorem app_rows {n:Nat} {P:List AObj} {A R:List Str} {a a2:Option (Nat × Nat)} {c c2:Option Nat} (hb:b≤n) (hn:n≤P.length) (hr:Row P 1 dj A a) (hav:OwnS n P A a c) (h2:Row P 1 dj R a2) (hl:A.length+R.length≤100000) :
  ∃ P' a' c',∃ nx:Nat→Nat,(∀ w,eb 1 16 ⟨P,b,w⟩ (.slice a A.length c) (.slice a2 R.length c2)=some (.slice a' (A.length+R.length) c',⟨P',b,nx w⟩))∧Row P' 1 dj (A++R) a'∧OwnS n P' (A++R) a' c' ∧
   (∀ j o,P[j]? = some o→j < n→P'[j]? = some o)∧P.length≤P'.length∧∀ w,n≤w→n≤nx w:=by
 have hrow:∀ w,il 1 ⟨P,b,w⟩ (.slice a A.length c)=some (A.flatMap dj):=fun w=>ol (h:=⟨P,b,w⟩) hr
 have hrow2:∀ w,il 1 ⟨P,b,w⟩ (.slice a2 R.length c2)=some (R.flatMap dj):=fun w=>ol (h:=⟨P,b,w⟩) h2
 have he:(A++R).flatMap dj=A.flatMap dj++R.flatMap dj:=by simp
 by_cases hR:R=[]
 ·subst hR;refine ⟨P,a,c,id,fun w=>?_,by simpa using hr,by simpa using hav,fun _ _ h _=>h,ai _,fun w h=>h⟩;have h0:il 1 ⟨P,b,w⟩ (.slice a2 0 c2)=some []:=qh;unfold eb;simp only [bf,hrow,h0,aApp,alen,if_true,iz];rfl
 ·have hl0:¬ R.length=0:=fun e=>hR (bq e)
  have q2:(A.length+R.length)*16≤140737488355328∧A.length+R.length≤9223372036854775807:=⟨by omega,by omega⟩;have hne:A++R≠[]:=by simp [hR]
  rcases hav with ⟨rfl,rfl⟩ | ⟨i,cs,h1,rfl,rfl,h4⟩
  ·refine ⟨P++[.cells 1 (R.flatMap dj)],some (P.length,0),none,id,fun w=>?_,Row.mk0 kj (by rw [dp]; simp),.inr ⟨P.length,R,hn,rfl,rfl,by rw [dp]; rfl⟩,fun j o hj _=>by rw [ag (aj hj)]; exact hj,by simp,fun w h=>h⟩;unfold eb;simp only [hrow,hrow2,aApp,alen,eq_false hl0,eq_true q2,if_false,if_true];simp [Heap.push,Heap.size]
  ·have hi:=aj h4;refine ⟨P.set i .dead++[.cells 1 ((A++R).flatMap dj)],some (P.length,0),none,fun w=>min w i,fun w=>?_,?_,.inr ⟨P.length,A++R,hn,rfl,rfl,?_⟩,fun j o hj hjn=>?_,by simp,fun w h=>by show n≤min w i; omega⟩
   ·have hr2:rowIs ⟨P,b,w⟩ i 1=true:=by unfold rowIs Heap.get;simp only [h4];simp
    unfold eb;have q3:¬ (none:Option Nat)=some A.length:=by simp
    have q4:(⟨P,b,w⟩:Heap).base≤i∧rowIs ⟨P,b,w⟩ i 1=true:=⟨by show b≤i; omega,hr2⟩;simp only [hrow,hrow2,aApp,alen,eq_false hl0,eq_true q2,eq_false q3,eq_true q4,if_false,if_true];simp only [Heap.push,Heap.put,Heap.size,jh,he]
   ·exact Row.mk0 kj (by rw [ak (by simp)]; simp)
   ·rw [ak (by simp)]; simp
   ·rw [ag (by rw [jh]; exact aj hj),ap (by omega)]; exact hj
theorem tsub {g:Nat} {f:AFunc} (h:Zt.T g=some f):T g=some f:=AbsTyb.sub _ _ h
section
attribute [-simp] getElem?_pos getElem?_neg List.all_eq_true
attribute [local simp] gz gs nltT nltF iltT iltF ileT nleT de
theorem s280 {n:Nat} (hn:n≤100000) (w:Nat):∃ P' a,xCall T 280 [.slice none 0 (some 0),.int .i64 (n:Nat)] ⟨O,b,w⟩=some (.slice a 0 (if n=0 then some 0 else none),⟨P',b,w⟩)∧Pre O P'∧OwnS O.length P' [] a (if n=0 then some 0 else none):=by
 have tt:=tsub t280;by_cases h:n=0
 ·subst h;exact ⟨O,none,by simp (disch:=omega) [au tt,code280,evCap],Pre.refl _,.inl ⟨rfl,rfl⟩⟩
 ·have hp:(0:Int) < n:=by omega
  have hp2:¬ (n:Int) < 0:=by omega
  have hp3:¬ (n:Int)=0:=by omega
  have hp4:0 < n:=by omega
  have hf:=s6 (O:=O) (b:=b) (w:=w) (P:=O++[.cells 1 ((List.replicate n ([]:Str)).flatMap dj)]) (e:=1) (q:=O.length) (n:=0) (cs:=(List.replicate n ([]:Str)).flatMap dj) (c:=none) (W:=O.length) (by rw [dp]; rfl) (idsR _) (fun g=>renR g _) (ai _) (ai _);refine ⟨_,some (O.length,0),?_,Pre.app O [.cells 1 ((List.replicate n ([]:Str)).flatMap dj)],.inr ⟨O.length,List.replicate n [],ai _,rfl,by rw [if_neg h],by rw [dp]; rfl⟩⟩;rw [if_neg h];have hX:(List.replicate n ([]:Str)).flatMap dj=List.replicate n (AVal.str []):=by rw [← mapS,List.map_replicate]
  rw [hX] at hf ⊢;simp (disch:=omega) [-dy,au tt,code280,evCap,hp,hp2,hp3,hp4,h,hf]
end
theorem row_here {α:Type} {P:List AObj} {e q:Nat} {f:α→List AVal} {L:List α} {cs:List AVal} (hq:P[q]? = some (.cells e cs)) (h:Row P e f L (some (q,0))) (X:List AObj):Row (X++[.cells e cs]) e f L (some (X.length,0)) :=
 ⟨fun hne=>by obtain ⟨p,o,cs',h1,h2,h3⟩:=h.at' hne;injection h1 with h1; injection h1 with h1 h1'; subst h1 h1';rw [hq] at h2; injection h2 with h2; injection h2 with _ h2; subst h2;exact ⟨X.length,0,cs,rfl,by rw [dp]; rfl,h3⟩⟩
def twoC (a a2:Option (Nat × Nat)) (c c2:Option Nat) (L R:List Str):List AVal:=[.slice a L.length c,.slice a2 R.length c2]
section
attribute [-simp] getElem?_pos getElem?_neg List.all_eq_true
attribute [local simp] gz gs nltT nltF iltT iltF ileT nleT de
theorem s274 {L R:List Str} {a a2:Option (Nat × Nat)} {c c2:Option Nat} {i:Nat} (hi:O[i]? = some (.cells 1 (twoC a a2 c c2 L R))) (hL:Row O 1 dj L a) (hR:Row O 1 dj R a2) (hb:b≤O.length) (hl:L.length+R.length≤50000) (w:Nat) :
  ∃ P' a' c',xCall T 274 [.slice (some (i,0)) 2 (some 2)] ⟨O,b,w⟩=some (.slice a' (L++R).length c',⟨P',b,w⟩)∧Pre O P'∧RowN O P' (L++R) a'∧(L++R≠[]→c'=none)∧under P'.length a':=by
 have tt:=tsub t274;unfold twoC at hi
 have m2:∀ (r:Int) (w:Nat) (k:AExit→St→Option (AVal × Heap)),xK T (.loop Zt.code274L1) ⟨[(0,.val (.slice (some (i,0)) 2 (some 2))),(3,.val (.int .i64 r)),(9,.val (.slice (some (i,0)) 2 (some 2))),(10,.val (.int .i64 2)),(11,.val (.int .i64 2))],⟨O,b,w⟩⟩ (k:=⟨k⟩)=k (.exit 0) ⟨[(0,.val (.slice (some (i,0)) 2 (some 2))),(3,.val (.int .i64 r))],⟨O,b,w⟩⟩:=fun r w k=>by rw [cg];simp (disch:=omega) [Zt.code274L1]
 have m1:∀ (r:Nat) (w:Nat) (k:AExit→St→Option (AVal × Heap)),r≤50000→xK T (.loop Zt.code274L1) ⟨[(0,.val (.slice (some (i,0)) 2 (some 2))),(3,.val (.int .i64 r)),(9,.val (.slice (some (i,0)) 2 (some 2))),(10,.val (.int .i64 2)),(11,.val (.int .i64 1))],⟨O,b,w⟩⟩ (k:=⟨k⟩)=k (.exit 0) ⟨[(0,.val (.slice (some (i,0)) 2 (some 2))),(3,.val (.int .i64 ((r:Int)+R.length)))],⟨O,b,w⟩⟩:=fun r w k hr=>by
  rw [cg];have h0:¬ (r:Int)+R.length < 0:=by omega
  generalize ACode.loop Zt.code274L1=LL at m2 ⊢;simp (disch:=omega) [Zt.code274L1,hi,m2,h0]
 have m0:∀ (w:Nat) (k:AExit→St→Option (AVal × Heap)),xK T (.loop Zt.code274L1) ⟨[(0,.val (.slice (some (i,0)) 2 (some 2))),(3,.val (.int .i64 0)),(9,.val (.slice (some (i,0)) 2 (some 2))),(10,.val (.int .i64 2)),(11,.val (.int .i64 0))],⟨O,b,w⟩⟩ (k:=⟨k⟩)=k (.exit 0) ⟨[(0,.val (.slice (some (i,0)) 2 (some 2))),(3,.val (.int .i64 ((L.length:Int)+R.length)))],⟨O,b,w⟩⟩:=fun w k=>by
  rw [cg];have m1:=fun w k=>m1 L.length w k (by omega)
  have h0:¬ (L.length:Int) < 0:=by omega
  generalize ACode.loop Zt.code274L1=LL at m1 ⊢;simp (disch:=omega) [Zt.code274L1,hi,m1,h0]
 obtain ⟨P0,g,e280,p0,o0⟩:=s280 (O:=O) (b:=b) (n:=L.length+R.length) (by omega) O.length;have hc:((L.length+R.length:Nat):Int)=(L.length:Int)+R.length:=by omega
 rw [hc] at e280;have hl0:=p0.len;generalize (if L.length+R.length=0 then some 0 else none:Option Nat)=c0 at e280 o0;have r0:Row P0 1 dj [] g:=⟨fun h=>absurd rfl h⟩;obtain ⟨P1,g1,c1,n1,e1,r1,o1,k1,l1,w1⟩:=app_rows (b:=b) (c2:=c) hb hl0 r0 o0 (p0.row hL) (by simp; omega);rw [bj] at r1 o1;simp only [bf,dk] at e1;have p1:Pre O P1:=fun j o hj=>k1 j o (p0 _ _ hj) (aj hj)
 obtain ⟨P2,g2,c2',n2,e2,r2,o2,k2,l2,w2⟩:=app_rows (b:=b) (c2:=c2) hb (by omega) r1 o1 (p1.row hR) (by omega);have p2:Pre O P2:=fun j o hj=>k2 j o (p1 _ _ hj) (aj hj)
 have hi0:=p0 _ _ hi;have hi1:=p1 _ _ hi
 have q2:∀ (v:AVal) (P:List AObj) (w:Nat) (k:AExit→St→Option (AVal × Heap)),xK T (.loop Zt.code274L0) ⟨[(6,.val v),(25,.val (.slice (some (i,0)) 2 (some 2))),(26,.val (.int .i64 2)),(27,.val (.int .i64 2))],⟨P,b,w⟩⟩ (k:=⟨k⟩)=k (.exit 2) ⟨[(6,.val v)],⟨P,b,w⟩⟩:=fun v P w k=>by rw [cg];simp (disch:=omega) [Zt.code274L0]
 have q1:∀ (w:Nat) (k:AExit→St→Option (AVal × Heap)),xK T (.loop Zt.code274L0) ⟨[(6,.val (.slice g1 L.length c1)),(25,.val (.slice (some (i,0)) 2 (some 2))),(26,.val (.int .i64 2)),(27,.val (.int .i64 1))],⟨P1,b,w⟩⟩ (k:=⟨k⟩)=k (.exit 2) ⟨[(6,.val (.slice g2 (L.length+R.length) c2'))],⟨P2,b,n2 w⟩⟩:=fun w k=>by rw [cg];generalize ACode.loop Zt.code274L0=LL at q2 ⊢;simp (disch:=omega) [-eb,Zt.code274L0,hi1,e2,q2]
 have q0:∀ (w:Nat) (k:AExit→St→Option (AVal × Heap)),xK T (.loop Zt.code274L0) ⟨[(6,.val (.slice g 0 c0)),(25,.val (.slice (some (i,0)) 2 (some 2))),(26,.val (.int .i64 2)),(27,.val (.int .i64 0))],⟨P0,b,w⟩⟩ (k:=⟨k⟩)=k (.exit 2) ⟨[(6,.val (.slice g2 (L.length+R.length) c2'))],⟨P2,b,n2 (n1 w)⟩⟩:=fun w k=>by rw [cg];generalize ACode.loop Zt.code274L0=LL at q1 ⊢;simp (disch:=omega) [-eb,Zt.code274L0,hi0,e1,q1]
 have hW:O.length≤n2 (n1 O.length):=w2 _ (w1 _ (ai _));have hll:(L++R).length=L.length+R.length:=aq;rw [hll];rcases o2 with ⟨rfl,hLR⟩ | ⟨q,cs,s1,rfl,rfl,s4⟩
 ·have hz:L.length+R.length=0:=by rw [← aq,hLR]; rfl
  refine ⟨O,none,c2',?_,Pre.refl _,by rw [hLR]; exact RowN.nil,fun h=>absurd hLR h,fun i o e=>by cases e⟩;have hq:¬ n2 (n1 O.length) < O.length:=by omega
  simp (disch:=omega) [-eb,au tt,Zt.code274,m0,e280,q0,hq]
 ·have hf:=s6 (O:=O) (b:=b) (w:=w) (P:=P2) (e:=1) (q:=q) (n:=L.length+R.length) (cs:=cs.flatMap dj) (c:=none) (W:=n2 (n1 O.length)) s4 (idsR _) (fun g=>renR g _) s1 hW;refine ⟨O++[.cells 1 (cs.flatMap dj)],some (O.length,0),none,?_,Pre.app _ _,⟨row_here s4 r2 O,fun i o e=>by cases e; exact ai _⟩,fun _=>rfl,fun i o e=>by cases e; simp⟩;simp (disch:=omega) [-eb,-dy,au tt,Zt.code274,m0,e280,q0,hf]
end
end Go.Abs.AbsTyb

namespace Go.Abs.AbsTyb
open Go.Abs.Zd Go.Abs.Zh
open Go.Abs.Zo hiding T sub
open Go.Abs.Zt hiding T sub subT
variable {os O:List AObj} {b w N:Nat} {S:List (Str × Str)} {F M:List (Key × Mem)} {V:List (Key × Bool)}
structure RowU (O P:List AObj) (L:List Str) (a:Option (Nat × Nat)):Prop where
 r:Row P 1 dj L a
 o:over O.length a
 u:under P.length a
theorem RowU.nil {P:List AObj}:RowU O P [] none:=⟨⟨fun h=>absurd rfl h⟩,(fun i o h=>by cases h),(fun i o h=>by cases h)⟩
theorem u0 {P:List AObj} {L1 L2:List Str} {a1 a2:Option (Nat × Nat)} {c1 c2:Option Nat} {W:Nat} {X:List AVal} (hu:∀ n,AVal.unders n X=true) (hi:AVal.idsL X=[]) (hx:∀ g,AVal.renL g X=X) (hp:Pre O P) (h1:RowN O P L1 a1) (h2:RowN O P L2 a2) (y1:under P.length a1) (y2:under P.length a2) (hW:O.length≤W) {n0:Nat} (h0:n0≤O.length) (hw:n0≤w) :
  ∃ P' a1' a2',∃ w':Nat,dy ⟨O,b,w⟩ (.tuple (.agg [.slice a1 L1.length c1,.slice a2 L2.length c2] :: X)) ⟨P,b,W⟩=(.tuple (.agg [.slice a1' L1.length c1,.slice a2' L2.length c2] :: X),⟨P',b,w'⟩) ∧
   Pre O P'∧n0≤w'∧RowU O P' L1 a1'∧RowU O P' L2 a2':=by
 cases hv:(AVal.tuple (.agg [.slice a1 L1.length c1,.slice a2 L2.length c2] :: X)).under O.length with
 | true =>
  have n1:a1=none:=by
   cases a1 with
   | none=>rfl
   | some p =>
    obtain ⟨i,o⟩:=p;have:=h1.o i o rfl;simp [AVal.under,AVal.unders] at hv;omega
  have n2:a2=none:=by
   cases a2 with
   | none=>rfl
   | some p =>
    obtain ⟨i,o⟩:=p;have:=h2.o i o rfl;simp [AVal.under,AVal.unders] at hv;omega
  subst n1 n2;refine ⟨O,none,none,w,?_,Pre.refl _,hw,?_,?_⟩
  ·have hq:¬ W < O.length:=by omega
   simp only [dy,Heap.size,hv,if_neg hq,if_true]
  ·rw [nz h1.r]; exact RowU.nil
  ·rw [nz h2.r]; exact RowU.nil
 | false =>
  rcases s5 (h0:=⟨O,b,w⟩) (h:=⟨P,b,W⟩) hv with ⟨w',e1,e2⟩ | ⟨_,f,I,X',e1,hm,hI⟩
  ·refine ⟨P,a1,a2,w',e1,hp,?_,⟨h1.r,h1.o,y1⟩,⟨h2.r,h2.o,y2⟩⟩;rcases e2 with e2 | ⟨e2,_⟩
   ·have:w'=min w W:=e2;omega
   ·have:w'=w:=e2;omega
  ·have i1:inI I a1:=fun i o h=>hI i (by subst h; simp [AVal.ids,AVal.idsL]) (h1.o i o h)
   have i2:inI I a2:=fun i o h=>hI i (by subst h; simp [AVal.ids,AVal.idsL]) (h2.o i o h)
   have r1:=hm.row (g:=fun x=>x) h1.r i1 xk;have r2:=hm.row (g:=fun x=>x) h2.r i2 xk;rw [mapid] at r1 r2;refine ⟨O++X',renA f a1,renA f a2,w,?_,Pre.app _ _,hw,⟨r1,ny hm.up h1.o,hm.under i1 y1⟩,⟨r2,ny hm.up h2.o,hm.under i2 y2⟩⟩;rw [e1];simp only [AVal.ren,AVal.renL,zbv,hx]
theorem zb7 {P:List AObj} {W:Nat} {x:Bool} (hW:O.length≤W):dy ⟨O,b,w⟩ (.tuple [.agg [.slice none 0 (some 0),.slice none 0 (some 0)],.bool x]) ⟨P,b,W⟩=(.tuple [.agg [.slice none 0 (some 0),.slice none 0 (some 0)],.bool x],⟨O,b,w⟩):=by
 have hq:¬ W < O.length:=by omega
 simp [dy,Heap.size,hq,AVal.under,AVal.unders]
def pushS (K:List Str) (t:Str) (most:Int):Option (List Str):=if t=[84]∨t=[45]∨most < K.length+(wide t).length then none else some (K++wide t)
def capOK (n:Nat) (c:Option Nat):Prop:=∀ k,c=some k→n≤k
theorem cp_cap {a:Option (Nat × Nat)} {L:List Str} (h:Row O 1 dj L a):capOK L.length (cpC a L):=by
 intro k e;cases a with
 | none=>rw [nz h]; exact dt _
 | some q =>
  by_cases hL:L=[]
  ·rw [hL]; exact dt _
  ·simp [cpC,hL] at e
theorem zb8 (t:Str):ul [t]=wide t:=by unfold ul; simp
theorem zad (t:Str):wide t≠[]:=by unfold wide; split <;> simp
theorem zb9 (t:Str):(wide t).length≤2:=by unfold wide; split <;> simp
theorem row_one {t:Str} {i:Nat} (h:O[i]? = some (.cells 1 [.str t])):Row O 1 dj [t] (some (i,0)):=Row.mk0 kj h
section
attribute [-simp] getElem?_pos getElem?_neg List.all_eq_true
attribute [local simp] gz gs nltT nltF iltT iltF ileT nleT de
theorem s254 {L K:List Str} {a a2:Option (Nat × Nat)} {c c2:Option Nat} (hL:Row O 1 dj L a) (hK:Row O 1 dj K a2) (hu:under O.length a) (hu2:under O.length a2) (hb:b≤O.length) (hn:L.length≤10000) (hk:K.length≤10000) {t:Str} {most:Int} {n0:Nat} (h0:n0≤O.length) (hw:n0≤w) :
  (pushS K t most=none∧xCall T 254 [.agg [.slice a L.length c,.slice a2 K.length c2],.str t,.int .i64 most] ⟨O,b,w⟩=some (.tuple [.agg [.slice none 0 (some 0),.slice none 0 (some 0)],.bool false],⟨O,b,w⟩)) ∨
  ∃ R,pushS K t most=some R∧∃ P' a' c' a2' c2',∃ w':Nat,xCall T 254 [.agg [.slice a L.length c,.slice a2 K.length c2],.str t,.int .i64 most] ⟨O,b,w⟩=some (.tuple [.agg [.slice a' L.length c',.slice a2' R.length c2'],.bool true],⟨P',b,w'⟩) ∧
   Pre O P'∧n0≤w'∧RowU O P' L a'∧RowU O P' R a2'∧capOK L.length c'∧c2'=none:=by
 have tt:=tsub t254;have hwl:=zb9 t;have hwn:=zad t;have hO1:(O++[AObj.cells 1 [.str t]])[O.length]? = some (.cells 1 [.str t]):=by rw [dp]; rfl
 have h260:=fun w=>fh AbsTyb.sub (s260 (b:=b) (w:=w) (c:=some 1) (row_one hO1) (by simp; omega) (by simp))
 rw [zb8] at h260;have hv1:newV (O++[AObj.cells 1 [.str t]]).length (wide t) = .slice (some (O.length+1,0)) (wide t).length none:=by unfold newV; rw [if_neg hwn]; simp
 have ho1:newO 1 dj (O++[AObj.cells 1 [.str t]]) (wide t)=O++[.cells 1 [.str t],.cells 1 ((wide t).flatMap dj)]:=by unfold newO; rw [if_neg hwn]; simp
 rw [hv1,ho1] at h260;simp only [az,bf,dk] at h260;generalize hP2:O++[.cells 1 [.str t],.cells 1 ((wide t).flatMap dj)]=P2 at h260;have hp2:Pre O P2:=hP2 ▸ Pre.app _ _;have hO2:P2[O.length+1]? = some (.cells 1 ((wide t).flatMap dj)):=by rw [← hP2,du]; rfl
 have hl2:P2.length=O.length+2:=by simp [← hP2]
 unfold pushS
 have bad:∀ q:t=[84]∨t=[45]∨most < K.length+(wide t).length,xCall T 254 [.agg [.slice a L.length c,.slice a2 K.length c2],.str t,.int .i64 most] ⟨O,b,w⟩=some (.tuple [.agg [.slice none 0 (some 0),.slice none 0 (some 0)],.bool false],⟨O,b,w⟩):=fun q=>by
  have hq:=zb7 (O:=O) (P:=P2) (b:=b) (w:=w) (W:=O.length) (x:=false) (ai _);by_cases c1:t=[84]
  ·subst c1;simp (disch:=omega) [-dy,au tt,Zt.code254,h260,hq]
  ·by_cases c2:t=[45]
   ·subst c2;simp (disch:=omega) [-dy,au tt,Zt.code254,h260,hq]
   ·have c3:most < (K.length:Int)+(wide t).length:=(q.resolve_left c1).resolve_left c2;simp (disch:=omega) [-dy,au tt,Zt.code254,h260,hq,c1,c2,c3]
 by_cases q:t=[84]∨t=[45]∨most < K.length+(wide t).length
 ·exact .inl ⟨if_pos q,bad q⟩
 ·right;rw [if_neg q];refine ⟨_,rfl,?_⟩;have d1:¬ t=[84]:=fun h=>q (.inl h)
  have d2:¬ t=[45]:=fun h=>q (.inr (.inl h))
  have d3:¬ most < (K.length:Int)+(wide t).length:=fun h=>q (.inr (.inr h))
  clear q bad;have h273:=fun w=>fh (fun g f h=>h) (s273 (b:=b) (c:=c) (hp2.row hL) (by omega) w)
  have hc1:=cp_row (hp2.row hL);have hp3:=zae (O:=P2) (a:=a) (L:=L);have hce:=cpV_eq (n:=P2.length) (hp2.row hL);have hp4:=Pre.app (cpO P2 a L) [AObj.cells 1 (twoC a2 (some (O.length+1,0)) c2 none K (wide t))];have hi4:(cpO P2 a L++[AObj.cells 1 (twoC a2 (some (O.length+1,0)) c2 none K (wide t))])[(cpO P2 a L).length]? = some (.cells 1 (twoC a2 (some (O.length+1,0)) c2 none K (wide t))):=by rw [dp]; rfl
  obtain ⟨P5,a5,c5,e5,p5,r5,k5,y5⟩:=s274 (b:=b) hi4 (((hp2.trans hp3).trans hp4).row hK) ((hp3.trans hp4).row (Row.mk0 kj hO2)) (by have:=hp3.len; simp; omega) (by omega) O.length;have hc5:=hc1;have hr1:RowN O P5 L (cpA P2.length a):=⟨p5.row (hp4.row hc1.r),fun i o e=>by have:=hc1.o i o e; omega⟩;have hr5:RowN O P5 (K++wide t) a5:=⟨r5.r,fun i o e=>by have h5:=r5.o i o e; have h6:=hp3.len; have h7:=hp4.len; omega⟩;obtain ⟨P',a',a2',w',hf,f1,f2,f3,f4⟩:=u0 (O:=O) (b:=b) (w:=w) (c1:=cpC a L) (c2:=c5) (W:=O.length) (X:=[.bool true]) (fun n=>by simp [AVal.unders,AVal.under]) (by simp [AVal.idsL,AVal.ids]) (fun g=>by simp [AVal.renL,AVal.ren]) (((hp2.trans hp3).trans hp4).trans p5) hr1 hr5 ((zca (O:=P2) (a:=a) (L:=L)).le (by have:=hp4.len; have:=p5.len; omega)) y5 (ai _) h0 hw;refine ⟨P',a',cpC a L,a2',c5,w',?_,f1,f2,f3,f4,cp_cap hL,k5 (by simp [hwn])⟩
  have u2:under P2.length a2:=hu2.le (by omega);have z2:=lowI (l:=K.length) (c:=c2) u2;have v2:=fun mm ds=>ie (n0:=P2.length) (m:=mm) (ds:=ds) (n:=K.length) (c:=c2) u2
  have u1:under P2.length a:=hu.le (by omega);have z1:=lowI (l:=L.length) (c:=c) u1;have v1:=fun mm ds=>ie (n0:=P2.length) (m:=mm) (ds:=ds) (n:=L.length) (c:=c) u1
  unfold twoC at e5;have ho:okId P2.length 0 [] (O.length+1)=true:=by unfold okId; rw [decide_eq_true (by omega)]; rfl
  rw [hce] at h273;have hKw:(K++wide t).length=K.length+(wide t).length:=aq;rw [hKw] at hf e5 ⊢;cases a with
  | none =>
   simp only [cpO,cpA,cpC] at *;simp (disch:=omega) [-dy,-sget,jl,jm,jn,aw,bo,au tt,Zt.code254,h260,d1,d2,d3,h273,v1,v2,z1,z2,e5,hf]
  | some qq =>
   have hqq:qq.fst < P2.length:=u1 qq.1 qq.2 rfl;simp only [cpO,cpA,cpC] at *;simp only [aq,az,bf,dk,ba,bl,bj] at e5;simp (disch:=omega) [-dy,-sget,jl,jm,jn,aw,bo,au tt,Zt.code254,h260,d1,d2,d3,hqq,h273,v1,v2,z1,z2,e5,hf]
end
end Go.Abs.AbsTyb

namespace Go.Abs.AbsTyb
open Go.Abs.Zd Go.Abs.Zh
open Go.Abs.Zo hiding T sub
open Go.Abs.Zt hiding T sub subT
variable {os O:List AObj} {b w N:Nat} {S:List (Str × Str)} {F M:List (Key × Mem)} {V:List (Key × Bool)}
def popAt (S:List (Str × Str)) (K:List Str) (n:Nat) (t:Str):Option (List Str × Str):=match K.drop n with
 | []=>none
 | x :: r=>if meetsS S (x :: r) t then some (K.take n,x) else none
def popS (S:List (Str × Str)) (K:List Str) (t:Str):Option (List Str × Str):=if (if t=[74] then 2 else 1)≤K.length then popAt S K (K.length - (if t=[74] then 2 else 1)) t else none
theorem row_drop {L:List Str} {p o n:Nat} (h:Row O 1 dj L (some (p,o))):Row O 1 dj (L.drop n) (some (p,o+n)) :=
 ⟨fun hne=>by
  have hL:L≠[]:=fun e=>hne (by rw [e]; simp)
  obtain ⟨b,q,cs,h1,h2,h3⟩:=h.at' hL;cases h1;refine ⟨p,o+n,cs,rfl,h2,fun j x hx=>?_⟩;rw [dw] at hx;have:=h3 (n+j) x hx;simp only [xv] at this ⊢;rw [bo o n j]; exact this⟩
theorem row_take {α:Type} {e:Nat} {f:α→List AVal} {L:List α} {a:Option (Nat × Nat)} {n:Nat} (h:Row O e f L a):Row O e f (L.take n) a :=
 ⟨fun hne=>by
  have hL:L≠[]:=fun e=>hne (by rw [e]; simp)
  obtain ⟨b,q,cs,h1,h2,h3⟩:=h.at' hL;refine ⟨b,q,cs,h1,h2,fun j x hx=>h3 j x ?_⟩;rw [pz] at hx;split at hx
  ·exact hx
  ·cases hx⟩
def PopOut (g:Nat) (O:List AObj) (b w n0:Nat) (N:Nat) (a:Option (Nat × Nat)) (c:Option Nat) (a2:Option (Nat × Nat)) (c2:Option Nat) (L K:List Str) (t:Str) (r:Option (List Str × Str)):Prop:=match r with
 | none=>xCall T g [.ptr (some (N,0)),.agg [.slice a L.length c,.slice a2 K.length c2],.str t] ⟨O,b,w⟩=some (.tuple [.agg [.slice none 0 (some 0),.slice none 0 (some 0)],.str [],.bool false],⟨O,b,w⟩)
 | some (R,x)=>∃ P' a' c' a2' c2',∃ w':Nat,xCall T g [.ptr (some (N,0)),.agg [.slice a L.length c,.slice a2 K.length c2],.str t] ⟨O,b,w⟩=some (.tuple [.agg [.slice a' L.length c',.slice a2' R.length c2'],.str x,.bool true],⟨P',b,w'⟩) ∧
   Pre O P'∧n0≤w'∧RowU O P' L a'∧RowU O P' R a2'∧capOK L.length c'∧capOK R.length c2'
theorem zb6 {P:List AObj} {W:Nat} {x:Bool} {s:Str} (hW:O.length≤W):dy ⟨O,b,w⟩ (.tuple [.agg [.slice none 0 (some 0),.slice none 0 (some 0)],.str s,.bool x]) ⟨P,b,W⟩=(.tuple [.agg [.slice none 0 (some 0),.slice none 0 (some 0)],.str s,.bool x],⟨O,b,w⟩):=by
 have hq:¬ W < O.length:=by omega
 simp [dy,Heap.size,hq,AVal.under,AVal.unders]
theorem row_set {P:List AObj} {L:List Str} {a:Option (Nat × Nat)} {n:Nat} {y:AObj} (h:Row P 1 dj L a) (ho:over (n+1) a):Row (P.set n y) 1 dj L a∧over n a:=⟨⟨fun hne=>by obtain ⟨b,q,cs,h1,h2,h3⟩:=h.at' hne;have:=ho b q h1;exact ⟨b,q,cs,h1,by rw [ap (by omega)]; exact h2,h3⟩⟩,fun i o e=>by have:=ho i o e; omega⟩
theorem s275 (hb:b≤O.length) {L K:List Str} {a a2:Option (Nat × Nat)} {c c2:Option Nat} {t:Str} (c1:¬ t=[86]) {n0:Nat}:PopOut 275 O b w n0 N a c a2 c2 L K t none:=by
 have hz:=fun P W=>zb6 (O:=O) (b:=b) (w:=w) (P:=P) (W:=W) (x:=false) (s:=[])
 have hle:=ai O.length;unfold PopOut;simp (disch:=omega) [-getElem?_pos,-getElem?_neg,-List.all_eq_true,gz,gs,nltT,nltF,iltT,iltF,ileT,nleT,de,-dy,au t275,code275,c1,hz,hle]
end Go.Abs.AbsTyb

namespace Go.Abs.AbsTyb
open Go.Abs.Zd Go.Abs.Zh
open Go.Abs.Zo hiding T sub
open Go.Abs.Zt hiding T sub subT
variable {os O:List AObj} {b w N:Nat} {S:List (Str × Str)} {F M:List (Key × Mem)} {V:List (Key × Bool)}
section
attribute [-simp] getElem?_pos getElem?_neg List.all_eq_true sget
attribute [local simp] gz gs nltT nltF iltT iltF ileT nleT de jl jm jn
set_option maxHeartbeats 4000000 in
theorem s253 (h:Zh.World O N S F M V) (hb:b≤O.length) (hS:S.length≤9223372036854775807) {L K:List Str} {a a2:Option (Nat × Nat)} {c c2:Option Nat} (hL:Row O 1 dj L a) (hK:Row O 1 dj K a2) (hu:under O.length a) (hu2:under O.length a2) (hcap:capOK K.length c2) (hn:L.length≤10000) (hk:K.length≤1000) (hs:∀ x ∈ K,x.length≤9223372036854775807) {t:Str} (c1:¬ t=[86]) (ht:t.length≤9223372036854775807) {n0:Nat} (h0:n0≤O.length) (hw:n0≤w) :
  PopOut 253 O b w n0 N a c a2 c2 L K t (popS S K t):=by
 have hz:=fun P W=>zb6 (O:=O) (b:=b) (w:=w) (P:=P) (W:=W) (x:=false) (s:=[])
 have hle:=ai O.length;obtain ⟨Z,hZ⟩:∃ Z,Z=[AObj.cells 2 [.slice none 0 (some 0),.slice none 0 (some 0)],.cells 1 [.str t]]:=⟨_,rfl⟩;have hpre:=Pre.app O Z;have hO2:(O++Z)[O.length+1]? = some (.cells 1 [.str t]):=by rw [hZ,du]; rfl
 have h43:=fun w=>s43 (b:=b) hO2 w
 have h1:=Zh.World.app h Z;have u1:under (O.length+1) a:=hu.le (by omega);have u2:under (O.length+1) a2:=hu2.le (by omega);have z1:=lowI (l:=L.length) (c:=c) u1;have z2:=lowI (l:=K.length) (c:=c2) u2;have v1:=fun mm ds=>ie (n0:=O.length+1) (m:=mm) (ds:=ds) (n:=L.length) (c:=c) u1
 have v2:=fun mm ds=>ie (n0:=O.length+1) (m:=mm) (ds:=ds) (n:=K.length) (c:=c2) u2
 have hids:=Classical.propComplete ((AVal.slice a2 K.length c2).ids=[]);have h275:=s275 (O:=O++Z) (b:=b) (w:=O.length) (N:=N) (a:=a) (a2:=a2) (c:=c) (c2:=c2) (L:=L) (K:=K) (n0:=0) (by simp; omega) c1;unfold PopOut at h275;simp only at h275;have hsl:slotsN t=if t=[74] then 2 else 1:=by unfold slotsN; rw [if_neg c1]
 have hn12:slotsN t=1∨slotsN t=2:=by rw [hsl]; split <;> simp
 unfold popS;rw [← hsl];generalize hnn:slotsN t=n at *;by_cases c3:n≤K.length
 ·rw [if_pos c3];have hKi:¬ (K.length:Int) - n < 0:=by omega
  have hKc:((K.length - n:Nat):Int)=(K.length:Int) - n:=by omega
  obtain ⟨p,o,cs,rfl,hp,hv⟩:=qd hK (i:=K.length - n) (ah (by omega));have hp':∀ X:List AObj,(O++X)[p]? = some (.cells 1 cs):=fun X=>(ag (l₂:=X) (aj hp)).trans hp
  have hdr:∃ r,K.drop (K.length - n)=K[K.length - n] :: r:=⟨_,ed (by omega)⟩;obtain ⟨r,hdr⟩:=hdr;have hdl:(K.drop (K.length - n)).length=n:=by rw [gh]; omega
  have h276:=fun w=>s276 (b:=b) (t:=t) (c:=c2.map (· - (K.length - n))) h1 (by simp; omega) hS (row_drop (n:=K.length - n) (hpre.row hK)) (by simp; omega) (fun x hx=>hs x (ot hx)) ht w
  have hpl:p < O.length+1:=u2 p o rfl;have hcne:¬ c2=some (K.length - n):=fun e=>by have:=hcap _ e; omega
  have hs1:K.length - (K.length - n)=n:=by omega
  unfold popAt;rw [hdl] at h276;rw [hdr] at h276 ⊢;simp only;generalize K[K.length - n]=x at *;cases e:meetsS S (x :: r) t with
  | false =>
   rw [e] at h276;simp only [am,if_false];unfold PopOut;subst hZ;rcases hids with hids | hids <;> simp (disch:=omega) [hids,-dy,aw,bo,au t253,code253,h43,v1,v2,z1,z2,c1,hKi,hKc,hcne,hs1,hpl,h276,hp',hv,h275,hz,hle]
   all_goals done
  | true =>
   rw [e] at h276;simp only [if_true];have hKt:(K.take (K.length - n)).length=K.length - n:=by rw [mt]; omega
   have h273a:=fun w=>s273 (b:=b) (c:=c) (hpre.row hL) (by omega) w
   have hr1:=cp_row (hpre.row hL);have hp3:=zae (O:=(O++Z)) (a:=a) (L:=L);have hrt:Row O 1 dj (K.take (K.length - n)) (some (p,o)):=row_take hK;have h273b:=fun c w=>s273 (b:=b) (c:=c) ((hpre.trans hp3).row hrt) (by omega) w
   have hr2:=cp_row ((hpre.trans hp3).row hrt);have hp4:=zae (O:=cpO (O++Z) a L) (a:=some (p,o)) (L:=K.take (K.length - n));have hOl:(O++Z).length=O.length+2:=by simp [hZ]
   have ho1:over (O.length+1) (cpA (O++Z).length a):=fun i o e=>by have:=hr1.o i o e; omega
   have ho2:over (O.length+1) (cpA (cpO (O++Z) a L).length (some (p,o))):=fun i o e=>by have:=hr2.o i o e; have:=hp3.len; omega
   obtain ⟨P',a',a2',w',hf,f1,f2,f3,f4⟩:=u0 (O:=O) (b:=b) (w:=w) (P:=(cpO (cpO (O++Z) a L) (some (p,o)) (K.take (K.length - n))).set O.length (.cells 2 [cpV (O++Z).length a L,cpV (cpO (O++Z) a L).length (some (p,o)) (K.take (K.length - n))])) (c1:=cpC a L) (c2:=cpC (some (p,o)) (K.take (K.length - n))) (W:=O.length) (X:=[.str x,.bool true]) (fun n=>by simp [AVal.unders,AVal.under]) (by simp [AVal.idsL,AVal.ids]) (fun g=>by simp [AVal.renL,AVal.ren]) (Pre.set ((hpre.trans hp3).trans hp4) _ (ai _)) ⟨(row_set (hp4.row hr1.r) ho1).1,fun i o e=>by have:=ho1 i o e; omega⟩ ⟨(row_set hr2.r ho2).1,fun i o e=>by have:=ho2 i o e; omega⟩ (by rw [jh]; exact (zca (O:=(O++Z)) (a:=a) (L:=L)).le hp4.len) (by rw [jh]; exact zca) (ai _) h0 hw;unfold PopOut;refine ⟨P',a',cpC a L,a2',cpC (some (p,o)) (K.take (K.length - n)),w',?_,f1,f2,f3,f4,cp_cap hL,cp_cap hrt⟩
   have y1:under (O.length+2) a:=hu.le (by omega);have y2:under (O.length+2) (some (p,o)):=hu2.le (by omega);have yp:p < O.length:=hu2 p o rfl;have hpn:¬ O.length=p:=by omega
   have zz1:=lowI (l:=L.length) (c:=c) y1;have zz2:=lowI (l:=K.length) (c:=c2) y2;have vv1:=fun mm ds=>ie (n0:=O.length+2) (m:=mm) (ds:=ds) (n:=L.length) (c:=c) y1
   have vv2:=fun mm ds=>ie (n0:=O.length+2) (m:=mm) (ds:=ds) (n:=K.length) (c:=c2) y2
   have hcg:(K.length:Int) - n≤((c2.getD K.length:Nat):Int):=by
    cases c2 with
    | none=>show (K.length:Int) - n≤(K.length:Int); omega
    | some k=>have:=hcap k rfl; show (K.length:Int) - n≤(k:Int); omega
   have hcz:¬ c2=some 0:=fun e=>by have:=hcap _ e; omega
   have hin:(K.length:Int) - n < K.length:=by omega
   subst hZ;rw [hKt] at hf ⊢;simp only [cpV,cpO,cpA,cpC,hKt] at *;cases a with
   | none =>
    have hL0:=nz hL;subst hL0;simp only [bf,ba,bl,bj,aq,az,bf,dk,bo,Nat.reduceAdd,set_mid,List.take_eq_nil_iff] at h273a h273b hf;simp (maxSteps:=3000000) (disch:=omega) [-dy,aw,bo,au t253,code253,h43,v1,v2,z1,z2,c1,hKi,hKc,hcne,hs1,hpl,h276,hp',hv,vv1,vv2,zz1,zz2,yp,hpn,hcg,hcz,hin,h273a,h273b,hf];all_goals done
   | some qq =>
    have hqq:qq.fst < O.length+1:=u1 qq.1 qq.2 rfl;have hqq2:qq.fst < O.length+2:=y1 qq.1 qq.2 rfl;simp only [ba,bl,bj,aq,az,bf,dk,bo,Nat.reduceAdd,set_mid,List.take_eq_nil_iff] at h273a h273b hf;simp (maxSteps:=3000000) (disch:=omega) [-dy,aw,bo,au t253,code253,h43,v1,v2,z1,z2,c1,hKi,hKc,hcne,hs1,hpl,h276,hp',hv,hqq,hqq2,vv1,vv2,zz1,zz2,yp,hpn,hcg,hcz,hin,h273a,h273b,hf];all_goals done
 ·rw [if_neg c3];have hKi:(K.length:Int) - n < 0:=by omega
  unfold PopOut;subst hZ;rcases hids with hids | hids <;> simp (disch:=omega) [hids,-dy,aw,bo,au t253,code253,h43,v1,v2,z1,z2,c1,hKi,h275,hz,hle]
  all_goals done
end
end Go.Abs.AbsTyb

namespace Go.Abs.AbsTyb
open Go.Abs.Zd Go.Abs.Zh
open Go.Abs.Zo hiding T sub
open Go.Abs.Zt hiding T sub subT
variable {os O:List AObj} {b w N:Nat} {S:List (Str × Str)} {F M:List (Key × Mem)} {V:List (Key × Bool)}
def cutR (L:List Str) (e:Nat):List Str:=if L[e - 1]? = some [74]∧e < L.length then L.set e [84] else L
def cutL (L:List Str) (n:Nat):List Str:=if 0 < n∧L[n]? = some [45] then L.set (n - 1) [84] else L
def putAt (L:List Str) (n:Nat) (W:List Str):List Str:=L.take n++(W++L.drop (n+W.length))
def storeS (L:List Str) (i:Int) (t:Str):Option (List Str):=if i < 0∨(L.length:Int) < i∨(L.length:Int) - i < (wide t).length then none else some (putAt (cutL (cutR L (i.toNat+(wide t).length)) i.toNat) i.toNat (wide t))
theorem flatS_get {L:List Str} {i:Nat} {x:Str} (h:L[i]? = some x):(L.flatMap dj)[i]? = some (.str x):=by rw [← mapS,cz,h]; rfl
theorem flatS_set {L:List Str} {i:Nat} (x:Str) (h:i < L.length):List.take i (L.flatMap dj)++AVal.str x :: List.drop (i+1) (L.flatMap dj)=(L.set i x).flatMap dj:=by rw [← mapS,← mapS,List.map_set,List.set_eq_take_append_cons_drop,if_pos (by simpa using h)]
theorem flatS_put {L W:List Str} {i:Nat}:List.take i (L.flatMap dj)++(W.flatMap dj++List.drop (i+W.length) (L.flatMap dj))=(putAt L i W).flatMap dj:=by unfold putAt;rw [← mapS,← mapS,← mapS,i7,i7,List.map_take,List.map_drop]
theorem re (L:List Str) (e:Nat):(cutR L e).length=L.length:=by unfold cutR; split <;> simp
theorem rf (L:List Str) (e:Nat):(cutL L e).length=L.length:=by unfold cutL; split <;> simp
theorem yu {L W:List Str} {n:Nat} (h:n+W.length≤L.length):(putAt L n W).length=L.length:=by unfold putAt;simp only [aq,mt,gh];omega
section
open Go.Abs.Short
def a252:ACode:=(.seq (R [1,6,8,9,10] [v 41 1,v 42 8,o 43 (.len .sl (t 42)),o 44 (.bin .add (t 41) (t 43)),v 10 44])
 (.seq (R [1,6,8,9,10,58] [o 45 (.faddr (t 9) 0),o 46 (.load none (t 45)),v 47 10,o 48 (.bin .sub (t 47) (n 1)),o 49 (.iaddr 1 (t 46) (t 48)),o 50 (.load none (t 49)),o 51 (.bin .eql (t 50) (.const (.str [74]))),v 52 51,g 53 52 true (.val (t 10)),g 54 52 true (.faddr (t 9) 0),g 55 52 true (.load none (t 54)),g 56 52 true (.len .sl (t 55)),g 57 52 true (.bin .lss (t 53) (t 56)),o 58 (.pick (t 52) (t 57) Short.F)])
 (.after (.cond (t 58) (R [1,6,8,9] [o 59 (.faddr (t 9) 0),o 60 (.load none (t 59)),v 61 10,o 62 (.iaddr 1 (t 60) (t 61)),u (.store 1 (t 62) (.const (.str [84])))]) (.skip)) [1,6,8,9])))
def b252:ACode:=(.seq (R [1,6,8,9,72] [v 63 1,o 64 (.bin .gtr (t 63) (n 0)),v 65 64,g 66 65 true (.faddr (t 9) 0),g 67 65 true (.load none (t 66)),g 68 65 true (.val (t 1)),g 69 65 true (.iaddr 1 (t 67) (t 68)),g 70 65 true (.load none (t 69)),g 71 65 true (.bin .eql (t 70) (.const (.str [45]))),o 72 (.pick (t 65) (t 71) Short.F)])
 (.after (.cond (t 72) (R [1,6,8,9] [o 73 (.faddr (t 9) 0),o 74 (.load none (t 73)),v 75 1,o 76 (.bin .sub (t 75) (n 1)),o 77 (.iaddr 1 (t 74) (t 76)),u (.store 1 (t 77) (.const (.str [84])))]) (.skip)) [1,6,8,9]))
def c252:ACode:=(.seq (R [6,9] [o 78 (.faddr (t 9) 0),o 79 (.load none (t 78)),v 80 1,o 81 (.slice (.sl 1) (t 79) (some (t 80)) none none),v 82 8,o 83 (.ext (.copy 1) [t 81,t 82])])
 (.seq (R [6,7] [o 84 (.load (some 2) (t 9)),u (.store 2 (t 6) (t 84)),o 7 (.val Y)])
 (.live [6,7] (.ret))))
theorem code252_eq:code252=⟨false,false,3,85,[.cell 6 (some 2),.tmp 7],
 .seq (R [1,2,3,6] [o 3 (.lbox (t 0)),o 6 (.alloc 2 [.slice none 0 (some 0),.slice none 0 (some 0)]),o 7 (.val Short.F)])
 (.seq (R [1,3,6,8] [v 11 2,o 12 (.mkslice 1 1 [.str []] [(0,1,t 11)]),o 13 (.callg 100260 [t 12]),v 8 13])
 (.seq (.seq (R [1,3,6,8,32] [v 14 1,o 15 (.bin .lss (t 14) (n 0)),v 16 15,g 17 16 false (.val (t 1)),g 18 16 false (.faddr (t 3) 0),g 19 16 false (.load none (t 18)),g 20 16 false (.len .sl (t 19)),g 21 16 false (.bin .gtr (t 17) (t 20)),o 22 (.pick (t 16) Y (t 21)),v 23 22,g 24 23 false (.val (t 8)),g 25 23 false (.len .sl (t 24)),g 26 23 false (.faddr (t 3) 0),g 27 23 false (.load none (t 26)),g 28 23 false (.len .sl (t 27)),g 29 23 false (.val (t 1)),g 30 23 false (.bin .sub (t 28) (t 29)),g 31 23 false (.bin .gtr (t 25) (t 30)),o 32 (.pick (t 23) Y (t 31))])
 (.after (.cond (t 32) (.seq (R [6,7] [o 33 (.build [.slice none 0 (some 0),.slice none 0 (some 0)] []),u (.store 2 (t 6) (t 33)),o 7 (.val Short.F)])
 (.live [6,7] (.ret))) (.skip)) [1,3,6,8]))
 (.seq (.after (.region [⟨true,[0,1,3,0,8,31,63,0],[o 34 (.faddr (t 3) 0),o 35 (.load none (t 34)),o 36 (.callg 100273 [t 35]),o 37 (.faddr (t 3) 1),o 38 (.load none (t 37)),o 39 (.callg 100273 [t 38]),o 40 (.build [.slice none 0 (some 0),.slice none 0 (some 0)] [(0,1,t 36),(1,1,t 39)]),o 9 (.alloc 2 [.slice none 0 (some 0),.slice none 0 (some 0)])]⟩,⟨false,[],[u (.store 2 (t 9) (t 40))]⟩]) [1,6,8,9])
 (.seq a252 (.seq b252 c252))))),none⟩:=rfl
end
theorem xr {P:List AObj} {q:Nat} {o:AObj} (h:P[q]? = some o):P.set q o=P:=by
 refine kv fun j=>?_
 by_cases e:q=j
 ·subst e; rw [db,if_pos rfl,if_pos (aj h),h]
 ·rw [ap e]
section
variable {P:List AObj} {L W K:List Str} {q x9 n v8n:Nat} {c':Option Nat} {vK v6 v8:AVal}
section
attribute [-simp] getElem?_pos getElem?_neg List.all_eq_true
attribute [local simp] gz gs nltT nltF iltT iltF ileT nleT de
theorem run_a (hb:b≤q) (h9:P[x9]? = some (.cells 2 [.slice (some (q,0)) L.length c',vK])) (hq:P[q]? = some (.cells 1 (L.flatMap dj))) (hl:L.length≤10000) (hwl:W.length≤2) (hw0:0 < W.length) (hn:n+W.length≤L.length) (w:Nat) :
  ∃ w':Nat,(∀ m,m≤w→m≤q→m≤w')∧∀ (k:AExit→St→Option (AVal × Heap)),xK T a252 ⟨[(1,.val (.int .i64 n)),(6,.val v6),(8,.val (.slice (some (v8n,0)) W.length none)),(9,.val (.ptr (some (x9,0))))],⟨P,b,w⟩⟩ (k:=⟨k⟩) =
   k .normal ⟨[(1,.val (.int .i64 n)),(6,.val v6),(8,.val (.slice (some (v8n,0)) W.length none)),(9,.val (.ptr (some (x9,0))))],⟨P.set q (.cells 1 ((cutR L (n+W.length)).flatMap dj)),b,w'⟩⟩:=by
 have hi:¬ (n:Int)+W.length - 1 < 0:=by omega
 have hc1:((n+W.length - 1:Nat):Int)=(n:Int)+W.length - 1:=by omega
 have hc2:((n+W.length:Nat):Int)=(n:Int)+W.length:=by omega
 obtain ⟨y,hy⟩:∃ y,L[n+W.length - 1]? = some y:=⟨_,ah (by omega)⟩;have hyx:=flatS_get hy;have hb1:(n:Int)+W.length - 1 < L.length:=by omega
 have hb0:(0:Int)≤(n:Int)+W.length - 1:=by omega
 have hn1:((n:Int)+W.length - 1).toNat=n+W.length - 1:=by omega
 have hn2:((n:Int)+W.length).toNat=n+W.length:=by omega
 by_cases d1:y=[74]
 ·subst d1;by_cases d2:n+W.length < L.length
  ·have d2':(n:Int)+W.length < L.length:=by omega
   have hcut:cutR L (n+W.length)=L.set (n+W.length) [84]:=by unfold cutR; rw [if_pos ⟨hy,d2⟩]
   have hsp:=flatS_set [84] d2;have hfl:(L.flatMap dj).length=L.length:=by rw [lx dj 1 kj,xv]
   refine ⟨min w q,fun m h1 h2=>by omega,fun k=>?_⟩;rw [hcut];generalize (L.set (n+W.length) [84]).flatMap dj=X1 at *;generalize L.flatMap dj=X at *;have d3:n+W.length+1≤L.length:=by omega
   simp (disch:=omega) [a252,h9,hq,hyx,hb0,hb1,hn1,hn2,d2',hsp,hfl,d3]
  ·have d2':¬ (n:Int)+W.length < L.length:=by omega
   have hcut:cutR L (n+W.length)=L:=by unfold cutR; rw [if_neg fun h=>d2 h.2]
   refine ⟨w,fun m h1 h2=>h1,fun k=>?_⟩;rw [hcut,xr hq];generalize L.flatMap dj=X at *;simp (disch:=omega) [a252,h9,hq,hyx,hb0,hb1,hn1,hn2,d2']
 ·have hcut:cutR L (n+W.length)=L:=by unfold cutR; rw [if_neg fun h=>by rw [hy] at h; exact d1 (dg h.1)]
  refine ⟨w,fun m h1 h2=>h1,fun k=>?_⟩;rw [hcut,xr hq];generalize L.flatMap dj=X at *;simp (disch:=omega) [a252,h9,hq,hyx,hb0,hb1,hn1,hn2,d1]
theorem run_b (hb:b≤q) (h9:P[x9]? = some (.cells 2 [.slice (some (q,0)) L.length c',vK])) (hq:P[q]? = some (.cells 1 (L.flatMap dj))) (hl:L.length≤10000) (hn:n < L.length) (w:Nat) :
  ∃ w':Nat,(∀ m,m≤w→m≤q→m≤w')∧∀ (k:AExit→St→Option (AVal × Heap)),xK T b252 ⟨[(1,.val (.int .i64 n)),(6,.val v6),(8,.val v8),(9,.val (.ptr (some (x9,0))))],⟨P,b,w⟩⟩ (k:=⟨k⟩) =
   k .normal ⟨[(1,.val (.int .i64 n)),(6,.val v6),(8,.val v8),(9,.val (.ptr (some (x9,0))))],⟨P.set q (.cells 1 ((cutL L n).flatMap dj)),b,w'⟩⟩:=by
 obtain ⟨y,hy⟩:∃ y,L[n]? = some y:=⟨_,ah (by omega)⟩;have hyx:=flatS_get hy;have hni:(n:Int) < L.length:=by omega
 by_cases d0:0 < n
 ·have d0':(0:Int) < n:=by omega
  by_cases d1:y=[45]
  ·subst d1;have hcut:cutL L n=L.set (n - 1) [84]:=by unfold cutL; rw [if_pos ⟨d0,hy⟩]
   have hsp:=flatS_set (i:=n - 1) [84] (by omega:n - 1 < L.length);rw [show n - 1+1=n by omega] at hsp;have hfl:(L.flatMap dj).length=L.length:=by rw [lx dj 1 kj,xv]
   have hn1:((n:Int) - 1).toNat=n - 1:=by omega
   have hb1:(n:Int) - 1 < L.length:=by omega
   have hb0:(0:Int)≤(n:Int) - 1:=by omega
   refine ⟨min w q,fun m h1 h2=>by omega,fun k=>?_⟩;rw [hcut];generalize (L.set (n - 1) [84]).flatMap dj=X1 at *;generalize L.flatMap dj=X at *;have d3:n≤L.length:=by omega
   simp (disch:=omega) [b252,h9,hq,hyx,hni,hb0,hb1,hn1,d0,d0',hsp,hfl,d3]
  ·have hcut:cutL L n=L:=by unfold cutL; rw [if_neg fun h=>by rw [hy] at h; exact d1 (dg h.2)]
   refine ⟨w,fun m h1 h2=>h1,fun k=>?_⟩;rw [hcut,xr hq];generalize L.flatMap dj=X at *;simp (disch:=omega) [b252,h9,hq,hyx,hni,d0,d0',d1]
 ·have d0':¬ (0:Int) < n:=by omega
  have hcut:cutL L n=L:=by unfold cutL; rw [if_neg fun h=>d0 h.1]
  refine ⟨w,fun m h1 h2=>h1,fun k=>?_⟩;rw [hcut,xr hq];generalize L.flatMap dj=X at *;simp (disch:=omega) [b252,h9,hq,hyx,hni,d0,d0']
theorem run_c {r6:Nat} {z1 z2:AVal} (hb:b≤q) (hb6:b≤r6) (h9:P[x9]? = some (.cells 2 [.slice (some (q,0)) L.length none,vK])) (hq:P[q]? = some (.cells 1 (L.flatMap dj))) (hW:P[v8n]? = some (.cells 1 (W.flatMap dj))) (h6:P[r6]? = some (.cells 2 [z1,z2])) (hv:vK.isOne=true)
  (hq9:q≠x9) (hq6:q≠r6) (h69:r6≠x9) (hl:L.length≤10000) (hw0:0 < W.length) (hn:n+W.length≤L.length) (w:Nat) :
  ∃ w':Nat,(∀ m,m≤w→m≤q→m≤r6→m≤w')∧∀ (k:AExit→St→Option (AVal × Heap)),xK T c252 ⟨[(1,.val (.int .i64 n)),(6,.val (.ptr (some (r6,0)))),(8,.val (.slice (some (v8n,0)) W.length none)),(9,.val (.ptr (some (x9,0))))],⟨P,b,w⟩⟩ (k:=⟨k⟩) =
   k .ret ⟨[(6,.val (.ptr (some (r6,0)))),(7,.val (.bool true))],⟨(P.set q (.cells 1 ((putAt L n W).flatMap dj))).set r6 (.cells 2 [.slice (some (q,0)) L.length none,vK]),b,w'⟩⟩:=by
 have hni:(n:Int)≤L.length:=by omega
 have hmin:min (L.length - n) W.length=W.length:=by omega
 have hrow:∀ w,il 1 ⟨P,b,w⟩ (.slice (some (v8n,0)) W.length none)=some (W.flatMap dj):=fun w=>pu (h:=⟨P,b,w⟩) hW (by rw [lx dj 1 kj])
 have hXl:(L.flatMap dj).length=L.length:=by rw [lx dj 1 kj,xv]
 have hWl:(W.flatMap dj).length=W.length:=by rw [lx dj 1 kj,xv]
 have hput:=flatS_put (L:=L) (W:=W) (i:=n);have hwz:¬ W.length=0:=by omega
 have hwz2:W≠[]:=fun e=>by rw [e] at hw0; simp at hw0
 have hd:n+W.length≤L.length:=hn;refine ⟨min (min w q) r6,fun m h1 h2 h3=>by omega,fun k=>?_⟩;generalize (putAt L n W).flatMap dj=X2 at *;generalize L.flatMap dj=X at *;generalize W.flatMap dj=Y at *;simp (disch:=omega) [-il,c252,h9,hq,h6,hni,hmin,hrow,hXl,hWl,hput,hwz,hwz2,hd,dl,rowK,alen,hq9,hq6,h69,Ne.symm hq9,Ne.symm hq6,Ne.symm h69]
end
theorem run_abc {r6:Nat} {z1 z2:AVal} (hb:b≤q) (hb6:b≤r6) (h9:P[x9]? = some (.cells 2 [.slice (some (q,0)) L.length none,vK])) (hq:P[q]? = some (.cells 1 (L.flatMap dj))) (hW:P[v8n]? = some (.cells 1 (W.flatMap dj))) (h6:P[r6]? = some (.cells 2 [z1,z2])) (hv:vK.isOne=true)
  (hq9:q≠x9) (hq6:q≠r6) (h69:r6≠x9) (hq8:q≠v8n) (hl:L.length≤10000) (hwl:W.length≤2) (hw0:0 < W.length) (hn:n+W.length≤L.length) (w:Nat) :
  ∃ w':Nat,(∀ m,m≤w→m≤q→m≤r6→m≤w')∧∀ (k:AExit→St→Option (AVal × Heap)),xK T (.seq a252 (.seq b252 c252)) ⟨[(1,.val (.int .i64 n)),(6,.val (.ptr (some (r6,0)))),(8,.val (.slice (some (v8n,0)) W.length none)),(9,.val (.ptr (some (x9,0))))],⟨P,b,w⟩⟩ (k:=⟨k⟩) =
   k .ret ⟨[(6,.val (.ptr (some (r6,0)))),(7,.val (.bool true))],⟨(P.set q (.cells 1 ((putAt (cutL (cutR L (n+W.length)) n) n W).flatMap dj))).set r6 (.cells 2 [.slice (some (q,0)) L.length none,vK]),b,w'⟩⟩:=by
 have hql:=aj hq;obtain ⟨w1,m1,k1⟩:=run_a (n:=n) (v8n:=v8n) (v6:=.ptr (some (r6,0))) hb h9 hq hl hwl hw0 hn w;have e1:=re L (n+W.length);have g9:(P.set q (.cells 1 ((cutR L (n+W.length)).flatMap dj)))[x9]? = some (.cells 2 [.slice (some (q,0)) (cutR L (n+W.length)).length none,vK]):=by rw [ap hq9,e1]; exact h9
 have gq:(P.set q (.cells 1 ((cutR L (n+W.length)).flatMap dj)))[q]? = some (.cells 1 ((cutR L (n+W.length)).flatMap dj)):=List.getElem?_set_self hql;obtain ⟨w2,m2,k2⟩:=run_b (n:=n) (v8:=.slice (some (v8n,0)) W.length none) (v6:=.ptr (some (r6,0))) hb g9 gq (by omega) (by omega) w1;rw [List.set_set] at k2;have e2:=rf (cutR L (n+W.length)) n;have f9:(P.set q (.cells 1 ((cutL (cutR L (n+W.length)) n).flatMap dj)))[x9]? = some (.cells 2 [.slice (some (q,0)) (cutL (cutR L (n+W.length)) n).length none,vK]):=by rw [ap hq9,e2,e1]; exact h9
 have fq:(P.set q (.cells 1 ((cutL (cutR L (n+W.length)) n).flatMap dj)))[q]? = some (.cells 1 ((cutL (cutR L (n+W.length)) n).flatMap dj)):=List.getElem?_set_self hql;have fW:(P.set q (.cells 1 ((cutL (cutR L (n+W.length)) n).flatMap dj)))[v8n]? = some (.cells 1 (W.flatMap dj)):=by rw [ap hq8]; exact hW
 have f6:(P.set q (.cells 1 ((cutL (cutR L (n+W.length)) n).flatMap dj)))[r6]? = some (.cells 2 [z1,z2]):=by rw [ap hq6]; exact h6
 obtain ⟨w3,m3,k3⟩:=run_c (n:=n) hb hb6 f9 fq fW f6 hv hq9 hq6 h69 (by omega) hw0 (by omega) w2;rw [List.set_set,e2,e1] at k3;refine ⟨w3,fun m h1 h2 h3=>m3 m (m2 m (m1 m h1 h2) h2) h2 h3,fun k=>?_⟩;simp [k1,k2,k3]
end
section
attribute [-simp] getElem?_pos getElem?_neg List.all_eq_true
attribute [local simp] gz gs nltT nltF iltT iltF ileT nleT de
set_option maxHeartbeats 4000000 in
theorem s252 {L K:List Str} {a a2:Option (Nat × Nat)} {c c2:Option Nat} (hL:Row O 1 dj L a) (hK:Row O 1 dj K a2) (hu:under O.length a) (hu2:under O.length a2) (hb:b≤O.length) (hn:L.length≤10000) (hk:K.length≤10000) {t:Str} {at':Int} {n0:Nat} (h0:n0≤O.length) (hw:n0≤w) :
  (storeS L at' t=none∧xCall T 252 [.agg [.slice a L.length c,.slice a2 K.length c2],.int .i64 at',.str t] ⟨O,b,w⟩=some (.tuple [.agg [.slice none 0 (some 0),.slice none 0 (some 0)],.bool false],⟨O,b,w⟩)) ∨
  ∃ R,storeS L at' t=some R∧∃ P' a' c' a2' c2',∃ w':Nat,xCall T 252 [.agg [.slice a L.length c,.slice a2 K.length c2],.int .i64 at',.str t] ⟨O,b,w⟩=some (.tuple [.agg [.slice a' R.length c',.slice a2' K.length c2'],.bool true],⟨P',b,w'⟩) ∧
   Pre O P'∧n0≤w'∧RowU O P' R a'∧RowU O P' K a2'∧capOK R.length c'∧capOK K.length c2':=by
 have hwl:=zb9 t;have hwn:=zad t;have hw0:0 < (wide t).length:=List.length_pos_iff.2 hwn;have hle:=ai O.length;have hO1:(O++[AObj.cells 2 [.slice none 0 (some 0),.slice none 0 (some 0)],.cells 1 [.str t]])[O.length+1]? = some (.cells 1 [.str t]):=by rw [du]; rfl
 have h260:=fun w=>fh AbsTyb.sub (s260 (b:=b) (w:=w) (c:=some 1) (row_one hO1) (by simp; omega) (by simp))
 rw [zb8] at h260;have hv1:newV (O++[AObj.cells 2 [.slice none 0 (some 0),.slice none 0 (some 0)],.cells 1 [.str t]]).length (wide t) = .slice (some (O.length+2,0)) (wide t).length none:=by unfold newV; rw [if_neg hwn]; simp
 have ho1:newO 1 dj (O++[AObj.cells 2 [.slice none 0 (some 0),.slice none 0 (some 0)],.cells 1 [.str t]]) (wide t)=O++[.cells 2 [.slice none 0 (some 0),.slice none 0 (some 0)],.cells 1 [.str t],.cells 1 ((wide t).flatMap dj)]:=by unfold newO; rw [if_neg hwn]; simp
 rw [hv1,ho1] at h260;simp only [az,bf,dk] at h260;have hz:=fun P W=>zb7 (O:=O) (b:=b) (w:=w) (P:=P) (W:=W) (x:=false)
 unfold storeS;by_cases q:at' < 0∨(L.length:Int) < at'∨(L.length:Int) - at' < (wide t).length
 ·refine .inl ⟨if_pos q,?_⟩;by_cases c1:at' < 0
  ·simp (disch:=omega) [-dy,au t252,code252,h260,c1,hz,hle]
  ·by_cases c3:(L.length:Int) < at'
   ·simp (disch:=omega) [-dy,au t252,code252,h260,c1,c3,hz,hle]
   ·have c4:(L.length:Int) - at' < (wide t).length:=(q.resolve_left c1).resolve_left c3;simp (disch:=omega) [-dy,au t252,code252,h260,c1,c3,c4,hz,hle]
 ·right;rw [if_neg q];refine ⟨_,rfl,?_⟩;have c1:¬ at' < 0:=fun h=>q (.inl h)
  obtain ⟨n,rfl⟩:=fz (show 0≤at' by omega);have c3:¬ (L.length:Int) < n:=fun h=>q (.inr (.inl h))
  have c4:¬ (L.length:Int) - n < (wide t).length:=fun h=>q (.inr (.inr h))
  clear q;simp only [kb];have hnL:n+(wide t).length≤L.length:=by omega
  have hLp:0 < L.length:=by omega
  have hLne:L≠[]:=fun e=>by rw [e] at hLp; simp at hLp
  obtain ⟨qq,rfl⟩:∃ qq,a=some qq:=by
   cases a with
   | none=>exact absurd (nz hL) hLne
   | some qq=>exact ⟨qq,rfl⟩
  have t252':=t252;rw [code252_eq] at t252';have hpre:=Pre.app O [.cells 2 [.slice none 0 (some 0),.slice none 0 (some 0)],.cells 1 [.str t],.cells 1 ((wide t).flatMap dj)];have h273a:=fun w=>s273 (b:=b) (c:=c) (hpre.row hL) (by omega) w
  have hp3:=zae (O:=O++[.cells 2 [.slice none 0 (some 0),.slice none 0 (some 0)],.cells 1 [.str t],.cells 1 ((wide t).flatMap dj)]) (a:=some qq) (L:=L);have h273b:=fun w=>s273 (b:=b) (c:=c2) ((hpre.trans hp3).row hK) (by omega) w
  have hRl:(putAt (cutL (cutR L (n+(wide t).length)) n) n (wide t)).length=L.length:=by rw [yu (by rw [rf,re]; exact hnL),rf,re]
  have run:=fun vK X (hv:vK.isOne=true) x9 (hx:x9 < O.length+4+X.length) (hX:(O++(.cells 2 [.slice none 0 (some 0),.slice none 0 (some 0)] :: .cells 1 [.str t] :: .cells 1 ((wide t).flatMap dj) :: .cells 1 (L.flatMap dj) :: X))[x9]? = some (.cells 2 [.slice (some (O.length+3,0)) L.length none,vK])) (hx2:O.length+4≤x9) w =>
   run_abc (P:=O++(.cells 2 [.slice none 0 (some 0),.slice none 0 (some 0)] :: .cells 1 [.str t] :: .cells 1 ((wide t).flatMap dj) :: .cells 1 (L.flatMap dj) :: X)) (b:=b) (L:=L) (W:=wide t) (q:=O.length+3) (x9:=x9) (n:=n) (v8n:=O.length+2) (r6:=O.length) (vK:=vK) (z1:=.slice none 0 (some 0)) (z2:=.slice none 0 (some 0)) (by omega) hb hX (by rw [du]; rfl) (by rw [du]; rfl) (by rw [dp]; rfl) hv (by omega) (by omega) (by omega) (by omega) hn hwl hw0 hnL w
  generalize putAt (cutL (cutR L (n+(wide t).length)) n) n (wide t)=R at *;have y1:under (O.length+3) (some qq):=hu.le (by omega);have y2:under (O.length+3) a2:=hu2.le (by omega);have hqq:=y1 qq.1 qq.2 rfl;have zz1:=lowI (l:=L.length) (c:=c) y1;have zz2:=lowI (l:=K.length) (c:=c2) y2;have vv1:=fun mm ds=>ie (n0:=O.length+3) (m:=mm) (ds:=ds) (n:=L.length) (c:=c) y1
  have vv2:=fun mm ds=>ie (n0:=O.length+3) (m:=mm) (ds:=ds) (n:=K.length) (c:=c2) y2
  simp only [cpV,cpO,hLne,if_false,ba,bl,bj,aq,az,bf,dk,bo,Nat.reduceAdd] at h273a h273b;have hcap1:capOK R.length none:=fun k e=>by cases e
  cases a2 with
  | none =>
   have hK0:=nz hK;subst hK0;simp only [bf] at h273b;obtain ⟨w1,m1,r1⟩:=run (.slice none 0 (some 0)) [.cells 2 [.slice (some (O.length+3,0)) L.length none,.slice none 0 (some 0)]] rfl (O.length+4) (by simp) (by rw [du]; rfl) (by omega) O.length;have hw1:=m1 O.length (ai _) (by omega) (ai _);simp only [iw,gv,List.set_cons_zero,List.set_cons_succ] at r1
   obtain ⟨P',a',a2',w',hf,f1,f2,f3,f4⟩:=u0 (O:=O) (b:=b) (w:=w) (P:=O++(.cells 2 [.slice (some (O.length+3,0)) L.length none,.slice none 0 (some 0)] :: .cells 1 [.str t] :: .cells 1 ((wide t).flatMap dj) :: .cells 1 (R.flatMap dj) :: [.cells 2 [.slice (some (O.length+3,0)) L.length none,.slice none 0 (some 0)]])) (L1:=R) (a1:=some (O.length+3,0)) (c1:=none) (L2:=[]) (a2:=none) (c2:=some 0) (W:=w1) (X:=[.bool true]) (fun n=>by simp [AVal.unders,AVal.under]) (by simp [AVal.idsL,AVal.ids]) (fun g=>by simp [AVal.renL,AVal.ren]) (Pre.app _ _) ⟨Row.mk0 kj (by rw [du]; rfl),fun i o e=>by cases e; omega⟩ RowN.nil (fun i o e=>by cases e; simp) (fun i o e=>by cases e) hw1 h0 hw;refine ⟨P',a',none,a2',some 0,w',?_,f1,f2,f3,f4,hcap1,fun k e=>by simp⟩;simp only [bf] at hf;rw [hRl] at hf ⊢;generalize hXL:L.flatMap dj=XL at *;generalize hXW:(wide t).flatMap dj=XW at *
   generalize R.flatMap dj=XR at *;simp (maxSteps:=3000000) (disch:=omega) [-dy,-sget,jl,jm,jn,aw,bo,du,dp,iw,gv,au t252',h260,c1,c3,c4,h273a,h273b,vv1,vv2,zz1,zz2,hqq,r1,hf];all_goals done
  | some q2 =>
   simp only [ba,bl,bj,aq,az,bf,dk,bo,Nat.reduceAdd] at h273b;have hq2:=y2 q2.1 q2.2 rfl;generalize hcK:(if K=[] then some 0 else none:Option Nat)=cK at *
   have hcap2:capOK K.length cK:=fun k e=>by
    rw [← hcK] at e;split at e
    ·rename_i h; rw [h]; exact dt _
    ·cases e
   obtain ⟨w1,m1,r1⟩:=run (.slice (some (O.length+4,0)) K.length cK) [.cells 1 (K.flatMap dj),.cells 2 [.slice (some (O.length+3,0)) L.length none,.slice (some (O.length+4,0)) K.length cK]] rfl (O.length+5) (by simp) (by rw [du]; rfl) (by omega) O.length;have hw1:=m1 O.length (ai _) (by omega) (ai _);simp only [iw,gv,List.set_cons_zero,List.set_cons_succ] at r1
   obtain ⟨P',a',a2',w',hf,f1,f2,f3,f4⟩:=u0 (O:=O) (b:=b) (w:=w) (P:=O++(.cells 2 [.slice (some (O.length+3,0)) L.length none,.slice (some (O.length+4,0)) K.length cK] :: .cells 1 [.str t] :: .cells 1 ((wide t).flatMap dj) :: .cells 1 (R.flatMap dj) :: [.cells 1 (K.flatMap dj),.cells 2 [.slice (some (O.length+3,0)) L.length none,.slice (some (O.length+4,0)) K.length cK]])) (L1:=R) (a1:=some (O.length+3,0)) (c1:=none) (L2:=K) (a2:=some (O.length+4,0)) (c2:=cK) (W:=w1) (X:=[.bool true]) (fun n=>by simp [AVal.unders,AVal.under]) (by simp [AVal.idsL,AVal.ids]) (fun g=>by simp [AVal.renL,AVal.ren]) (Pre.app _ _) ⟨Row.mk0 kj (by rw [du]; rfl),fun i o e=>by cases e; omega⟩ ⟨Row.mk0 kj (by rw [du]; rfl),fun i o e=>by cases e; omega⟩ (fun i o e=>by cases e; simp) (fun i o e=>by cases e; simp) hw1 h0 hw;refine ⟨P',a',none,a2',cK,w',?_,f1,f2,f3,f4,hcap1,hcap2⟩;rw [hRl] at hf ⊢
   generalize hXL:L.flatMap dj=XL at *;generalize hXW:(wide t).flatMap dj=XW at *;generalize hXK:K.flatMap dj=XK at *;generalize R.flatMap dj=XR at *;simp (maxSteps:=3000000) (disch:=omega) [-dy,-sget,jl,jm,jn,aw,bo,du,dp,iw,gv,au t252',h260,c1,c3,c4,h273a,h273b,vv1,vv2,zz1,zz2,hqq,hq2,r1,hf];all_goals done
end
end Go.Abs.AbsTyb

namespace Go.Abs.AbsTyb
open Go.Abs.Zd Go.Abs.Zh
open Go.Abs.Zo hiding T sub
open Go.Abs.Zt hiding T sub subT
variable {os O:List AObj} {b w N:Nat} {S:List (Str × Str)} {F M:List (Key × Mem)} {V:List (Key × Bool)}
def loadS (S:List (Str × Str)) (L:List Str) (i:Int) (t:Str):Option Str:=if i < 0∨(L.length:Int)≤i then none else match L.drop i.toNat with
 | []=>none
 | x :: r=>if meetsS S (x :: r) t then some x else none
def loadV (o:Option Str):AVal:=match o with
 | none=>.tuple [.str [],.bool false]
 | some x=>.tuple [.str x,.bool true]
section
attribute [-simp] getElem?_pos getElem?_neg List.all_eq_true
attribute [local simp] gz gs nltT nltF iltT iltF ileT nleT de
theorem s251 (h:Zh.World O N S F M V) (hb:b≤O.length) (hS:S.length≤9223372036854775807) {L:List Str} {a:Option (Nat × Nat)} {c:Option Nat} {v2:AVal} (hL:Row O 1 dj L a) (hcap:capOK L.length c) (hk:L.length≤1000) (hs:∀ x ∈ L,x.length≤9223372036854775807) {t:Str} (ht:t.length≤9223372036854775807) {i:Int} (w:Nat) :
  xCall T 251 [.ptr (some (N,0)),.agg [.slice a L.length c,v2],.int .i64 i,.str t] ⟨O,b,w⟩=some (loadV (loadS S L i t),⟨O,b,w⟩):=by
 unfold loadS;by_cases c1:i < 0
 ·rw [if_pos (.inl c1)];simp (disch:=omega) [au t251,code251,c1,loadV]
 ·by_cases c2:(L.length:Int)≤i
  ·rw [if_pos (.inr c2)];simp (disch:=omega) [au t251,code251,c1,c2,loadV]
  ·rw [if_neg (by omega)];obtain ⟨n,rfl⟩:=fz (show 0≤i by omega);simp only [kb];obtain ⟨x,hx⟩:∃ x,L[n]? = some x:=⟨_,ah (by omega)⟩;obtain ⟨p,o,cs,rfl,hp,hv⟩:=qd hL hx;have hdr:=jx hx;have h276:=fun w=>s276 (b:=b) (t:=t) (c:=c.map (· - n)) h hb hS (row_drop (n:=n) hL) (by simp; omega) (fun x hx=>hs x (ot hx)) ht w
   rw [gh,hdr] at h276;rw [hdr];simp only;have hcne:¬ c=some n:=fun e=>by have:=hcap _ e; omega
   have hni:(n:Int) < L.length:=by omega
   have hni2:(n:Int)≤L.length:=by omega
   cases e:meetsS S (x :: L.drop (n+1)) t with
   | false =>
    rw [e] at h276;simp only [am,if_false];simp (disch:=omega) [au t251,code251,c1,c2,hp,hv,hcne,hni,hni2,h276,loadV]
   | true =>
    rw [e] at h276;simp only [if_true];simp (disch:=omega) [au t251,code251,c1,c2,hp,hv,hcne,hni,hni2,h276,loadV]
end
def seven:List Str:=[[73],[74],[78],[76,65,59],[91,73],[76,66,59],[91,76,66,59]]
theorem wc {t:Str} (h:t ∈ seven):t≠[84]∧t≠[45]∧t≠[65]∧t≠[49]∧t.length≤4∧(t≠[74]→zcb Zm.SM t t=true):=by unfold seven at h;simp only [br,d7,or_false] at h;rcases h with rfl | rfl | rfl | rfl | rfl | rfl | rfl <;> refine ⟨by decide,by decide,by decide,by decide,by decide,fun h=>?_⟩ <;> first | exact absurd rfl h | decide +kernel
theorem zb5 {t:Str} (h:t ∈ seven) (R:List Str):meetsS Zm.SM (wide t++R) t=true:=by
 obtain ⟨h1,h2,h3,h4,_,h5⟩:=wc h;by_cases c:t=[74]
 ·subst c; rfl
 ·have hw:wide t=[t]:=by unfold wide; rw [if_neg c]
  rw [hw];unfold meetsS;simp only [bl,bj];rw [if_neg h3,if_neg h4,if_neg c,h5 c];simp [h1,h2]
theorem wide_J (t:Str):(wide t).length=if t=[74] then 2 else 1:=by unfold wide; split <;> rfl
theorem wide_head (t:Str):∃ r,wide t=t :: r:=by unfold wide; split <;> exact ⟨_,rfl⟩
theorem pop_push {t:Str} (h:t ∈ seven) (K:List Str):popS Zm.SM (K++wide t) t=some (K,t):=by unfold popS;have hl:=wide_J t;have e1:(K++wide t).length=K.length+(wide t).length:=aq;rw [← hl,e1,if_pos (by omega),Nat.add_sub_cancel];unfold popAt;rw [List.drop_left];obtain ⟨r,hr⟩:=wide_head t;have hm:=zb5 h [];rw [co] at hm;rw [List.take_left];rw [hr] at hm ⊢;simp only [hm,if_true]
theorem load_store {t:Str} (h:t ∈ seven) {L R:List Str} {i:Int} (hs:storeS L i t=some R):loadS Zm.SM R i t=some t:=by
 unfold storeS at hs;split at hs
 ·cases hs
 ·rename_i q;injection hs with hs;obtain ⟨n,rfl⟩:=fz (show 0≤i by omega);simp only [kb] at hs;have hwp:0 < (wide t).length:=List.length_pos_iff.2 (zad t);have hln:(cutL (cutR L (n+(wide t).length)) n).length=L.length:=by rw [rf,re]
  have hRl:R.length=L.length:=by rw [← hs,yu (by omega),hln]
  have hd:R.drop n=wide t++(cutL (cutR L (n+(wide t).length)) n).drop (n+(wide t).length):=by
   rw [← hs];unfold putAt;have:((cutL (cutR L (n+(wide t).length)) n).take n).length=n:=by rw [mt,hln]; omega
   exact List.drop_left' this
  unfold loadS;rw [if_neg (by omega)];simp only [kb];have hm:=zb5 h ((cutL (cutR L (n+(wide t).length)) n).drop (n+(wide t).length));rw [← hd] at hm;obtain ⟨r,hr⟩:=wide_head t;rw [hr,bl] at hd;rw [hd] at hm ⊢;simp only [hm,if_true]
section
open Go.Abs.Short
def p51:ACode:=(.seq (R [0,2,3,5,51] [v 23 0,o 24 (.len .sl (t 23)),o 25 (.bin .gtr (t 24) (n 100)),v 26 25,g 27 26 false (.load (some 2) (t 5)),g 28 26 false (.callg 242 [t 27]),g 29 26 false (.un .not (t 28)),o 30 (.pick (t 26) Y (t 29)),v 31 30,g 32 31 false (.val (t 3)),g 33 31 false (.callg 158 [t 32]),g 34 31 false (.un .not (t 33)),g 35 31 false (.val (t 34)),g 36 35 true (.val (t 3)),g 37 35 true (.bin .neq (t 36) (.const (.str [76,65,59]))),g 38 31 false (.pick (t 35) (t 37) Short.F),g 39 31 false (.val (t 38)),g 40 39 true (.val (t 3)),g 41 39 true (.bin .neq (t 40) (.const (.str [91,73]))),g 42 31 false (.pick (t 39) (t 41) Short.F),g 43 31 false (.val (t 42)),g 44 43 true (.val (t 3)),g 45 43 true (.bin .neq (t 44) (.const (.str [76,66,59]))),g 46 31 false (.pick (t 43) (t 45) Short.F),g 47 31 false (.val (t 46)),g 48 47 true (.val (t 3)),g 49 47 true (.bin .neq (t 48) (.const (.str [91,76,66,59]))),g 50 31 false (.pick (t 47) (t 49) Short.F),o 51 (.pick (t 31) Y (t 50))])
 (.after (.cond (t 51) (.seq (R [8] [o 8 (.val Y)])
 (.live [8] (.ret))) (.skip)) [0,2,3,5]))
def p83:ACode:=(.seq (R [2,3,5,9,11,83] [v 58 3,o 59 (.bin .neq (t 58) (.const (.str [73]))),v 60 59,g 61 60 true (.val (t 3)),g 62 60 true (.bin .neq (t 61) (.const (.str [74]))),o 63 (.pick (t 60) (t 62) Short.F),v 64 63,g 65 64 true (.val (t 3)),g 66 64 true (.bin .neq (t 65) (.const (.str [78]))),o 67 (.pick (t 64) (t 66) Short.F),v 68 67,g 69 68 true (.val (t 3)),g 70 68 true (.bin .neq (t 69) (.const (.str [76,65,59]))),o 71 (.pick (t 68) (t 70) Short.F),v 72 71,g 73 72 true (.val (t 3)),g 74 72 true (.bin .neq (t 73) (.const (.str [91,73]))),o 75 (.pick (t 72) (t 74) Short.F),v 76 75,g 77 76 true (.val (t 3)),g 78 76 true (.bin .neq (t 77) (.const (.str [76,66,59]))),o 79 (.pick (t 76) (t 78) Short.F),v 80 79,g 81 80 true (.val (t 3)),g 82 80 true (.bin .neq (t 81) (.const (.str [91,76,66,59]))),o 83 (.pick (t 80) (t 82) Short.F)])
 (.after (.cond (t 83) (.seq (R [8] [o 8 (.val Y)])
 (.live [8] (.ret))) (.skip)) [2,3,5,9,11]))
def q255:ACode:=(.seq (R [2,3,5,9,11,12,13] [o 85 (.load (some 2) (t 5)),v 86 3,o 87 (.callg 254 [t 85,t 86,n 1000]),v 84 87,o 88 (.extract (t 84) 0),o 89 (.extract (t 84) 1),o 12 (.lalloc [.slice none 0 (some 0),.slice none 0 (some 0)]),u (.store 2 (t 12) (t 88)),v 13 89])
 (.seq (R [2,3,5,9,11,13,14,15,16] [v 91 9,o 92 (.load (some 2) (t 12)),v 93 3,o 94 (.callg 253 [t 91,t 92,t 93]),v 90 94,o 95 (.extract (t 90) 0),o 96 (.extract (t 90) 1),o 97 (.extract (t 90) 2),o 14 (.lalloc [.slice none 0 (some 0),.slice none 0 (some 0)]),u (.store 2 (t 14) (t 95)),v 15 96,v 16 97])
 (.seq (.seq (R [2,3,5,9,118] [v 98 11,o 99 (.un .not (t 98)),v 100 99,g 101 100 false (.val (t 13)),g 102 100 false (.un .not (t 101)),o 103 (.pick (t 100) Y (t 102)),v 104 103,g 105 104 false (.val (t 16)),g 106 104 false (.un .not (t 105)),o 107 (.pick (t 104) Y (t 106)),v 108 107,g 109 108 false (.val (t 15)),g 110 108 false (.val (t 3)),g 111 108 false (.bin .neq (t 109) (t 110)),o 112 (.pick (t 108) Y (t 111)),v 113 112,g 114 113 false (.load (some 2) (t 14)),g 115 113 false (.load (some 2) (t 5)),g 116 113 false (.callg 235 [t 114,t 115]),g 117 113 false (.un .not (t 116)),o 118 (.pick (t 113) Y (t 117))])
 (.after (.cond (t 118) (.seq (R [8] [o 8 (.val Short.F)])
 (.live [8] (.ret))) (.skip)) [2,3,5,9]))
 (.seq (R [2,3,9,17,18] [o 120 (.load (some 2) (t 5)),v 121 2,v 122 3,o 123 (.callg 252 [t 120,t 121,t 122]),v 119 123,o 124 (.extract (t 119) 0),o 125 (.extract (t 119) 1),o 17 (.lalloc [.slice none 0 (some 0),.slice none 0 (some 0)]),u (.store 2 (t 17) (t 124)),v 18 125])
 (.seq (R [3,18,19,20] [v 127 9,o 128 (.load (some 2) (t 17)),v 129 2,v 130 3,o 131 (.callg 251 [t 127,t 128,t 129,t 130]),v 126 131,o 132 (.extract (t 126) 0),o 133 (.extract (t 126) 1),v 19 132,v 20 133])
 (.seq (R [8] [v 134 18,o 135 (.un .not (t 134)),v 136 135,g 137 136 false (.val (t 20)),g 138 136 false (.val (t 137)),g 139 138 true (.val (t 19)),g 140 138 true (.val (t 3)),g 141 138 true (.bin .eql (t 139) (t 140)),g 142 136 false (.pick (t 138) (t 141) Short.F),o 143 (.pick (t 136) Y (t 142)),v 8 143])
 (.live [8] (.ret))))))))
theorem code255_eq:code255=⟨false,false,4,144,[.tmp 8],
 .seq (R [0,2,3,5] [o 5 (.lbox (t 1)),o 8 (.val Short.F)])
 (.seq (.seq (R [0,2,3,5,22] [o 21 (.callg 243 []),o 22 (.un .not (t 21))])
 (.after (.cond (t 22) (.seq (R [8] [o 8 (.val Short.F)])
 (.live [8] (.ret))) (.skip)) [0,2,3,5]))
 (.seq p51
 (.seq (R [2,3,5,9,11] [v 53 0,o 54 (.callg 240 [t 53]),v 52 54,o 55 (.extract (t 52) 0),o 56 (.extract (t 52) 1),o 57 (.extract (t 52) 2),v 9 55,v 10 56,v 11 57])
 (.seq p83 q255)))),none⟩:=rfl
end
def zfr51 (ln:Nat) (a:Option (Nat × Nat)) (c:Option Nat) (i:Int) (t:Str) (f:FrU):Slots:=[(0,.val (.slice a ln c)),(2,.val (.int .i64 i)),(3,.val (.str t)),(5,.var f.cells)]
section
attribute [-simp] getElem?_pos getElem?_neg List.all_eq_true sget
attribute [local simp] gz gs nltT nltF iltT iltF ileT nleT de jl jm jn
theorem p51_run {ln:Nat} {a:Option (Nat × Nat)} {c:Option Nat} {f:FrU} {i:Int} {t:Str} (hf:f.ok O) (hfl:f.low O.length) (hb:b≤O.length) (c1:¬ (100:Int) < ln) (hq:fewF f=true) (ht:t ∈ seven) (w:Nat) (k:AExit→St→Option (AVal × Heap)) :
  xK T p51 ⟨zfr51 ln a c i t f,⟨O,b,w⟩⟩ (k:=⟨k⟩)=k .normal ⟨zfr51 ln a c i t f,⟨O,b,w⟩⟩:=by
 have hfc:f.cells=[.slice f.la f.locals.length f.lc,.slice f.sa f.stack.length f.sc]:=rfl;have h242:=fun w=>fh AbsTyb.sub (s242 hf hfl hb w)
 have h158:=fun w=>fh subT (Zh.s158 (O:=O) (b:=b) (w:=w) (s:=t) (by have:=(wc ht).2.2.2.2.1; omega))
 rw [hq,hfc] at h242;unfold zfr51;rw [hfc];unfold seven at ht;simp only [br,d7,or_false] at ht;have i1:isName [73]=true∧isName [74]=true∧isName [78]=true∧isName [76,65,59]=false∧isName [91,73]=false∧isName [76,66,59]=false∧isName [91,76,66,59]=false:=by decide +kernel
 rcases ht with rfl | rfl | rfl | rfl | rfl | rfl | rfl <;> (simp only [i1] at h158; simp (disch:=omega) [p51,c1,h242,h158])
theorem p51_other {ln:Nat} {a:Option (Nat × Nat)} {c:Option Nat} {f:FrU} {i:Int} {t:Str} (hf:f.ok O) (hfl:f.low O.length) (hb:b≤O.length) (htl:t.length≤9223372036854775807) (w:Nat) :
  (∀ (k:AExit→St→Option (AVal × Heap)),xK T p51 ⟨zfr51 ln a c i t f,⟨O,b,w⟩⟩ (k:=⟨k⟩)=k .ret ⟨[(8,.val (.bool true))],⟨O,b,w⟩⟩) ∨
  (¬ (100:Int) < ln∧fewF f=true∧∀ (k:AExit→St→Option (AVal × Heap)),xK T p51 ⟨zfr51 ln a c i t f,⟨O,b,w⟩⟩ (k:=⟨k⟩)=k .normal ⟨zfr51 ln a c i t f,⟨O,b,w⟩⟩):=by
 have hfc:f.cells=[.slice f.la f.locals.length f.lc,.slice f.sa f.stack.length f.sc]:=rfl;have h242:=fun w=>fh AbsTyb.sub (s242 hf hfl hb w)
 by_cases c1:(100:Int) < ln
 ·left; intro k; unfold zfr51; rw [hfc]; simp (disch:=omega) [p51,c1]
 ·cases hq:fewF f with
  | false=>left; intro k; rw [hq,hfc] at h242; unfold zfr51; rw [hfc]; simp (disch:=omega) [p51,c1,h242]
  | true =>
   by_cases ht:t ∈ seven
   ·exact .inr ⟨c1,rfl,p51_run hf hfl hb c1 hq ht w⟩
   ·have h158:=fun w=>fh subT (Zh.s158 (O:=O) (b:=b) (w:=w) (s:=t) htl)
    rw [hq,hfc] at h242;unfold zfr51;rw [hfc];unfold seven at ht;simp only [br,d7,or_false,not_or] at ht;obtain ⟨t1,t2,t3,t4,t5,t6,t7⟩:=ht;cases e:isName t with
    | true=>right; refine ⟨c1,rfl,fun k=>?_⟩; rw [e] at h158; simp (disch:=omega) [p51,c1,h242,h158]
    | false=>left; intro k; rw [e] at h158; simp (disch:=omega) [p51,c1,h242,h158,t4,t5,t6,t7]
end
end Go.Abs.AbsTyb

namespace Go.Abs.Zt
open Go.Abs.Zd Go.Abs.Zh
open Go.Abs.Zo hiding T sub
variable {os O:List AObj} {b w:Nat}
theorem FrU.ok.pre {P:List AObj} {f:FrU} (h:f.ok O) (hp:Pre O P):f.ok P:=⟨⟨hp.row h.l.r,h.l.n,h.l.s⟩,⟨hp.row h.s.r,h.s.n,h.s.s⟩⟩
theorem fewF_len {f:FrU} (q:fewF f=true):f.locals.length≤100∧f.stack.length≤100∧∀ t ∈ f.locals++f.stack,t.length≤150:=by unfold fewF at q;simp only [av,decide_eq_true_eq,al] at q;exact ⟨q.1.1,q.1.2,q.2⟩
end Go.Abs.Zt

namespace Go.Abs.AbsTyb
open Go.Abs.Zd Go.Abs.Zh
open Go.Abs.Zo hiding T sub
open Go.Abs.Zt hiding T sub subT
variable {os O:List AObj} {b w N:Nat} {S:List (Str × Str)} {F M:List (Key × Mem)} {V:List (Key × Bool)}
section
attribute [-simp] getElem?_pos getElem?_neg List.all_eq_true sget
attribute [local simp] gz gs nltT nltF iltT iltF ileT nleT de jl jm jn
theorem p83_run {t:Str} {v2 v9 v11:AVal} {x5:List AVal} {h:Heap} (k:AExit→St→Option (AVal × Heap)):xK T p83 ⟨[(2,.val v2),(3,.val (.str t)),(5,.var x5),(9,.val v9),(11,.val v11)],h⟩ (k:=⟨k⟩)=if t ∈ seven then k .normal ⟨[(2,.val v2),(3,.val (.str t)),(5,.var x5),(9,.val v9),(11,.val v11)],h⟩ else k .ret ⟨[(8,.val (.bool true))],h⟩:=by
 obtain ⟨os,b,w⟩:=h;by_cases ht:t ∈ seven
 ·rw [if_pos ht];unfold seven at ht;simp only [br,d7,or_false] at ht;rcases ht with rfl | rfl | rfl | rfl | rfl | rfl | rfl <;> simp (disch:=omega) [p83]
 ·rw [if_neg ht];unfold seven at ht;simp only [br,d7,or_false,not_or] at ht;simp (disch:=omega) [p83,ht]
end
theorem mem_cutR {L:List Str} {e:Nat} {x:Str} (h:x ∈ cutR L e):x ∈ L∨x=[84]:=by
 unfold cutR at h;split at h
 ·exact List.mem_or_eq_of_mem_set h
 ·exact .inl h
theorem mem_cutL {L:List Str} {e:Nat} {x:Str} (h:x ∈ cutL L e):x ∈ L∨x=[84]:=by
 unfold cutL at h;split at h
 ·exact List.mem_or_eq_of_mem_set h
 ·exact .inl h
theorem mem_wide {t x:Str} (h:x ∈ wide t):x=t∨x=[45]:=by
 unfold wide at h;split at h <;> simp at h
 ·rcases h with h | h
  ·exact .inl h
  ·exact .inr h
 ·exact .inl h
section
attribute [-simp] getElem?_pos getElem?_neg List.all_eq_true
attribute [local simp] gz gs nltT nltF iltT iltF ileT nleT de
set_option maxHeartbeats 4000000 in
theorem s255 {tb:List UInt8} {a:Option (Nat × Nat)} {c:Option Nat} {f:FrU} {i:Int} {t:Str} (hR:Row O 1 n8 tb a) (hu:under O.length a) (hn:tb.length≤gt) (hb:b≤O.length) (hf:f.ok O) (hfl:f.low O.length) (ht:t.length≤9223372036854775807) :
  xCall T 255 [.slice a tb.length c,.agg f.cells,.int .i64 i,.str t] ⟨O,b,w⟩=some (.bool true,⟨O,b,w⟩):=by
 have hrb:gt=140737488351232:=rfl;have hfc:f.cells=[.slice f.la f.locals.length f.lc,.slice f.sa f.stack.length f.sc]:=rfl;have h243:=fun h=>fh AbsTyb.sub (s243 (h:=h))
 have t255':=t255;rw [code255_eq] at t255';rcases p51_other (ln:=tb.length) (a:=a) (c:=c) (i:=i) hf hfl hb ht O.length with hp | ⟨c1,hq,hp⟩ <;> unfold zfr51 at hp
 ·rw [hfc] at hp;simp (disch:=omega) [au t255',h243,hfc,hp]
 ·obtain ⟨N,w',P,W,ra,F,M,hN,hP,hw',hW,_,_,e240⟩:=s240 (c:=c) hR hu (by omega) hb O.length;have e240:=fh AbsTyb.sub e240;have hw':=hw' (ai _);have hPl:=hP.len;have hbP:b≤P.length:=by omega
  obtain ⟨fl1,fl2,fs⟩:=fewF_len hq;have g1:=p83_run (t:=t) (v2:=.int .i64 i) (v9:=.ptr (some (N,0))) (v11:=.bool true) (x5:=f.cells) (h:=⟨P,b,w'⟩);by_cases h7:t ∈ seven
  ·simp only [if_pos h7] at g1;obtain ⟨d1,d2,d3,d4,d5,d6⟩:=wc h7;have hS:Zm.SM.length≤9223372036854775807:=by decide
   have hwl:=zb9 t;have hwp:0 < (wide t).length:=List.length_pos_iff.2 (zad t);rcases s254 (b:=b) (w:=w') (c:=f.lc) (c2:=f.sc) (t:=t) (most:=1000) (n0:=O.length) (hP.row hf.l.r) (hP.row hf.s.r) (under.le hfl.l hPl) (under.le hfl.s hPl) hbP (by omega) (by omega) hPl hw' with ⟨hno,_⟩ | ⟨R,hR1,P1,a1,c1',a2,c2',w1,e254,p1,w1',r1,r2,k1,k2⟩
   ·exfalso;unfold pushS at hno;rw [if_neg (by rintro (h | h | h) <;> first | exact d1 h | exact d2 h | omega)] at hno;cases hno
   ·have hRe:R=f.stack++wide t:=by unfold pushS at hR1;rw [if_neg (by rintro (h | h | h) <;> first | exact d1 h | exact d2 h | omega)] at hR1;exact (dg hR1).symm
    have hp1l:=p1.len;have hRl:R.length≤102:=by rw [hRe,aq]; omega
    have hRs:∀ x ∈ R,x.length≤9223372036854775807:=fun x hx=>by
     rw [hRe] at hx;rcases bp.1 hx with hx | hx
     ·have:=fs x (gx _ hx); omega
     ·rcases mem_wide hx with rfl | rfl
      ·omega
      ·decide
    have hW1:=Zt.World.pre hW p1;have hpop:=s253 (b:=b) (w:=w1) (c:=c1') (c2:=c2') (t:=t) (n0:=O.length) hW1 (by omega) hS r1.r r2.r r1.u r2.u (fun k e=>by rw [k2] at e; cases e) (by omega) (by omega) hRs (fun e=>by rw [e] at h7; revert h7; decide) ht (by omega) w1';rw [hRe,pop_push h7 f.stack,← hRe] at hpop;obtain ⟨P2,a3,c3,a4,c4,w2,e253,p2,w2',r3,r4,k3,k4⟩:=hpop;have hp2l:=p2.len;have hp02:=hP.trans (p1.trans p2);have h235:=fun w=>fh AbsTyb.sub (s235 (b:=b) (w:=w) (c:=c3) (c':=f.lc) (d:=c4) (d':=f.sc) r3.r (hp02.row hf.l.r) r4.r (hp02.row hf.s.r) (by omega) (by omega))
    have hfl2:under P2.length f.la:=under.le hfl.l (by omega);have hfs2:under P2.length f.sa:=under.le hfl.s (by omega);rw [hfc] at hp g1;rcases s252 (b:=b) (w:=w2) (c:=f.lc) (c2:=f.sc) (t:=t) (at':=i) (n0:=O.length) (hp02.row hf.l.r) (hp02.row hf.s.r) hfl2 hfs2 (by omega) (by omega) (by omega) (by omega) w2' with ⟨_,e252⟩ | ⟨R2,hR2,P3,a5,c5,a6,c6,w3,e252,p3,w3',r5,r6,k5,k6⟩
    ·have h251:=fun w=>s251 (b:=b) (t:=t) (i:=i) (c:=some 0) (v2:=.slice none 0 (some 0)) (Zt.World.pre hW1 p2) (by omega) hS (L:=[]) (a:=none) ⟨fun h=>absurd rfl h⟩ (fun k e=>by simp) (by simp) (fun x hx=>by cases hx) ht w
     simp only [bf] at h251;have hq:¬ w2 < O.length:=by omega
     cases e:loadS Zm.SM [] i t with
     | none =>
      rw [e] at h251;simp only [loadV] at h251;simp (maxSteps:=3000000) (disch:=omega) [-sget,jl,jm,jn,au t255',h243,hfc,hp,e240,g1,q255,e254,e253,h235,e252,h251,hq]
     | some x =>
      rw [e] at h251;simp only [loadV] at h251;simp (maxSteps:=3000000) (disch:=omega) [-sget,jl,jm,jn,au t255',h243,hfc,hp,e240,g1,q255,e254,e253,h235,e252,h251,hq]
    ·have hR2l:R2.length≤1000:=by
      unfold storeS at hR2;split at hR2
      ·cases hR2
      ·rename_i q;injection hR2 with hR2;rw [← hR2,yu (by rw [rf,re]; omega),rf,re]; omega
     have hR2s:∀ x ∈ R2,x.length≤9223372036854775807:=by
      unfold storeS at hR2;split at hR2
      ·cases hR2
      ·injection hR2 with hR2;intro x hx;rw [← hR2] at hx;unfold putAt at hx
       have hm:∀ x,x ∈ cutL (cutR f.locals (i.toNat+(wide t).length)) i.toNat→x.length≤9223372036854775807:=fun x hx=>by
        rcases mem_cutL hx with hx | rfl
        ·rcases mem_cutR hx with hx | rfl
         ·have:=fs x (fw _ hx); omega
         ·decide
        ·decide
       rcases bp.1 hx with hx | hx
       ·exact hm x (List.mem_of_mem_take hx)
       ·rcases bp.1 hx with hx | hx
        ·rcases mem_wide hx with rfl | rfl
         ·omega
         ·decide
        ·exact hm x (ot hx)
     have h251:=fun w=>s251 (b:=b) (t:=t) (i:=i) (c:=c5) (v2:=.slice a6 f.stack.length c6) (Zt.World.pre (Zt.World.pre hW1 p2) p3) (by have:=p3.len; omega) hS r5.r k5 hR2l hR2s ht w
     rw [load_store h7 hR2] at h251;simp only [loadV] at h251;have hq:¬ w3 < O.length:=by omega
     simp (maxSteps:=3000000) (disch:=omega) [-sget,jl,jm,jn,au t255',h243,hfc,hp,e240,g1,q255,e254,e253,h235,e252,h251,hq]
  ·simp only [if_neg h7] at g1;have hq:¬ w' < O.length:=by omega
   rw [hfc] at hp g1;simp (disch:=omega) [au t255',h243,hfc,hp,e240,g1,hq]
end
end Go.Abs.AbsTyb

namespace Go.Abs
def AOper.isLoc (o:AOper):Bool:=match o.op with
 | .lalloc _ | .lbox _ | .ext (.hstore _) _=>true
 | _=>false
def locsOf:Nat→List AOper→List Nat
 | _,[]=>[]
 | i,o :: r=>if o.isLoc then i :: locsOf (i+1) r else locsOf (i+1) r
def ACode.hint:ACode→Hint
 | .skip | .exit _ | .ret | .next _ _=>.leaf
 | .region gs=>.reg (gs.map fun g=>(g.quiet,g.ops.length)) (locsOf 0 (gs.flatMap Seg.ops))
 | .seq (.next _ _) _=>.next
 | .seq a b=>.seq a.hint b.hint
 | .cond (.const (.str [])) .skip .skip=>.stuck
 | .cond _ a b=>.cond a.hint b.hint
 | .block _ c=>.block c.hint
 | .loop c=>.loop c.hint
 | .live l c=>.live l c.hint
 | .after c l=>.after c.hint l
 | .rangeFunc _ g caps _ a b=>.rangeFunc g caps a.hint b.hint
theorem ow {E:Env} {T:Nat→Option AFunc} {f g:Nat} {fn:Func} {c:AFunc} {b:Bool} {hint:Hint} (h3:td E b hint fn=some c) (h1:E.P.funcs[f]? = some fn) (h2:T g=some c) (h4:RndOK E c.body.rounds):FnOK E T f g:=.inr (.inl ⟨_,_,_,_,h1,h2,h3,h4⟩)
end Go.Abs
