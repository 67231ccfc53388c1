/-
  Texts joined.
-/
import Derived.Test.YtnpknimahijmfaaGreatDoorR0
import Derived.Test.YtnpknimahijmfaaGreatDoorR12
import Derived.Test.YtnpknimahijmfaaGreatDoorR5
set_option linter.unusedVariables false
set_option linter.unusedSimpArgs false
set_option maxRecDepth 100000
namespace Go.Abs.Zt
open Go.Abs.Zd Go.Abs.Zh
open Go.Abs.Zo hiding T sub
variable {os O:List AObj} {b w:Nat} {N:Nat} {S:List (Str × Str)} {F M:List (Key × Mem)} {V:List (Key × Bool)}
theorem World.pre {P:List AObj} (h:Zh.World O N S F M V) (hp:Pre O P):Zh.World P N S F M V :=
 ⟨hp _ _ h.w0,hp _ _ h.m1,hp _ _ h.m2,hp _ _ h.m3,hp _ _ h.m4⟩
def oddT (S:List (Str × Str)) (t:Str):Bool:=!decide (t=[84]) && !decide (t=[73]) && !decide (t=[74]) && !decide (t=[78]) && !(isTy t && ve S t t)
section
attribute [-simp] getElem?_pos getElem?_neg List.all_eq_true
attribute [local simp] gz gs nltT nltF iltT iltF ileT nleT dg
theorem s265 {k:Nat} (h:Zh.World O N S F M V) (hb:b≤O.length) (hS:S.length≤9223372036854775807) (hk:O[k]? = some (.cells 1 [.ptr (some (N,0))])) (t:Str) (ht:t.length≤9223372036854775807) (w:Nat) :
  xCall T 265 [.str t,.ptr (some (k,0))] ⟨O,b,w⟩=some (.bool (oddT S t),⟨O,b,w⟩):=by
 have h47:=fun w=>fj subT (s47 (b:=b) h hb hS t t w ht ht)
 have h27:=fun w=>fj subT (Zh.s27 (os:=O) (b:=b) (w:=w) (s:=t) ht hb)
 unfold oddT;by_cases c1:t=[84]
 ·subst c1; simp (disch:=omega) [av t265,code265]
 ·by_cases c2:t=[73]
  ·subst c2; simp (disch:=omega) [av t265,code265]
  ·by_cases c3:t=[74]
   ·subst c3; simp (disch:=omega) [av t265,code265]
   ·by_cases c4:t=[78]
    ·subst c4; simp (disch:=omega) [av t265,code265]
    ·generalize ve S t t=g at *;generalize isTy t=y at *;cases y with
     | false=>simp (disch:=omega) [av t265,code265,c1,c2,c3,c4,h27]
     | true=>simp (disch:=omega) [av t265,code265,c1,c2,c3,c4,h27,h47,hk]
theorem s266 {W:List UnitU} {ra:Option (Nat × Nat)} {rc:Option Nat} (hU:Units O W ra) (hW:W.map supE=Zm.SM) (hb:b≤O.length) (t:Str) (ht:t.length≤9223372036854775807) (w:Nat) :
  xCall T 266 [.slice ra W.length rc,.str t] ⟨O,b,w⟩=some (.bool (!oddT Zm.SM t),⟨O,b,w⟩):=by
 have h268:=fun w=>s268 (b:=b) (rc:=rc) hU hW hb t t w ht ht
 have h28:=fun w=>fj subT (Zh.s28 (os:=O) (b:=b) (w:=w) (s:=t) ht)
 unfold oddT;generalize ve Zm.SM t t=g at *;by_cases c1:t=[84]
 ·subst c1; simp (disch:=omega) [av t266,code266]
 ·by_cases c2:t=[73]
  ·subst c2; simp (disch:=omega) [av t266,code266]
  ·by_cases c3:t=[74]
   ·subst c3; simp (disch:=omega) [av t266,code266]
   ·by_cases c4:t=[78]
    ·subst c4; simp (disch:=omega) [av t266,code266]
    ·generalize isTy t=y at *;cases y with
     | false=>simp (disch:=omega) [av t266,code266,c1,c2,c3,c4,h28]
     | true=>simp (disch:=omega) [av t266,code266,c1,c2,c3,c4,h28,h268]
end
theorem t91:T 91=some code91:=subT 91 _ (Zh.sub 91 _ Zd.t91)
theorem t142:T 142=some code142:=subT 142 _ (Zh.sub 142 _ Zd.t142)
theorem s142c {L:List Str} {a:Option (Nat × Nat)} {c:Option Nat} {g:Nat} {v:AVal} {p:Str→Bool} (hR:Row O 1 dt L a) (hn:L.length≤9223372036854775807)
  (hg:∀ x ∈ L,∀ (w:Nat),xCall T g [.str x,v] ⟨O,b,w⟩=some (.bool (p x),⟨O,b,w⟩)) :
  xCall T 142 [.slice a L.length c,.func g [] [v]] ⟨O,b,w⟩=some (.int .i64 (firstIx p L 0),⟨O,b,w⟩):=by
 have hl:=uu (T:=T) (c:=code142L0) p L (fun i=>⟨[(0,.val (.slice a L.length c)),(1,.val (.func g [] [v])),(7,.val (.int .i64 L.length)),(8,.val (.int .i64 i))],⟨O,b,O.length⟩⟩)
  (fun i=>⟨[(4,.val (.int .i64 i))],⟨O,b,O.length⟩⟩) .ret (.exit 0) ⟨[],⟨O,b,O.length⟩⟩ ?_ (by simp) (by simp) (by simp [code142L0])
 ·rcases hl with ⟨h1,h2⟩ | ⟨j,x,h1,h2,h3,h4⟩
  ·rw [zn] at h1;rw [pm p L 0 fun x hx=>by simpa using h1 x hx];simp only [bh] at h2;simp [du T t142,code142,h2]
  ·rw [s7 p L 0 j x h1 h2 h3];simp only [bh] at h4;simp [du T t142,code142,h4]
 ·intro i x hx;obtain ⟨bb,o,cs,rfl,hrow,hpart⟩:=hR.at' (rg hx);obtain ⟨p1,p2⟩:=hpart i x hx;have hw:=pq (vt hx) hn;have hi':(i:Int) < (L.length:Int):=by have:=vt hx; omega
  have hge:(0:Int)≤i:=by omega
  have q3:(List.take 1 (List.drop (o+i*1) cs))[0]? = some (.str x):=by rw [p2]; rfl
  have q4:cs[o+i]? = some (.str x):=by simpa using q3
  have hgx:=hg x (bq hx);by_cases hp:p x=true
  ·simp [code142L0,hi',hge,hrow,q4,hgx,hp]
  ·simp [code142L0,hi',hge,hrow,q4,hgx,hp,hw]
theorem s91c {L:List Str} {a:Option (Nat × Nat)} {c:Option Nat} {g:Nat} {v:AVal} {p:Str→Bool} (hR:Row O 1 dt L a) (hn:L.length≤9223372036854775807)
  (hg:∀ x ∈ L,∀ (w:Nat),xCall T g [.str x,v] ⟨O,b,w⟩=some (.bool (p x),⟨O,b,w⟩)) :
  xCall T 91 [.slice a L.length c,.func g [] [v]] ⟨O,b,w⟩=some (.bool (L.any p),⟨O,b,w⟩):=by
 have h:=s142c (w:=O.length) (c:=c) hR hn hg;have h2:=s6 p L 0;simp [du T t91,code91,h,h2]
section
attribute [-simp] getElem?_pos getElem?_neg List.all_eq_true
attribute [local simp] gz gs nltT nltF iltT iltF ileT nleT dg
theorem l236 {W:List UnitU} {ra:Option (Nat × Nat)} {rc:Option Nat} {L:List Str} {a:Option (Nat × Nat)} {c:Option Nat} {x4 x5 x6:List AVal} (hU:Units O W ra) (hW:W.map supE=Zm.SM) (hb:b≤O.length) (hL:Row O 1 dt L a) (hn:L.length≤1000) (hs:∀ t ∈ L,t.length≤9223372036854775807) (h6:x6.length=2):∀ (j i:Nat) (w:Nat),i+j=L.length→∀ (k:AExit→St→Option (AVal × Heap)),
  xK T (.loop code236L0) ⟨[(0,.val (.slice ra W.length rc)),(4,.var x4),(5,.var x5),(6,.var x6),(18,.val (.slice a L.length c)),(19,.val (.int .i64 L.length)),(20,.val (.int .i64 i))],⟨O,b,w⟩⟩ (k:=⟨k⟩) =
  if (L.drop i).any (oddT Zm.SM) then k .ret ⟨[(6,.var [.slice none 0 (some 0),.slice none 0 (some 0)]),(7,.val (.int .i64 8))],⟨O,b,w⟩⟩ else k (.exit 0) ⟨[(4,.var x4),(5,.var x5),(6,.var x6)],⟨O,b,w⟩⟩
 | 0,i,w,hi,k=>by rw [ce,br (by omega)];simp (disch:=omega) [code236L0]
 | j+1,i,w,hi,k=>by
  obtain ⟨x,hx⟩:∃ x,L[i]? = some x:=⟨_,ah (by omega)⟩;obtain ⟨p,o,cs,ha,hpp,ht⟩:=vg hL hx;have ih:=l236 (rc:=rc) (c:=c) (x4:=x4) (x5:=x5) (x6:=x6) hU hW hb hL hn hs h6 j (i+1) w (by omega) k;have e2:((i+1:Nat):Int)=(i:Int)+1:=by omega
  rw [e2] at ih;have h266:=fun w=>s266 (b:=b) (rc:=rc) hU hW hb x (hs x (bq hx)) w
  subst ha
  obtain ⟨y1,y2,rfl⟩:∃ y1 y2,x6=[y1,y2]:=by
   rcases x6 with _ | ⟨y1,_ | ⟨y2,_ | ⟨y3,r⟩⟩⟩
   ·cases h6
   ·cases h6
   ·exact ⟨_,_,rfl⟩
   ·simp at h6
  rw [ce,jn hx,List.any_cons];generalize ACode.loop code236L0=LL at ih ⊢;cases e:oddT Zm.SM x with
  | true=>rw [e] at h266; simp (disch:=omega) [code236L0,hpp,ht,h266]
  | false=>rw [e] at h266; simp (disch:=omega) [code236L0,hpp,ht,h266,ih]
end
end Go.Abs.Zt

namespace Go.Abs.Zt
open Go.Abs.Zd Go.Abs.Zh
open Go.Abs.Zo hiding T sub
variable {os O:List AObj} {b w:Nat} {N:Nat} {S:List (Str × Str)} {F M:List (Key × Mem)} {V:List (Key × Bool)}
theorem Acc.keep {A B:List Str} {P:List AObj} {v:AVal} (h:Acc 1 dt O A P v):Acc 1 dt O A (newO 1 dt P B) v:=by
 unfold newO;split
 ·exact h
 ·exact Go.Abs.Acc.app h _
def mapF (S:List (Str × Str)) (m:MethU) (x:MapU):Option (List Str × List Str) :=
 if x.locals.any (oddT S) then none else if x.stack.any (oddT S) then none
 else if m.locals < (dv x.locals).length then none else if m.stack < (dv x.stack).length then none
 else some (fillN (dv x.locals) m.locals.toNat,dv x.stack)
def errM (o:Option (List Str × List Str)):Int:=if o.isSome then 0 else 8
structure MapU.fine (O:List AObj) (x:MapU):Prop where
 l:Row O 1 dt x.locals x.la
 ln:x.locals.length≤100
 ls:∀ t ∈ x.locals,t.length≤9223372036854775807
 lu:under O.length x.la
 s:Row O 1 dt x.stack x.sa
 sn:x.stack.length≤100
 ss:∀ t ∈ x.stack,t.length≤9223372036854775807
 su:under O.length x.sa
theorem lowI {n:Nat} {a:Option (Nat × Nat)} {l:Nat} {c:Option Nat} (hu:under n a):((AVal.slice a l c).ids.all fun i=>decide (i < n))=true:=by rw [al]; exact fun i hi=>decide_eq_true (ids_slice hu i hi)
section
attribute [-simp] getElem?_pos getElem?_neg List.all_eq_true sget
attribute [local simp] gz gs nltT nltF iltT iltF ileT nleT dg jv jw jx
set_option maxHeartbeats 4000000 in
theorem s237 {m:MethU} {x:MapU} (h:Zh.World O N S F M V) (hS:S.length≤9223372036854775807) (hb:b≤O.length) (hl:m.locals≤250) (hx:MapU.fine O x) {n0:Nat} (h0:n0≤O.length) (hw:n0≤w) :
  ∃ P' a c a2 c2,∃ w':Nat,xCall T 237 [.ptr (some (N,0)),.agg m.cells,.agg x.cells] ⟨O,b,w⟩=some (.tuple [.agg [.slice a ((mapF S m x).getD ([],[])).1.length c,.slice a2 ((mapF S m x).getD ([],[])).2.length c2],.int .i64 (errM (mapF S m x))],⟨P',b,w'⟩) ∧
   Pre O P'∧n0≤w'∧Row P' 1 dt ((mapF S m x).getD ([],[])).1 a∧Row P' 1 dt ((mapF S m x).getD ([],[])).2 a2:=by
 have hcm:m.cells=[.bool m.st,.str m.name,.str m.desc,.int .i64 m.stack,.int .i64 m.locals,.slice m.ca m.code.length m.cc,.slice m.ta m.traps.length m.tc,.slice m.xa m.maps.length m.xc]:=rfl;have hcx:x.cells=[.int .i64 x.at',.slice x.la x.locals.length x.lc,.slice x.sa x.stack.length x.sc]:=rfl;have hpa:Pre O (O++[.cells 1 [.ptr (some (N,0))]]):=Pre.app _ _;have hka:(O++[AObj.cells 1 [.ptr (some (N,0))]])[O.length]? = some (.cells 1 [.ptr (some (N,0))]):=by rw [dj]; rfl
 have hba:b≤(O++[AObj.cells 1 [.ptr (some (N,0))]]).length:=by simp; omega
 have h260a:=fun w=>s260 (b:=b) (w:=w) (c:=x.lc) (hpa.row hx.l) hba (by have:=hx.ln; omega)
 have ha1:Acc 1 dt O (dv x.locals) (newO 1 dt (O++[.cells 1 [.ptr (some (N,0))]]) (dv x.locals)) _:=Acc.new hpa;have hkb:=uy (e:=1) (f:=dt) (A:=dv x.locals) hka;have hla:=qd (O:=O++[AObj.cells 1 [.ptr (some (N,0))]]) (e:=1) (f:=dt) (A:=dv x.locals);generalize newO 1 dt (O++[AObj.cells 1 [.ptr (some (N,0))]]) (dv x.locals)=Ob at *;generalize newV (O++[AObj.cells 1 [.ptr (some (N,0))]]).length (dv x.locals)=v9 at *;have hpb:=hpa.trans hla;have hbb:b≤Ob.length:=by have:=hpb.len; omega
 have h260b:=fun w=>s260 (b:=b) (w:=w) (c:=x.sc) (hpb.row hx.s) hbb (by have:=hx.sn; omega)
 have ha2:Acc 1 dt O (dv x.stack) (newO 1 dt Ob (dv x.stack)) _:=Acc.new hpb
 have hn9:v9 ≠ .slice (some (Ob.length,0)) (dv x.locals).length none:=fun e=>by
  rcases ha1.val with ⟨_,h2⟩ | ⟨_,i,_,h2,h3⟩
  ·rw [h2] at e; cases e
  ·rw [h2] at e; injection e with e; injection e with e; injection e with e; have:=aj h3; omega
 have ha1:=Zt.Acc.keep (B:=dv x.stack) ha1;have hkc:=uy (e:=1) (f:=dt) (A:=dv x.stack) hkb
 have hne:dv x.stack≠[]→newV Ob.length (dv x.stack) = .slice (some (Ob.length,0)) (dv x.stack).length none∧(newO 1 dt Ob (dv x.stack))[Ob.length]? = some (.cells 1 ((dv x.stack).flatMap dt)):=fun he=>by unfold newV newO;rw [if_neg he,if_neg he,dj];exact ⟨rfl,rfl⟩
 generalize newO 1 dt Ob (dv x.stack)=Oc at *;generalize newV Ob.length (dv x.stack)=v10 at *;have hpc:=ha2.pre;have hbc:b≤Oc.length:=by have:=hpc.len; omega
 have h265:=fun t ht w=>s265 (b:=b) (World.pre h hpc) hbc hS hkc t ht w
 have h91a:=fun w=>s91c (b:=b) (w:=w) (c:=x.lc) (g:=265) (p:=oddT S) (hpc.row hx.l) (by have:=hx.ln; omega) (fun t ht w=>h265 t (hx.ls t ht) w)
 have h91b:=fun w=>s91c (b:=b) (w:=w) (c:=x.sc) (g:=265) (p:=oddT S) (hpc.row hx.s) (by have:=hx.sn; omega) (fun t ht w=>h265 t (hx.ss t ht) w)
 obtain ⟨p9,c9,rfl⟩:=ha1.shape;obtain ⟨p10,c10,rfl⟩:=ha2.shape;have hE1:=mb x.locals;have hE2:=mb x.stack;have hln:=hx.ln;have hsn:=hx.sn;have u1:under (O.length+1) x.la:=fun i o e=>by have:=hx.lu i o e; omega
 have u2:under (O.length+1) x.sa:=fun i o e=>by have:=hx.su i o e; omega
 have z1:=lowI (l:=x.locals.length) (c:=x.lc) u1;have z2:=lowI (l:=x.stack.length) (c:=x.sc) u2;have hf8:=l0 (O:=O) (P:=Oc) (b:=b) (w:=w) (W:=O.length) (e:=8) (ai _)
 have hqq:(Ob.length=O.length+1∧((AVal.slice p9 (dv x.locals).length c9).ids.all fun i=>decide (i < O.length+1))=true)=True∨(Ob.length=O.length+1∧((AVal.slice p9 (dv x.locals).length c9).ids.all fun i=>decide (i < O.length+1))=true)=False:=by
  by_cases hh:(Ob.length=O.length+1∧((AVal.slice p9 (dv x.locals).length c9).ids.all fun i=>decide (i < O.length+1))=true)
  ·exact .inl (eq_true hh)
  ·exact .inr (eq_false hh)
 rcases hqq with hqq | hqq
 all_goals
  unfold mapF;cases e1:x.locals.any (oddT S) with
  | true =>
   rw [e1] at h91a;refine ⟨O,none,some 0,none,some 0,w,?_,Pre.refl _,hw,⟨fun h=>absurd rfl h⟩,⟨fun h=>absurd rfl h⟩⟩;simp (disch:=omega) [-dx,ap,bo,dw u1,dw u2,hqq,z1,z2,av t237,code237,hcm,hcx,h260a,h260b,h91a,hf8,errM]
  | false =>
   rw [e1] at h91a;simp only [am,if_false];cases e2:x.stack.any (oddT S) with
   | true =>
    rw [e2] at h91b;refine ⟨O,none,some 0,none,some 0,w,?_,Pre.refl _,hw,⟨fun h=>absurd rfl h⟩,⟨fun h=>absurd rfl h⟩⟩;simp (disch:=omega) [-dx,ap,bo,dw u1,dw u2,hqq,z1,z2,av t237,code237,hcm,hcx,h260a,h260b,h91a,h91b,hf8,errM]
   | false =>
    rw [e2] at h91b;simp only [am,if_false];by_cases c1:m.locals < (dv x.locals).length
    ·rw [if_pos c1];refine ⟨O,none,some 0,none,some 0,w,?_,Pre.refl _,hw,⟨fun h=>absurd rfl h⟩,⟨fun h=>absurd rfl h⟩⟩;simp (disch:=omega) [-dx,ap,bo,dw u1,dw u2,hqq,z1,z2,av t237,code237,hcm,hcx,h260a,h260b,h91a,h91b,hf8,c1,errM]
    ·rw [if_neg c1];by_cases c2:m.stack < (dv x.stack).length
     ·rw [if_pos c2];refine ⟨O,none,some 0,none,some 0,w,?_,Pre.refl _,hw,⟨fun h=>absurd rfl h⟩,⟨fun h=>absurd rfl h⟩⟩;simp (disch:=omega) [-dx,ap,bo,dw u1,dw u2,hqq,z1,z2,av t237,code237,hcm,hcx,h260a,h260b,h91a,h91b,hf8,c1,c2,errM]
     ·rw [if_neg c2];obtain ⟨q,hq⟩:=en (show 0≤m.locals by omega);rw [hq] at c1 hl hcm ⊢;obtain ⟨Y,v',w4,g1,g2,gk,g3⟩:=s261 (n:=q) (w:=O.length) ha1 hb (by omega) (by omega) (ai _);obtain ⟨a4,c4,rfl,g4⟩:=accN g1
      have g5:RowN O Y (dv x.stack) p10:=by
       by_cases he:dv x.stack=[]
       ·have hz:=ha2.val;rw [he] at hz ⊢;rcases hz with ⟨_,h2⟩ | ⟨h1,_⟩
        ·injection h2 with h2; rw [h2]; exact RowN.nil
        ·exact absurd rfl h1
       ·obtain ⟨k1,k2⟩:=hne he;injection k1 with k1;subst k1;exact ⟨Row.mk0 md (gk _ _ k2 hn9),fun i o e=>by cases e; have:=hpb.len; omega⟩
      obtain ⟨P',a',a2',w',hf,k1,k2,k3,k4⟩:=lf (b:=b) (w:=w) (e:=0) (c1:=c4) (c2:=c10) g1.pre g4 g5 g2 h0 hw;refine ⟨P',a',c4,a2',c10,w',?_,k1,k2,k3,k4⟩;simp (disch:=omega) [-dx,ap,bo,dw u1,dw u2,hqq,z1,z2,av t237,code237,hcm,hcx,h260a,h260b,h91a,h91b,g3,hf,c1,c2,errM]
end
end Go.Abs.Zt

namespace Go.Abs.Zt
open Go.Abs.Zd Go.Abs.Zh
open Go.Abs.Zo hiding T sub
variable {os O:List AObj} {b w:Nat} {N:Nat} {S:List (Str × Str)} {F M:List (Key × Mem)} {V:List (Key × Bool)}
section
variable {f:FrU}
section
attribute [-simp] getElem?_pos getElem?_neg List.all_eq_true sget
attribute [local simp] gz gs nltT nltF iltT iltF ileT nleT dg jv jw jx
set_option maxHeartbeats 2000000 in
theorem reg236 (hf:f.ok O) (hu:f.low O.length) (hb:b≤O.length) (hn1:f.locals.length≤100) (hn2:f.stack.length≤100) (y:Int) (v0:AVal) (x4 x6:List AVal) (w:Nat):∃ X a c w',Both O X f.locals f.stack a w w'∧∀ (k:AExit→St→Option (AVal × Heap)),
  xK T code236R0 ⟨[(0,.val v0),(4,.var x4),(5,.var (.int .i64 y :: f.cells)),(6,.var x6)],⟨O,b,w⟩⟩ (k:=⟨k⟩)=k .normal ⟨[(0,.val v0),(4,.var x4),(5,.var (.int .i64 y :: f.cells)),(6,.var x6),(18,.val (.slice a (f.locals++f.stack).length c)),(19,.val (.int .i64 ((f.locals++f.stack).length:Int))),(20,.val (.int .i64 0))],⟨O++X,b,w'⟩⟩:=by
 have hfc:f.cells=[.slice f.la f.locals.length f.lc,.slice f.sa f.stack.length f.sc]:=rfl;have hl1:=fun b w=>o0 (f:=dt) (e:=1) (h:=⟨O++[.cells 1 []],b,w⟩) (c:=f.lc) ((Pre.app O _).row hf.l.r)
 have hs1:=fun b w=>o0 (f:=dt) (e:=1) (h:=⟨O++[.cells 1 []],b,w⟩) (c:=f.sc) ((Pre.app O _).row hf.s.r)
 have hl2:=fun b w=>o0 (f:=dt) (e:=1) (h:=⟨O++[.cells 1 [],.cells 1 (f.locals.flatMap dt)],b,w⟩) (c:=f.sc) ((Pre.app O _).row hf.s.r)
 have flatL:(f.locals.flatMap dt).length=f.locals.length*1:=pa dt 1 (fun _=>rfl) _;have hla:(f.locals++f.stack).length=f.locals.length+f.stack.length:=aq;by_cases c1:f.locals.length=0
 ·have e1:f.locals=[]:=bc c1;by_cases c2:f.stack.length=0
  ·have e2:f.stack=[]:=bc c2;refine ⟨[.cells 1 []],some (O.length,0),some 0,w,⟨by rw [e1,e2]; exact ⟨fun h=>absurd rfl h⟩,fun _ _ h=>h⟩,fun k=>?_⟩;rw [hla];simp (disch:=omega) [code236R0,hfc,c1,c2,ap,bo,d8,dj,ir,gv,-gx,oa,dw hu.l,dw hu.s,od]
  ·refine ⟨[.cells 1 [],.cells 1 (f.stack.flatMap dt)],some (O.length+1,0),none,w,⟨by rw [e1]; exact Row.mk0 (fun _=>rfl) (by rw [d8]; rfl),fun _ _ h=>h⟩,fun k=>?_⟩;rw [hla];simp (disch:=omega) [-gx,oa,code236R0,hfc,c1,c2,hs1,ap,bo,d8,dj,ir,gv,dw hu.l,dw hu.s,od]
 ·by_cases c2:f.stack.length=0
  ·have e2:f.stack=[]:=bc c2;have hz:=fun w=>ly (e:=1) (n:=f.locals.length) (h:=⟨O++[.cells 1 [],.cells 1 (f.locals.flatMap dt)],b,w⟩) (i:=O.length+1) (c:=none) (by rw [d8]; rfl) flatL
   refine ⟨[.cells 1 [],.cells 1 (f.locals.flatMap dt)],some (O.length+1,0),none,w,⟨by rw [e2,cq]; exact Row.mk0 (fun _=>rfl) (by rw [d8]; rfl),fun _ _ h=>h⟩,fun k=>?_⟩;rw [hla];simp (disch:=omega) [-gx,oa,hz,code236R0,hfc,c1,c2,hl1,ap,bo,d8,dj,ir,gv,dw hu.l,dw hu.s,od]
  ·have hz:=fun w=>ly (e:=1) (n:=f.locals.length) (h:=⟨O++[.cells 1 [],.cells 1 (f.locals.flatMap dt)],b,w⟩) (i:=O.length+1) (c:=none) (by rw [d8]; rfl) flatL
   refine ⟨[.cells 1 [],.dead,.cells 1 ((f.locals++f.stack).flatMap dt)],some (O.length+2,0),none,min w (O.length+1),⟨Row.mk0 (fun _=>rfl) (by rw [d8]; rfl),fun n _ h=>by omega⟩,fun k=>?_⟩;rw [hla,iz];simp (disch:=omega) [-gx,oa,hz,hl2,code236R0,hfc,c1,c2,hl1,ap,bo,d8,dj,ir,gv,dw hu.l,dw hu.s,od]
end
end
theorem any_two {p:Str→Bool} {L R:List Str}:(L++R).any p=(L.any p || R.any p):=List.any_append
section
attribute [-simp] getElem?_pos getElem?_neg List.all_eq_true sget
attribute [local simp] gz gs nltT nltF iltT iltF ileT nleT dg jv jw jx
set_option maxHeartbeats 4000000 in
theorem s236 {W:List UnitU} {ra:Option (Nat × Nat)} {rc:Option Nat} {m:MethU} {x:MapU} (hU:Units O W ra) (hW:W.map supE=Zm.SM) (hb:b≤O.length) (hl:m.locals≤250) (hx:MapU.fine O x) {n0:Nat} (h0:n0≤O.length) (hw:n0≤w) :
  ∃ P' a c a2 c2,∃ w':Nat,xCall T 236 [.slice ra W.length rc,.agg m.cells,.agg x.cells] ⟨O,b,w⟩=some (.tuple [.agg [.slice a ((mapF Zm.SM m x).getD ([],[])).1.length c,.slice a2 ((mapF Zm.SM m x).getD ([],[])).2.length c2],.int .i64 (errM (mapF Zm.SM m x))],⟨P',b,w'⟩) ∧
   Pre O P'∧n0≤w'∧Row P' 1 dt ((mapF Zm.SM m x).getD ([],[])).1 a∧Row P' 1 dt ((mapF Zm.SM m x).getD ([],[])).2 a2:=by
 have hcm:m.cells=[.bool m.st,.str m.name,.str m.desc,.int .i64 m.stack,.int .i64 m.locals,.slice m.ca m.code.length m.cc,.slice m.ta m.traps.length m.tc,.slice m.xa m.maps.length m.xc]:=rfl;have hcx:x.cells=[.int .i64 x.at',.slice x.la x.locals.length x.lc,.slice x.sa x.stack.length x.sc]:=rfl;have hln:=hx.ln;have hsn:=hx.sn;have hrb:gn=140737488351232:=rfl;obtain ⟨X,a,c,w1,hB,hreg⟩:=reg236 (O:=O) (b:=b) (f:=⟨x.locals,x.la,x.lc,x.stack,x.sa,x.sc⟩) ⟨⟨hx.l,by show x.locals.length≤_; omega,hx.ls⟩,⟨hx.s,by show x.stack.length≤_; omega,hx.ss⟩⟩ ⟨hx.lu,hx.su⟩ hb hln hsn x.at' (.slice ra W.length rc) m.cells [.slice none 0 (some 0),.slice none 0 (some 0)] O.length;have hfc:FrU.cells ⟨x.locals,x.la,x.lc,x.stack,x.sa,x.sc⟩=[.slice x.la x.locals.length x.lc,.slice x.sa x.stack.length x.sc]:=rfl;rw [hfc] at hreg;dsimp only at hreg hB;have hpx:Pre O (O++X):=Pre.app O X
 have hbx:b≤(O++X).length:=by rw [aq]; omega
 have hw1:O.length≤w1:=hB.w _ (ai _) (ai _)
 have hlp:=fun k=>l236 (O:=O++X) (b:=b) (rc:=rc) (c:=c) (x4:=m.cells) (x5:=[.int .i64 x.at',.slice x.la x.locals.length x.lc,.slice x.sa x.stack.length x.sc]) (x6:=[.slice none 0 (some 0),.slice none 0 (some 0)]) (hU.pre hpx) hW hbx hB.row (by rw [aq]; omega) (fun t ht=>by
  rcases bz.1 ht with ht | ht
  ·exact hx.ls t ht
  ·exact hx.ss t ht) rfl (x.locals++x.stack).length 0 w1 (by omega) k
 simp only [bh,dy,any_two,aq,Int.natCast_add] at hlp;rw [hcm] at hreg hlp;have hoxl:(O++X).length=O.length+X.length:=aq;have h260a:=fun w=>s264 (b:=b) (w:=w) (c:=x.lc) (hpx.row hx.l) hbx (by omega)
 have ha1:Acc 1 dt O (dv x.locals) (newO 1 dt (O++X) (dv x.locals)) _:=Acc.new hpx;have hla:=qd (O:=O++X) (e:=1) (f:=dt) (A:=dv x.locals);generalize newO 1 dt (O++X) (dv x.locals)=Ob at *;generalize newV (O++X).length (dv x.locals)=v9 at *;have hpb:=hpx.trans hla;have hbb:b≤Ob.length:=by have:=hpb.len; omega
 have h260b:=fun w=>s264 (b:=b) (w:=w) (c:=x.sc) (hpb.row hx.s) hbb (by omega)
 have ha2:Acc 1 dt O (dv x.stack) (newO 1 dt Ob (dv x.stack)) _:=Acc.new hpb
 have hn9:v9 ≠ .slice (some (Ob.length,0)) (dv x.locals).length none:=fun e=>by
  rcases ha1.val with ⟨_,h2⟩ | ⟨_,i,_,h2,h3⟩
  ·rw [h2] at e; cases e
  ·rw [h2] at e; injection e with e; injection e with e; injection e with e; have:=aj h3; omega
 have ha1:=Zt.Acc.keep (B:=dv x.stack) ha1
 have hne:dv x.stack≠[]→newV Ob.length (dv x.stack) = .slice (some (Ob.length,0)) (dv x.stack).length none∧(newO 1 dt Ob (dv x.stack))[Ob.length]? = some (.cells 1 ((dv x.stack).flatMap dt)):=fun he=>by unfold newV newO;rw [if_neg he,if_neg he,dj];exact ⟨rfl,rfl⟩
 generalize newO 1 dt Ob (dv x.stack)=Oc at *;generalize newV Ob.length (dv x.stack)=v10 at *;have hpc:=ha2.pre;obtain ⟨p9,c9,rfl⟩:=ha1.shape;obtain ⟨p10,c10,rfl⟩:=ha2.shape;have hE1:=mb x.locals;have hE2:=mb x.stack;have u1:under (O.length+X.length) x.la:=fun i o e=>by have:=hx.lu i o e; omega
 have u2:under (O.length+X.length) x.sa:=fun i o e=>by have:=hx.su i o e; omega
 have z1:=lowI (l:=x.locals.length) (c:=x.lc) u1;have z2:=lowI (l:=x.stack.length) (c:=x.sc) u2;have hf7:=l0 (O:=O) (P:=O++X) (b:=b) (w:=w) (W:=w1) (e:=8) hw1;have hf8:=l0 (O:=O) (P:=Oc) (b:=b) (w:=w) (W:=w1) (e:=8) hw1
 have hqq:(Ob.length=O.length+X.length∧((AVal.slice p9 (dv x.locals).length c9).ids.all fun i=>decide (i < O.length+X.length))=true)=True∨(Ob.length=O.length+X.length∧((AVal.slice p9 (dv x.locals).length c9).ids.all fun i=>decide (i < O.length+X.length))=true)=False:=by
  by_cases hh:(Ob.length=O.length+X.length∧((AVal.slice p9 (dv x.locals).length c9).ids.all fun i=>decide (i < O.length+X.length))=true)
  ·exact .inl (eq_true hh)
  ·exact .inr (eq_false hh)
 rcases hqq with hqq | hqq
 all_goals
  unfold mapF;cases e1:x.locals.any (oddT Zm.SM) with
  | true =>
   rw [e1] at hlp;refine ⟨O,none,some 0,none,some 0,w,?_,Pre.refl _,hw,⟨fun h=>absurd rfl h⟩,⟨fun h=>absurd rfl h⟩⟩;simp (disch:=omega) [-dx,ap,bo,dw u1,dw u2,hqq,z1,z2,av t236,code236,code236R1,hcm,hcx,hreg,hlp,hoxl,hf7,errM]
  | false =>
   rw [e1] at hlp;simp only [am,if_false];cases e2:x.stack.any (oddT Zm.SM) with
   | true =>
    rw [e2] at hlp;refine ⟨O,none,some 0,none,some 0,w,?_,Pre.refl _,hw,⟨fun h=>absurd rfl h⟩,⟨fun h=>absurd rfl h⟩⟩;simp (disch:=omega) [-dx,ap,bo,dw u1,dw u2,hqq,z1,z2,av t236,code236,code236R1,hcm,hcx,hreg,hlp,hoxl,hf7,errM]
   | false =>
    rw [e2] at hlp;simp only [am,if_false];by_cases c1:m.locals < (dv x.locals).length
    ·rw [if_pos c1];refine ⟨O,none,some 0,none,some 0,w,?_,Pre.refl _,hw,⟨fun h=>absurd rfl h⟩,⟨fun h=>absurd rfl h⟩⟩;simp (disch:=omega) [-dx,ap,bo,dw u1,dw u2,hqq,z1,z2,av t236,code236,code236R1,hcm,hcx,hreg,hlp,hoxl,h260a,h260b,hf8,c1,errM]
    ·rw [if_neg c1];by_cases c2:m.stack < (dv x.stack).length
     ·rw [if_pos c2];refine ⟨O,none,some 0,none,some 0,w,?_,Pre.refl _,hw,⟨fun h=>absurd rfl h⟩,⟨fun h=>absurd rfl h⟩⟩;simp (disch:=omega) [-dx,ap,bo,dw u1,dw u2,hqq,z1,z2,av t236,code236,code236R1,hcm,hcx,hreg,hlp,hoxl,h260a,h260b,hf8,c1,c2,errM]
     ·rw [if_neg c2];obtain ⟨q,hq⟩:=en (show 0≤m.locals by omega);rw [hq] at c1 hl hcm hreg hlp ⊢;have hmin:min (q:Int) 300=q:=by omega
      obtain ⟨Y,v',w4,g1,g2,gk,g3⟩:=s263 (n:=q) (w:=w1) ha1 hb (by omega) (by omega) hw1;obtain ⟨a4,c4,rfl,g4⟩:=accN g1
      have g5:RowN O Y (dv x.stack) p10:=by
       by_cases he:dv x.stack=[]
       ·have hz:=ha2.val;rw [he] at hz ⊢;rcases hz with ⟨_,h2⟩ | ⟨h1,_⟩
        ·injection h2 with h2; rw [h2]; exact RowN.nil
        ·exact absurd rfl h1
       ·obtain ⟨k1,k2⟩:=hne he;injection k1 with k1;subst k1;exact ⟨Row.mk0 md (gk _ _ k2 hn9),fun i o e=>by cases e; have:=hpb.len; omega⟩
      obtain ⟨P',a',a2',w',hf,k1,k2,k3,k4⟩:=lf (b:=b) (w:=w) (e:=0) (c1:=c4) (c2:=c10) g1.pre g4 g5 g2 h0 hw;refine ⟨P',a',c4,a2',c10,w',?_,k1,k2,k3,k4⟩;simp (disch:=omega) [-dx,ap,bo,dw u1,dw u2,hqq,z1,z2,av t236,code236,code236R1,hcm,hcx,hreg,hlp,hoxl,h260a,h260b,g3,hf,c1,c2,hmin,errM]
end
end Go.Abs.Zt

namespace Go.Abs.Zt
open Go.Abs.Zd Go.Abs.Zh
open Go.Abs.Zo hiding T sub
variable {os O:List AObj} {b w:Nat}
def smallM (m:MethU):Bool:=decide (m.locals≤250) && decide (m.stack≤250) && decide (m.desc.length < 300) && decide (m.code.length=0) && decide (m.name.length < 100)
section
attribute [-simp] getElem?_pos getElem?_neg List.all_eq_true
attribute [local simp] gz gs nltT nltF iltT iltF ileT nleT dg
theorem s241 {m:MethU} {h:Heap}:xCall T 241 [.agg m.cells] h=some (.bool (smallM m),h):=by
 have hcm:m.cells=[.bool m.st,.str m.name,.str m.desc,.int .i64 m.stack,.int .i64 m.locals,.slice m.ca m.code.length m.cc,.slice m.ta m.traps.length m.tc,.slice m.xa m.maps.length m.xc]:=rfl;obtain ⟨os,b,w⟩:=h;unfold smallM;by_cases c1:m.locals≤250
 ·by_cases c2:m.stack≤250
  ·by_cases c3:m.desc.length < 300
   ·have c3':(m.desc.length:Int) < 300:=by omega
    by_cases c4:m.code.length=0
    ·by_cases c5:m.name.length < 100
     ·have c5':(m.name.length:Int) < 100:=by omega
      simp (disch:=omega) [av t241,code241,hcm,c1,c2,c3,c3',c4,c5,c5']
     ·have c5':¬ (m.name.length:Int) < 100:=by omega
      simp (disch:=omega) [av t241,code241,hcm,c1,c2,c3,c3',c4,c5,c5']
    ·have c4':¬ (m.code.length:Int)=0:=by omega
     simp (disch:=omega) [av t241,code241,hcm,c1,c2,c3,c3',c4,c4']
   ·have c3':¬ (m.desc.length:Int) < 300:=by omega
    simp (disch:=omega) [av t241,code241,hcm,c1,c2,c3,c3']
  ·simp (disch:=omega) [av t241,code241,hcm,c1,c2]
 ·simp (disch:=omega) [av t241,code241,hcm,c1]
theorem l235a {L:List Str} {a a':Option (Nat × Nat)} {c c':Option Nat} {y z:AVal} (h1:Row O 1 dt L a) (h2:Row O 1 dt L a') (hn:L.length≤1000):∀ (j i:Nat) (w:Nat),i+j=L.length→∀ (k:AExit→St→Option (AVal × Heap)),
  xK T (.loop code235L1) ⟨[(2,.var [.slice a L.length c,y]),(3,.var [.slice a' L.length c',z]),(25,.val (.int .i64 L.length)),(26,.val (.int .i64 i))],⟨O,b,w⟩⟩ (k:=⟨k⟩) =
   k (.exit 0) ⟨[(2,.var [.slice a L.length c,y]),(3,.var [.slice a' L.length c',z])],⟨O,b,w⟩⟩
 | 0,i,w,hi,k=>by rw [ce];simp (disch:=omega) [code235L1]
 | j+1,i,w,hi,k=>by
  obtain ⟨x,hx⟩:∃ x,L[i]? = some x:=⟨_,ah (by omega)⟩;obtain ⟨p,o,cs,ha,hpp,ht⟩:=vg h1 hx;obtain ⟨p',o',cs',ha',hpp',ht'⟩:=vg h2 hx;have ih:=l235a (c:=c) (c':=c') (y:=y) (z:=z) h1 h2 hn j (i+1) w (by omega) k;have e2:((i+1:Nat):Int)=(i:Int)+1:=by omega
  rw [e2] at ih;subst ha ha';rw [ce];generalize ACode.loop code235L1=LL at ih ⊢;simp (disch:=omega) [code235L1,hpp,hpp',ht,ht',ih]
theorem l235b {L:List Str} {a a':Option (Nat × Nat)} {c c':Option Nat} {y z:AVal} (h1:Row O 1 dt L a) (h2:Row O 1 dt L a') (hn:L.length≤1000):∀ (j i:Nat) (w:Nat),i+j=L.length→∀ (k:AExit→St→Option (AVal × Heap)),
  xK T (.loop code235L0) ⟨[(2,.var [y,.slice a L.length c]),(3,.var [z,.slice a' L.length c']),(43,.val (.int .i64 L.length)),(44,.val (.int .i64 i))],⟨O,b,w⟩⟩ (k:=⟨k⟩) =
   k (.exit 2) ⟨[],⟨O,b,w⟩⟩
 | 0,i,w,hi,k=>by rw [ce];simp (disch:=omega) [code235L0]
 | j+1,i,w,hi,k=>by
  obtain ⟨x,hx⟩:∃ x,L[i]? = some x:=⟨_,ah (by omega)⟩;obtain ⟨p,o,cs,ha,hpp,ht⟩:=vg h1 hx;obtain ⟨p',o',cs',ha',hpp',ht'⟩:=vg h2 hx;have ih:=l235b (c:=c) (c':=c') (y:=y) (z:=z) h1 h2 hn j (i+1) w (by omega) k;have e2:((i+1:Nat):Int)=(i:Int)+1:=by omega
  rw [e2] at ih;subst ha ha';rw [ce];generalize ACode.loop code235L0=LL at ih ⊢;simp (disch:=omega) [code235L0,hpp,hpp',ht,ht',ih]
theorem s235 {L M:List Str} {a a' e e':Option (Nat × Nat)} {c c' d d':Option Nat} (h1:Row O 1 dt L a) (h2:Row O 1 dt L a') (h3:Row O 1 dt M e) (h4:Row O 1 dt M e') (hn:L.length≤1000) (hm:M.length≤1000) :
  xCall T 235 [.agg [.slice a L.length c,.slice e M.length d],.agg [.slice a' L.length c',.slice e' M.length d']] ⟨O,b,w⟩=some (.bool true,⟨O,b,w⟩):=by
 have k1:=fun w k=>l235a (b:=b) (c:=c) (c':=c') (y:=.slice e M.length d) (z:=.slice e' M.length d') h1 h2 hn L.length 0 w (by omega) k
 have k2:=fun w k=>l235b (b:=b) (c:=d) (c':=d') (y:=.slice a L.length c) (z:=.slice a' L.length c') h3 h4 hm M.length 0 w (by omega) k
 simp only [bh] at k1 k2;simp (disch:=omega) [av t235,code235,k1,k2]
end
theorem startN_few {n:Str} {m:MethU} (hl:m.locals≤250):((startN n m).getD []).length≤1000:=by
 unfold startN;cases methL m.desc with
 | none=>simp
 | some q =>
  obtain ⟨A,r⟩:=q;dsimp only;split
  ·simp
  ·rename_i h;simp only [cr,fillN,aq,rq];omega
theorem mapF_few {S:List (Str × Str)} {m:MethU} {x:MapU} (hl:m.locals≤250) (hx:x.stack.length≤100):((mapF S m x).getD ([],[])).1.length≤1000∧((mapF S m x).getD ([],[])).2.length≤1000:=by
 have:=mb x.stack;unfold mapF;split
 ·simp
 ·split
  ·simp
  ·split
   ·simp
   ·split
    ·simp
    ·simp only [cr,fillN,aq,rq];constructor <;> omega
theorem fine_pre {P:List AObj} {x:MapU} (h:MapU.fine O x) (hp:Pre O P):MapU.fine P x :=
 ⟨hp.row h.l,h.ln,h.ls,fun i o e=>f7 (h.lu i o e) hp.len,hp.row h.s,h.sn,h.ss,fun i o e=>f7 (h.su i o e) hp.len⟩
section
attribute [-simp] getElem?_pos getElem?_neg List.all_eq_true sget
attribute [local simp] gz gs nltT nltF iltT iltF ileT nleT dg jv jw jx
set_option maxHeartbeats 4000000 in
theorem s244 {tb:List UInt8} {n:Str} {m:MethU} {x:MapU} {a:Option (Nat × Nat)} {c:Option Nat} (hR:Row O 1 og tb a) (hu:under O.length a) (hn:tb.length≤gn) (hb:b≤O.length)
  (hnn:n.length≤gn) (hmd:m.desc.length≤gn) (hxo:x.ok O) (hxf:x.fits) :
  xCall T 244 [.slice a tb.length c,.str n,.agg m.cells,.agg x.cells] ⟨O,b,w⟩=some (.bool true,⟨O,b,w⟩):=by
 have hrb:gn=140737488351232:=rfl;have hcm:m.cells=[.bool m.st,.str m.name,.str m.desc,.int .i64 m.stack,.int .i64 m.locals,.slice m.ca m.code.length m.cc,.slice m.ta m.traps.length m.tc,.slice m.xa m.maps.length m.xc]:=rfl;have hcx:x.cells=[.int .i64 x.at',.slice x.la x.locals.length x.lc,.slice x.sa x.stack.length x.sc]:=rfl;have h243:=fun h=>s243 (h:=h)
 have h241:=fun h=>s241 (h:=h) (m:=m)
 rw [hcm] at h241;have f1:=fun w=>s242 (O:=O) (b:=b) (f:=⟨x.locals,x.la,x.lc,x.stack,x.sa,x.sc⟩) ⟨⟨hxo.l,hxf.l,fun t ht=>by have:=hxf.ls t ht; omega⟩,⟨hxo.s,hxf.s,fun t ht=>by have:=hxf.ss t ht; omega⟩⟩ ⟨hxo.lu,hxo.su⟩ hb w
 have hfc:FrU.cells ⟨x.locals,x.la,x.lc,x.stack,x.sa,x.sc⟩=[.slice x.la x.locals.length x.lc,.slice x.sa x.stack.length x.sc]:=rfl;rw [hfc] at f1;by_cases c1:(100:Int) < tb.length
 ·simp (disch:=omega) [av t244,code244,hcm,hcx,h243,c1]
 ·cases c2:smallM m with
  | false=>rw [c2] at h241; simp (disch:=omega) [av t244,code244,hcm,hcx,h243,c1,h241]
  | true=>?_
  rw [c2] at h241;by_cases c3:(100:Int) < n.length
  ·simp (disch:=omega) [av t244,code244,hcm,hcx,h243,c1,h241,c3]
  ·cases q1:fewF ⟨x.locals,x.la,x.lc,x.stack,x.sa,x.sc⟩ with
   | false=>rw [q1] at f1; simp (disch:=omega) [av t244,code244,hcm,hcx,h243,c1,h241,c3,f1]
   | true=>?_
   rw [q1] at f1;unfold fewF at q1;simp only [az,decide_eq_true_eq,al] at q1;have hx:MapU.fine O x:=⟨hxo.l,q1.1.1,fun t ht=>by have:=hxf.ls t ht; omega,hxo.lu,hxo.s,q1.1.2,fun t ht=>by have:=hxf.ss t ht; omega,hxo.su⟩;unfold smallM at c2;simp only [az,decide_eq_true_eq] at c2;obtain ⟨N,w',P,W,ra,F,M,hN,hP,hw',hW,hU,hsup,e240⟩:=s240 (c:=c) hR hu (by omega) hb O.length;have hw':=hw' (ai _);have hPl:=hP.len;have hSl:Zm.SM.length≤9223372036854775807:=by decide
   obtain ⟨P1,a1,k1,a2,k2,w1,e239,p1,v1,r1⟩:=s239 (O:=P) (b:=b) (w:=w') (n:=n) (m:=m) (n0:=O.length) (by omega) (by omega) (by omega) c2.1.1.1.1 hPl hw';have l1:=p1.len;obtain ⟨P2,a3,k3,a4,k4,w2,e238,p2,v2,r2⟩:=s238 (O:=P1) (b:=b) (w:=w1) (n:=n) (m:=m) (n0:=O.length) (by omega) (by omega) (by omega) c2.1.1.1.1 (by omega) v1;have l2:=p2.len;obtain ⟨P3,a5,k5,a6,k6,w3,e237,p3,v3,r3,r4⟩:=s237 (O:=P2) (b:=b) (w:=w2) (n0:=O.length) (m:=m) (x:=x) (World.pre hW (p1.trans p2)) hSl (by omega) c2.1.1.1.1 (fine_pre hx (hP.trans (p1.trans p2))) (by omega) v2;have l3:=p3.len;obtain ⟨P4,a7,k7,a8,k8,w4,e236,p4,v4,r5,r6⟩:=s236 (O:=P3) (b:=b) (w:=w3) (n0:=O.length) (rc:=none) (m:=m) (x:=x) (hU.pre (p1.trans (p2.trans p3))) hsup (by omega) c2.1.1.1.1 (fine_pre hx (hP.trans (p1.trans (p2.trans p3)))) (by omega) v3;have l4:=p4.len;have n1:=startN_few (n:=n) (m:=m) c2.1.1.1.1
   have n2:=mapF_few (S:=Zm.SM) (m:=m) (x:=x) c2.1.1.1.1 q1.1.2;have z235a:=fun w=>s235 (b:=b) (w:=w) (c:=k1) (c':=k3) (d:=k2) (d':=k4) ((p2.trans (p3.trans p4)).row r1) ((p3.trans p4).row r2) (L:=(startN n m).getD []) (M:=[]) (e:=a2) (e':=a4) ⟨fun h=>absurd rfl h⟩ ⟨fun h=>absurd rfl h⟩ n1 (by simp)
   have z235b:=fun w=>s235 (b:=b) (w:=w) (c:=k5) (c':=k7) (d:=k6) (d':=k8) (p4.row r3) r5 (p4.row r4) r6 n2.1 n2.2
   simp only [bp] at z235a;generalize (startN n m).getD []=L1 at *;generalize (mapF Zm.SM m x).getD ([],[])=L2 at *;generalize errN (startN n m)=E1 at *;generalize errM (mapF Zm.SM m x)=E2 at *;rw [hcm] at e239 e238 e237 e236;rw [hcx] at e237 e236;have hq:¬ w4 < O.length:=by omega
   simp (disch:=omega) [av t244,code244,hcm,hcx,h243,c1,h241,c3,f1,e240,e239,e238,e237,e236,z235a,z235b,hq]
end
end Go.Abs.Zt

namespace Go.Abs
def AOper.isLoc (o:AOper):Bool:=match o.op with
 | .lalloc _ | .lbox _ | .ext (.hstore _) _=>true
 | _=>false
def locsOf:Nat→List AOper→List Nat
 | _,[]=>[]
 | i,o :: r=>if o.isLoc then i :: locsOf (i+1) r else locsOf (i+1) r
def ACode.hint:ACode→Hint
 | .skip | .exit _ | .ret | .next _ _=>.leaf
 | .region gs=>.reg (gs.map fun g=>(g.quiet,g.ops.length)) (locsOf 0 (gs.flatMap Seg.ops))
 | .seq (.next _ _) _=>.next
 | .seq a b=>.seq a.hint b.hint
 | .cond (.const (.str [])) .skip .skip=>.stuck
 | .cond _ a b=>.cond a.hint b.hint
 | .block _ c=>.block c.hint
 | .loop c=>.loop c.hint
 | .live l c=>.live l c.hint
 | .after c l=>.after c.hint l
 | .rangeFunc _ g caps _ a b=>.rangeFunc g caps a.hint b.hint
theorem ow {E:Env} {T:Nat→Option AFunc} {f g:Nat} {fn:Func} {c:AFunc} {b:Bool} {hint:Hint} (h3:tj E b hint fn=some c) (h1:E.P.funcs[f]? = some fn) (h2:T g=some c) (h4:RndOK E c.body.rounds):FnOK E T f g:=.inr (.inl ⟨_,_,_,_,h1,h2,h3,h4⟩)
end Go.Abs
