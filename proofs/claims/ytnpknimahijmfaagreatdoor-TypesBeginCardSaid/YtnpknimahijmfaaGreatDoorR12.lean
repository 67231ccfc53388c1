/-
  Texts joined.
-/
import Derived.Test.YtnpknimahijmfaaGreatDoorR0
import Derived.Test.YtnpknimahijmfaaGreatDoorR11
import Derived.Test.YtnpknimahijmfaaGreatDoorR10
import Derived.Test.YtnpknimahijmfaaGreatDoorR9
set_option linter.unusedVariables false
set_option linter.unusedSimpArgs false
set_option maxRecDepth 100000
namespace Go.Abs.Zh
open Go.Abs.Zd
variable {os O H:List AObj} {b w:Nat}
section
attribute [-simp] getElem?_pos getElem?_neg
theorem l157a {W:List UnitU} {a:Option (Nat × Nat)} {c:Option Nat} {L:List Str} {aa:Option (Nat × Nat)} {cc:Option Nat} {x4 x5:List AVal} (hR:Row H 4 UnitU.cells W a) (hl:W.length≤9223372036854775807) (hok:∀ u ∈ W,u.low H.length) (hA:Row H 1 dt L aa) (hL:L.length≤9223372036854775807) (ht:∀ t ∈ L,t.length≤9223372036854775807) :
  ∀ (j i:Nat) (w:Nat),i+j=L.length→∀ (k:AExit→St→Option (AVal × Heap)),
  xK T (.loop code157L3) ⟨[(0,.val (.slice a W.length c)),(4,.var x4),(5,.var x5),(41,.val (.slice aa L.length cc)),(42,.val (.int .i64 L.length)),(43,.val (.int .i64 i))],⟨H,b,w⟩⟩ (k:=⟨k⟩) =
   if (L.drop i).all (thereU W) then k (.exit 0) ⟨[(0,.val (.slice a W.length c)),(4,.var x4),(5,.var x5)],⟨H,b,w⟩⟩ else k .ret ⟨[(6,.val (.bool false))],⟨H,b,w⟩⟩
 | 0,i,w,hi,k=>by rw [ce,br (by omega)];simp (disch:=omega) [code157L3,iltF]
 | j+1,i,w,hi,k=>by
  obtain ⟨t,hx⟩:∃ t,L[i]? = some t:=⟨_,ah (by omega)⟩;obtain ⟨p,o,cs,rfl,hp,hpl,hcs,hv⟩:=jt hA hx
  have hg:cs[o+i]? = some (.str t):=by
   have:(List.take 1 (List.drop (o+i*1) cs))[0]? = some (.str t):=by rw [hv]; rfl
   simpa using this
  have h159:=fun w=>s159 (b:=b) (w:=w) (c:=c) hR hl hok (ht t (bq hx))
  have ih:=l157a (c:=c) (cc:=cc) (x4:=x4) (x5:=x5) hR hl hok hA hL ht j (i+1) w (by omega) k;have e2:((i+1:Nat):Int)=(i:Int)+1:=by omega
  rw [e2] at ih;rw [ce,jn hx];simp only [dz];generalize ACode.loop code157L3=L' at ih ⊢;rcases aw (thereU W t) with c1 | c1
  ·simp (disch:=omega) [-List.all_eq_true,gz,gs,code157L3,nltT,nltF,iltT,ileT,nleT,dg,h159,hp,hg,c1,ih]
  ·simp (disch:=omega) [-List.all_eq_true,gz,gs,code157L3,nltT,nltF,iltT,ileT,nleT,dg,h159,hp,hg,c1]
end
def trapU (W:List UnitU) (t:TrapU):Bool:=decide (t.cls=[]) || (gl W t.cls).isSome
section
attribute [-simp] getElem?_pos getElem?_neg
theorem l157t {W:List UnitU} {a:Option (Nat × Nat)} {c:Option Nat} {L:List TrapU} {aa:Option (Nat × Nat)} {cc:Option Nat} {x4 x5:List AVal} (hR:Row H 4 UnitU.cells W a) (hl:W.length≤9223372036854775807) (hok:∀ u ∈ W,u.low H.length) (hA:Row H 4 TrapU.cells L aa) (hL:L.length≤9223372036854775807) :
  ∀ (j i:Nat) (w:Nat),i+j=L.length→∀ (k:AExit→St→Option (AVal × Heap)),
  xK T (.loop code157L2) ⟨[(0,.val (.slice a W.length c)),(4,.var x4),(5,.var x5),(53,.val (.slice aa L.length cc)),(54,.val (.int .i64 L.length)),(55,.val (.int .i64 i))],⟨H,b,w⟩⟩ (k:=⟨k⟩) =
   if (L.drop i).all (trapU W) then k (.exit 2) ⟨[(0,.val (.slice a W.length c)),(4,.var x4),(5,.var x5)],⟨H,b,w⟩⟩ else k .ret ⟨[(6,.val (.bool false))],⟨H,b,w⟩⟩
 | 0,i,w,hi,k=>by rw [ce,br (by omega)];simp (disch:=omega) [code157L2,iltF]
 | j+1,i,w,hi,k=>by
  obtain ⟨t,hx⟩:∃ t,L[i]? = some t:=⟨_,ah (by omega)⟩;obtain ⟨p,o,cs,rfl,hp,hpl,hcs,hv⟩:=jt hA hx;have h160:=fun w=>s160 (b:=b) (w:=w) (c:=c) hR hl hok (n:=t.cls)
  have hz:=v5 (gl W t.cls);have ih:=l157t (c:=c) (cc:=cc) (x4:=x4) (x5:=x5) hR hl hok hA hL j (i+1) w (by omega) k;have e2:((i+1:Nat):Int)=(i:Int)+1:=by omega
  rw [e2] at ih;rw [ce,jn hx];simp only [dz];generalize ACode.loop code157L2=L' at ih ⊢;unfold TrapU.cells at hv;have ho:trapU W t=(decide (t.cls=[]) || (gl W t.cls).isSome):=rfl;generalize gl W t.cls=q at h160 hz ho;by_cases c0:t.cls=[]
  ·have ho:trapU W t=true:=by rw [ho,c0]; rfl
   rw [c0] at h160;simp (disch:=omega) [-List.all_eq_true,gz,gs,code157L2,nltT,nltF,iltT,ileT,nleT,dg,h160,hz,hp,hv,c0,ho,ih]
  ·cases q with
   | none =>
    have ho:trapU W t=false:=by rw [ho]; simp [c0]
    simp (disch:=omega) [-List.all_eq_true,gz,gs,code157L2,nltT,nltF,iltT,ileT,nleT,dg,h160,hz,hp,hv,c0,ho]
   | some q =>
    have ho:trapU W t=true:=by rw [ho]; simp
    simp (disch:=omega) [-List.all_eq_true,gz,gs,code157L2,nltT,nltF,iltT,ileT,nleT,dg,h160,hz,hp,hv,c0,ho,ih]
end
def oddM (m x:MethU):Bool:=decide (x.name=m.name) && (decide (x.desc=m.desc) && !decide (x.st=m.st))
section
attribute [-simp] getElem?_pos getElem?_neg
theorem l157m {L:List MethU} {aa:Option (Nat × Nat)} {cc:Option Nat} {m:MethU} {x1 x2 x3:AVal} (hA:Row H 8 MethU.cells L aa) (hL:L.length≤9223372036854775807) :
  ∀ (j i:Nat) (w:Nat),i+j=L.length→∀ (k:AExit→St→Option (AVal × Heap)),
  xK T (.loop code157L0) ⟨[(5,.var m.cells),(77,.val x1),(78,.val x2),(79,.val x3),(84,.val (.slice aa L.length cc)),(85,.val (.int .i64 L.length)),(86,.val (.int .i64 i))],⟨H,b,w⟩⟩ (k:=⟨k⟩) =
   if (L.drop i).all (fun x=>!oddM m x) then k (.exit 6) ⟨[(5,.var m.cells),(77,.val x1),(78,.val x2),(79,.val x3)],⟨H,b,w⟩⟩ else k .ret ⟨[(6,.val (.bool false))],⟨H,b,w⟩⟩
 | 0,i,w,hi,k=>by rw [ce,br (by omega)];simp (disch:=omega) [code157L0,iltF]
 | j+1,i,w,hi,k=>by
  obtain ⟨x,hx⟩:∃ x,L[i]? = some x:=⟨_,ah (by omega)⟩;obtain ⟨p,o,cs,rfl,hp,hpl,hcs,hv⟩:=jt hA hx;have ih:=l157m (cc:=cc) (m:=m) (x1:=x1) (x2:=x2) (x3:=x3) hA hL j (i+1) w (by omega) k;have e2:((i+1:Nat):Int)=(i:Int)+1:=by omega
  rw [e2] at ih;have hcm:m.cells=[.bool m.st,.str m.name,.str m.desc,.int .i64 m.stack,.int .i64 m.locals,.slice m.ca m.code.length m.cc,.slice m.ta m.traps.length m.tc,.slice m.xa m.maps.length m.xc]:=rfl;have hcx:x.cells=[.bool x.st,.str x.name,.str x.desc,.int .i64 x.stack,.int .i64 x.locals,.slice x.ca x.code.length x.cc,.slice x.ta x.traps.length x.tc,.slice x.xa x.maps.length x.xc]:=rfl;rw [hcm] at ih ⊢;rw [hcx] at hv;rw [ce,jn hx];simp only [dz];generalize ACode.loop code157L0=L' at ih ⊢;have ho:oddM m x=(decide (x.name=m.name) && (decide (x.desc=m.desc) && !decide (x.st=m.st))):=rfl;by_cases c1:x.name=m.name
  ·by_cases c2:x.desc=m.desc
   ·by_cases c3:x.st=m.st
    ·have ho:oddM m x=false:=by rw [ho,c1,c2,c3]; simp
     simp (disch:=omega) [-List.all_eq_true,gz,gs,code157L0,nltT,nltF,iltT,ileT,nleT,dg,hp,hv,c1,c2,c3,ho,ih]
    ·have ho:oddM m x=true:=by rw [ho]; simp [c1,c2,c3]
     simp (disch:=omega) [-List.all_eq_true,gz,gs,code157L0,nltT,nltF,iltT,ileT,nleT,dg,hp,hv,c1,c2,c3,ho]
   ·have ho:oddM m x=false:=by rw [ho]; simp [c1,c2]
    simp (disch:=omega) [-List.all_eq_true,gz,gs,code157L0,nltT,nltF,iltT,ileT,nleT,dg,hp,hv,c1,c2,ho,ih]
  ·have ho:oddM m x=false:=by rw [ho]; simp [c1]
   simp (disch:=omega) [-List.all_eq_true,gz,gs,code157L0,nltT,nltF,iltT,ileT,nleT,dg,hp,hv,c1,ho,ih]
end
def evenM (m:MethU) (v:UnitU):Bool:=v.meths.all fun x=>!oddM m x
section
attribute [-simp] getElem?_pos getElem?_neg
theorem l157l {L:List UnitU} {aa:Option (Nat × Nat)} {cc:Option Nat} {m:MethU} (hA:Row H 4 UnitU.cells L aa) (hL:L.length≤9223372036854775807) (hm:∀ u ∈ L,Row H 8 MethU.cells u.meths u.ma∧u.meths.length≤9223372036854775807) :
  ∀ (j i:Nat) (w:Nat),i+j=L.length→∀ (k:AExit→St→Option (AVal × Heap)),
  xK T (.loop code157L1) ⟨[(5,.var m.cells),(77,.val (.slice aa L.length cc)),(78,.val (.int .i64 L.length)),(79,.val (.int .i64 i))],⟨H,b,w⟩⟩ (k:=⟨k⟩) =
   if (L.drop i).all (evenM m) then k (.exit 4) ⟨[],⟨H,b,w⟩⟩ else k .ret ⟨[(6,.val (.bool false))],⟨H,b,w⟩⟩
 | 0,i,w,hi,k=>by rw [ce,br (by omega)];simp (disch:=omega) [code157L1,iltF]
 | j+1,i,w,hi,k=>by
  obtain ⟨u,hx⟩:∃ u,L[i]? = some u:=⟨_,ah (by omega)⟩;obtain ⟨p,o,cs,rfl,hp,hpl,hcs,hv⟩:=jt hA hx;obtain ⟨h1,h2⟩:=hm u (bq hx);have hin:=fun (x1 x2 x3:AVal) w k=>l157m (b:=b) (cc:=u.mc) (m:=m) (x1:=x1) (x2:=x2) (x3:=x3) h1 h2 u.meths.length 0 w (by omega) k
  simp only [bh,dy] at hin;have ih:=l157l (cc:=cc) (m:=m) hA hL hm j (i+1) w (by omega) k;have e2:((i+1:Nat):Int)=(i:Int)+1:=by omega
  rw [e2] at ih;have hcu:u.cells=[.str u.name,.str u.super,.slice u.fa u.fields.length u.fc,.slice u.ma u.meths.length u.mc]:=rfl;rw [hcu] at hv;rw [ce,jn hx];simp only [dz];generalize ACode.loop code157L1=L' at ih ⊢;have ho:evenM m u=u.meths.all fun x=>!oddM m x:=rfl
  rw [← ho] at hin;generalize m.cells=mc at ih hin ⊢;rcases aw (evenM m u) with c1 | c1
  ·rw [c1] at hin;simp only [if_true] at hin;simp (disch:=omega) [-List.all_eq_true,gz,gs,code157L1,nltT,nltF,iltT,ileT,nleT,dg,hp,hv,c1,hin,ih]
  ·rw [c1] at hin;simp only [am,if_false] at hin;simp (disch:=omega) [-List.all_eq_true,gz,gs,code157L1,nltT,nltF,iltT,ileT,nleT,dg,hp,hv,c1,hin]
end
def methodU (W:List UnitU) (u:UnitU) (m:MethU):Bool:=match methL m.desc with
 | some (A,r)=>isName m.name && (thereU W r && (A.all (thereU W) && (m.traps.all (trapU W) && (iu W (W.length+1) u.name).all (evenM m))))
 | none=>false
structure Units (O:List AObj) (W:List UnitU) (a:Option (Nat × Nat)):Prop where
 r:Row O 4 UnitU.cells W a
 n:W.length≤200
 ok:∀ u ∈ W,u.ok O
theorem Units.pre {O O':List AObj} {W:List UnitU} {a:Option (Nat × Nat)} (h:Units O W a) (hp:Pre O O'):Units O' W a:=⟨hp.row h.r,h.n,fun u hu=>(h.ok u hu).pre hp⟩
theorem Units.low {O:List AObj} {W:List UnitU} {a:Option (Nat × Nat)} (h:Units O W a):∀ u ∈ W,u.low O.length:=fun u hu=>(h.ok u hu).low
theorem Units.len {O:List AObj} {W:List UnitU} {a:Option (Nat × Nat)} (h:Units O W a):W.length≤9223372036854775807:=dr h.n (by decide)
theorem methO_pre (O:List AObj) (q:Option (List Str × Str)):Pre O (methO O q):=by
 unfold methO;split
 ·exact Pre.app _ _
 ·exact Pre.refl _
def argA (n:Nat):List Str→Option (Nat × Nat)
 | []=>none
 | _ :: _=>some (n,0)
def argC:List Str→Option Nat
 | []=>some 0
 | _ :: _=>none
section
attribute [-simp] getElem?_pos getElem?_neg
attribute [local simp] gz gs
theorem s157 {W:List UnitU} {a:Option (Nat × Nat)} {c:Option Nat} (hW:Units O W a) {u:UnitU} {m:MethU} (hm:m.ok O) (hb:b≤O.length) :
  xCall T 157 [.slice a W.length c,.agg u.cells,.agg m.cells] ⟨O,b,w⟩=some (.bool (methodU W u m),⟨O,b,w⟩):=by
 have hmd:m.desc.length≤9223372036854775807:=hm.desc;have hmn:m.name.length≤9223372036854775807:=hm.name;have h37:=fun w=>s37 (os:=O) (b:=b) (w:=w) (s:=m.desc) hmd hb
 have hcm:m.cells=[.bool m.st,.str m.name,.str m.desc,.int .i64 m.stack,.int .i64 m.locals,.slice m.ca m.code.length m.cc,.slice m.ta m.traps.length m.tc,.slice m.xa m.maps.length m.xc]:=rfl;have hcu:u.cells=[.str u.name,.str u.super,.slice u.fa u.fields.length u.fc,.slice u.ma u.meths.length u.mc]:=rfl;unfold methodU;cases hq:methL m.desc with
 | none =>
  rw [hq] at h37;simp only [methV,methO] at h37;have h158:=fun w=>s158 (O:=O) (b:=b) (w:=w) hmn
  cases c0:isName m.name with
  | false=>simp (disch:=omega) [-List.all_eq_true,av t157,code157,h37,h158,nltT,nltF,iltT,ileT,nleT,hcm,hcu,c0]
  | true=>simp (disch:=omega) [-List.all_eq_true,av t157,code157,h37,h158,nltT,nltF,iltT,ileT,nleT,hcm,hcu,c0]
 | some q =>
  obtain ⟨A,r⟩:=q;obtain ⟨q1,q2,q3⟩:=methL_len hq;have hp1:=methO_pre O (methL m.desc);rw [hq] at h37 hp1;have hW1:=hW.pre hp1;have hm1:=hm.pre hp1
  have hrow:Row (methO O (some (A,r))) 1 dt A (argA O.length A):=by
   cases A with
   | nil=>exact ⟨fun h=>absurd rfl h⟩
   | cons x A=>exact Row.mk0 (fun _=>rfl) (by simp only [methO]; rw [dj,ut]; rfl)
  have hv:methV O.length (some (A,r)) = .tuple [.slice (argA O.length A) A.length (argC A),.str r,.int .i64 0]:=by cases A <;> rfl
  rw [hv] at h37;have hb1:b≤(methO O (some (A,r))).length:=dr hb hp1.len;have hlenO:=hp1.len;clear hv;generalize argA O.length A=aa at h37 hrow;generalize argC A=cc at h37;generalize methO O (some (A,r))=H at h37 hp1 hW1 hm1 hrow hb1 hlenO;have h158:=fun w=>s158 (O:=H) (b:=b) (w:=w) hmn
  have h159:=fun w=>s159 (b:=b) (w:=w) (c:=c) hW1.r hW1.len hW1.low (t:=r) (by omega)
  have hk1:=fun x4 x5 w k=>l157a (b:=b) (c:=c) (cc:=cc) (x4:=x4) (x5:=x5) hW1.r hW1.len hW1.low hrow (by omega) (fun t ht=>by have:=q3 t ht; omega) A.length 0 w (by omega) k
  have hk2:=fun x4 x5 w k=>l157t (b:=b) (c:=c) (cc:=m.tc) (x4:=x4) (x5:=x5) hW1.r hW1.len hW1.low hm1.t hm1.tn m.traps.length 0 w (by omega) k
  have h112:=fun w=>s112 (b:=b) (w:=w) (c:=c) hW1.r hW1.n hW1.low hb1 (n:=u.name)
  rw [xk] at h112;have hlen:(iu W (W.length+1) u.name).length≤W.length+1:=ux _ _ _;have hWn:=hW.n
  have hmem:∀ v ∈ iu W (W.length+1) u.name,Row (rowO H (iu W (W.length+1) u.name)) 8 MethU.cells v.meths v.ma∧v.meths.length≤9223372036854775807:=fun v hv=>by have:=hW1.ok v (lineU_mem hv);exact ⟨(rowO_pre _ _).row this.m,this.mn⟩
  have hk3:=fun cc w k=>l157l (b:=b) (cc:=cc) (m:=m) row_rowO (by omega) hmem (iu W (W.length+1) u.name).length 0 w (by omega) k
  simp only [bh,dy] at hk1 hk2 hk3;generalize iu W (W.length+1) u.name=L at *;generalize (if L=[] then none else some (H.length,0))=la at h112 hk3;generalize (if L=[] then some 0 else none:Option Nat)=lc at h112;generalize rowO H L=H2 at h112 hk3;rw [hcm,hcu] at *;simp only;cases c0:isName m.name with
  | false=>simp (disch:=omega) [-List.all_eq_true,av t157,code157,h37,h158,nltT,nltF,iltT,ileT,nleT,c0]
  | true =>
   cases c1:thereU W r with
   | false=>simp (disch:=omega) [-List.all_eq_true,av t157,code157,h37,h158,nltT,nltF,iltT,ileT,nleT,h159,c0,c1]
   | true =>
    cases c2:A.all (thereU W) with
    | false =>
     simp only [c2,am,if_false] at hk1;simp (disch:=omega) [-List.all_eq_true,av t157,code157,h37,h158,nltT,nltF,iltT,ileT,nleT,h159,hk1,c0,c1,c2]
    | true =>
     simp only [c2,if_true] at hk1;cases c3:m.traps.all (trapU W) with
     | false =>
      simp only [c3,am,if_false] at hk2;simp (disch:=omega) [-List.all_eq_true,av t157,code157,h37,h158,nltT,nltF,iltT,ileT,nleT,h159,hk1,hk2,c0,c1,c2,c3]
     | true =>
      simp only [c3,if_true] at hk2;cases c4:L.all (evenM m) with
      | false =>
       simp only [c4,am,if_false] at hk3;simp (disch:=omega) [-List.all_eq_true,av t157,code157,h37,h158,nltT,nltF,iltT,ileT,nleT,h159,hk1,hk2,hk3,h112,c0,c1,c2,c3,c4]
      | true =>
       simp only [c4,if_true] at hk3;simp (disch:=omega) [-List.all_eq_true,av t157,code157,h37,h158,nltT,nltF,iltT,ileT,nleT,h159,hk1,hk2,hk3,h112,c0,c1,c2,c3,c4]
end
end Go.Abs.Zh

namespace Go.Abs.Zh
open Go.Abs.Zd
variable {os O H:List AObj} {b w:Nat}
theorem zbp {α:Type} {e:Nat} {f:α→List AVal} {L:List α} {a:Option (Nat × Nat)} (h:Row H e f L a) (i:Nat):Row H e f (L.take i) a :=
 ⟨fun hne=>by obtain ⟨p,o,cs,h1,h2,h3⟩:=h.at' (fun e=>hne (by rw [e,List.take_nil]));refine ⟨p,o,cs,h1,h2,fun j x hx=>h3 j x ?_⟩;have hj:=aj hx;rw [List.length_take] at hj;rw [fb (by omega)] at hx;exact hx⟩
section
attribute [-simp] getElem?_pos getElem?_neg
theorem l106f {L:List FieldU} {a:Option (Nat × Nat)} {c:Option Nat} {f:FieldU} {x0 x50 x51 x52:AVal} {x3:List AVal} (hR:Row H 3 FieldU.cells L a) (hL:L.length≤9223372036854775807):∀ (j i:Nat) (w:Nat),i+j=L.length→∀ (k:AExit→St→Option (AVal × Heap)),
  xK T (.loop code106L2) ⟨[(0,.val x0),(3,.var x3),(7,.var f.cells),(50,.val x50),(51,.val x51),(52,.val x52),(77,.val (.slice a L.length c)),(78,.val (.int .i64 L.length)),(79,.val (.int .i64 i))],⟨H,b,w⟩⟩ (k:=⟨k⟩) =
   if (L.drop i).all (fun g=>!decide (f.name=g.name)) then k (.exit 2) ⟨[(0,.val x0),(3,.var x3),(50,.val x50),(51,.val x51),(52,.val x52)],⟨H,b,w⟩⟩ else k .ret ⟨[(4,.val (.bool false))],⟨H,b,w⟩⟩
 | 0,i,w,hi,k=>by rw [ce,br (by omega)];simp (disch:=omega) [code106L2,iltF]
 | j+1,i,w,hi,k=>by
  obtain ⟨g,hx⟩:∃ g,L[i]? = some g:=⟨_,ah (by omega)⟩;obtain ⟨p,o,cs,rfl,hp,hpl,hcs,hv⟩:=jt hR hx;have ih:=l106f (c:=c) (f:=f) (x0:=x0) (x50:=x50) (x51:=x51) (x52:=x52) (x3:=x3) hR hL j (i+1) w (by omega) k;have e2:((i+1:Nat):Int)=(i:Int)+1:=by omega
  rw [e2] at ih;unfold FieldU.cells at hv ih ⊢;rw [ce,jn hx];simp only [dz];generalize ACode.loop code106L2=L' at ih ⊢;by_cases c1:f.name=g.name
  ·simp only [c1,decide_true,Bool.not_true,eb];simp (disch:=omega) [-List.all_eq_true,gz,gs,code106L2,nltT,nltF,iltT,ileT,nleT,dg,hp,hv,c1]
  ·simp only [decide_eq_false c1,nr,dh];simp (disch:=omega) [-List.all_eq_true,gz,gs,code106L2,nltT,nltF,iltT,ileT,nleT,dg,hp,hv,c1,ih]
theorem l106m {L:List MethU} {a:Option (Nat × Nat)} {c:Option Nat} {m:MethU} {x0 x91 x92 x93:AVal} {x3:List AVal} (hR:Row H 8 MethU.cells L a) (hL:L.length≤9223372036854775807):∀ (j i:Nat) (w:Nat),i+j=L.length→∀ (k:AExit→St→Option (AVal × Heap)),
  xK T (.loop code106L0) ⟨[(0,.val x0),(3,.var x3),(11,.var m.cells),(91,.val x91),(92,.val x92),(93,.val x93),(106,.val (.slice a L.length c)),(107,.val (.int .i64 L.length)),(108,.val (.int .i64 i))],⟨H,b,w⟩⟩ (k:=⟨k⟩) =
   if (L.drop i).all (fun g=>!(decide (m.name=g.name) && decide (m.desc=g.desc))) then k (.exit 6) ⟨[(0,.val x0),(3,.var x3),(91,.val x91),(92,.val x92),(93,.val x93)],⟨H,b,w⟩⟩ else k .ret ⟨[(4,.val (.bool false))],⟨H,b,w⟩⟩
 | 0,i,w,hi,k=>by rw [ce,br (by omega)];simp (disch:=omega) [code106L0,iltF]
 | j+1,i,w,hi,k=>by
  obtain ⟨g,hx⟩:∃ g,L[i]? = some g:=⟨_,ah (by omega)⟩;obtain ⟨p,o,cs,rfl,hp,hpl,hcs,hv⟩:=jt hR hx;have ih:=l106m (c:=c) (m:=m) (x0:=x0) (x91:=x91) (x92:=x92) (x93:=x93) (x3:=x3) hR hL j (i+1) w (by omega) k;have e2:((i+1:Nat):Int)=(i:Int)+1:=by omega
  rw [e2] at ih;unfold MethU.cells at hv ih ⊢;rw [ce,jn hx];simp only [dz];generalize ACode.loop code106L0=L' at ih ⊢;by_cases c1:m.name=g.name
  ·by_cases c2:m.desc=g.desc
   ·simp only [c1,c2,decide_true,Bool.and_self,Bool.not_true,eb];simp (disch:=omega) [-List.all_eq_true,gz,gs,code106L0,nltT,nltF,iltT,ileT,nleT,dg,hp,hv,c1,c2]
   ·simp only [decide_eq_false c2,Bool.and_false,nr,dh];rw [c1] at ih;simp (disch:=omega) [-List.all_eq_true,gz,gs,code106L0,nltT,nltF,iltT,ileT,nleT,dg,hp,hv,c1,c2,ih]
  ·simp only [decide_eq_false c1,eb,nr,dh];simp (disch:=omega) [-List.all_eq_true,gz,gs,code106L0,nltT,nltF,iltT,ileT,nleT,dg,hp,hv,c1,ih]
end
def fieldsU (W:List UnitU):List FieldU→List FieldU→Bool
 | _,[]=>true
 | A,f :: r=>isName f.name && (isTy f.desc && (thereU W f.desc && (A.all (fun g=>!decide (f.name=g.name)) && fieldsU W (A++[f]) r)))
def methsU (W:List UnitU) (u:UnitU):List MethU→List MethU→Bool
 | _,[]=>true
 | A,m :: r=>methodU W u m && (A.all (fun g=>!(decide (m.name=g.name) && decide (m.desc=g.desc))) && methsU W u (A++[m]) r)
theorem yh {n i:Nat} {c:Option Nat} (hi:i≤n) (hc:∀ k,c=some k→n≤k):bounds n c none (some (.int .i64 i)) none=some (0,i,c):=by
 unfold bounds upTo lowB;cases c with
 | none =>
  simp only [li];rw [if_pos ⟨by omega,by omega⟩];simp
 | some k =>
  have:=hc k rfl;simp only [cr];rw [if_pos ⟨by omega,by omega⟩];simp
section
attribute [-simp] getElem?_pos getElem?_neg
theorem l106F {W:List UnitU} {a:Option (Nat × Nat)} {c:Option Nat} (hW:Units O W a) {u:UnitU} (hu:u.ok O) (hc:u.cap) (hb:b≤O.length):∀ (j i:Nat) (w:Nat),i+j=u.fields.length→∀ (k:AExit→St→Option (AVal × Heap)),
  xK T (.loop code106L3) ⟨[(0,.val (.slice a W.length c)),(3,.var u.cells),(50,.val (.slice u.fa u.fields.length u.fc)),(51,.val (.int .i64 u.fields.length)),(52,.val (.int .i64 i))],⟨O,b,w⟩⟩ (k:=⟨k⟩) =
   if fieldsU W (u.fields.take i) (u.fields.drop i) then k (.exit 0) ⟨[(0,.val (.slice a W.length c)),(3,.var u.cells)],⟨O,b,w⟩⟩ else k .ret ⟨[(4,.val (.bool false))],⟨O,b,w⟩⟩
 | 0,i,w,hi,k=>by rw [ce,br (by omega)];simp (disch:=omega) [code106L3,iltF,fieldsU]
 | j+1,i,w,hi,k=>by
  obtain ⟨f,hx⟩:∃ f,u.fields[i]? = some f:=⟨_,ah (by omega)⟩;obtain ⟨p,o,cs,ha,hp,hpl,hcs,hv⟩:=jt hu.f hx;have hfn:u.fields.length≤9223372036854775807:=hu.fn;obtain ⟨hn1,hn2⟩:=hu.fok f (bq hx);have ih:=l106F (c:=c) hW hu hc hb j (i+1) w (by omega) k;have e2:((i+1:Nat):Int)=(i:Int)+1:=by omega
  rw [e2,pu hx] at ih;have h158:=fun w=>s158 (O:=O) (b:=b) (w:=w) (s:=f.name) hn1
  have h28:=fun w=>s28 (os:=O) (b:=b) (w:=w) (s:=f.desc) hn2
  have h159:=fun w=>s159 (b:=b) (w:=w) (c:=c) hW.r hW.len hW.low (t:=f.desc) hn2
  have hbd:=yh (n:=u.fields.length) (i:=i) (c:=u.fc) (by omega) hc.f;have hlt:(u.fields.take i).length=i:=by rw [List.length_take]; omega
  have hin:=fun (x0 x50 x51 x52:AVal) x3 c w k=>l106f (b:=b) (c:=c) (f:=f) (x0:=x0) (x50:=x50) (x51:=x51) (x52:=x52) (x3:=x3) (zbp hu.f i) (by omega) i 0 w (by omega) k
  simp only [bh,dy,hlt] at hin;have hcu:u.cells=[.str u.name,.str u.super,.slice u.fa u.fields.length u.fc,.slice u.ma u.meths.length u.mc]:=rfl;rw [hcu] at ih ⊢;rw [ha] at hin ih ⊢;unfold FieldU.cells at hv hin;rw [ce,jn hx];simp only [fieldsU];generalize ACode.loop code106L3=L' at ih ⊢;rcases aw (isName f.name) with c1 | c1
  ·rcases aw (isTy f.desc) with c2 | c2
   ·rcases aw (thereU W f.desc) with c3 | c3
    ·rcases aw ((u.fields.take i).all fun g=>!decide (f.name=g.name)) with c4 | c4
     ·rw [c4] at hin;simp only [c1,c2,c3,c4,dh,if_true] at hin ⊢;simp (disch:=omega) [-List.all_eq_true,gz,gs,code106L3,nltT,nltF,iltT,ileT,nleT,dg,-bounds,hbd,h158,h28,h159,hin,hp,hv,c1,c2,c3,ih]
     ·rw [c4] at hin;simp only [c1,c2,c3,c4,dh,eb,am,if_false] at hin ⊢;simp (disch:=omega) [-List.all_eq_true,gz,gs,code106L3,nltT,nltF,iltT,ileT,nleT,dg,-bounds,hbd,h158,h28,h159,hin,hp,hv,c1,c2,c3]
    ·simp only [c1,c2,c3,dh,eb,am,if_false];simp (disch:=omega) [-List.all_eq_true,gz,gs,code106L3,nltT,nltF,iltT,ileT,nleT,dg,h158,h28,h159,hp,hv,c1,c2,c3]
   ·simp only [c1,c2,dh,eb,am,if_false];simp (disch:=omega) [-List.all_eq_true,gz,gs,code106L3,nltT,nltF,iltT,ileT,nleT,dg,h158,h28,hp,hv,c1,c2]
  ·simp only [c1,eb,am,if_false];simp (disch:=omega) [-List.all_eq_true,gz,gs,code106L3,nltT,nltF,iltT,ileT,nleT,dg,h158,hp,hv,c1]
end
section
attribute [-simp] getElem?_pos getElem?_neg List.all_eq_true
attribute [local simp] gz gs nltT nltF iltT iltF ileT nleT dg
theorem l106M {W:List UnitU} {a:Option (Nat × Nat)} {c:Option Nat} (hW:Units O W a) {u:UnitU} (hu:u.ok O) (hc:u.cap) (hb:b≤O.length):∀ (j i:Nat) (w:Nat),i+j=u.meths.length→∀ (k:AExit→St→Option (AVal × Heap)),
  xK T (.loop code106L1) ⟨[(0,.val (.slice a W.length c)),(3,.var u.cells),(91,.val (.slice u.ma u.meths.length u.mc)),(92,.val (.int .i64 u.meths.length)),(93,.val (.int .i64 i))],⟨O,b,w⟩⟩ (k:=⟨k⟩) =
   if methsU W u (u.meths.take i) (u.meths.drop i) then k (.exit 4) ⟨[],⟨O,b,w⟩⟩ else k .ret ⟨[(4,.val (.bool false))],⟨O,b,w⟩⟩
 | 0,i,w,hi,k=>by rw [ce,br (by omega)];simp (disch:=omega) [code106L1,methsU]
 | j+1,i,w,hi,k=>by
  obtain ⟨m,hx⟩:∃ m,u.meths[i]? = some m:=⟨_,ah (by omega)⟩;obtain ⟨p,o,cs,ha,hp,hpl,hcs,hv⟩:=jt hu.m hx;have hfn:u.meths.length≤9223372036854775807:=hu.mn;have ih:=l106M (c:=c) hW hu hc hb j (i+1) w (by omega) k;have e2:((i+1:Nat):Int)=(i:Int)+1:=by omega
  rw [e2,pu hx] at ih;have h157:=fun w=>s157 (b:=b) (w:=w) (c:=c) hW (u:=u) (hu.mok m (bq hx)) hb
  have hbd:=yh (n:=u.meths.length) (i:=i) (c:=u.mc) (by omega) hc.m;have hlt:(u.meths.take i).length=i:=by rw [List.length_take]; omega
  have hin:=fun (x0 x91 x92 x93:AVal) x3 c w k=>l106m (b:=b) (c:=c) (m:=m) (x0:=x0) (x91:=x91) (x92:=x92) (x93:=x93) (x3:=x3) (zbp hu.m i) (by omega) i 0 w (by omega) k
  simp only [bh,dy,hlt] at hin;have hcu:u.cells=[.str u.name,.str u.super,.slice u.fa u.fields.length u.fc,.slice u.ma u.meths.length u.mc]:=rfl;have hcl:m.cells.length=8:=rfl;rw [hcu] at ih h157 ⊢;rw [ha] at hin ih h157 ⊢;rw [ce,jn hx];simp only [methsU];generalize ACode.loop code106L1=L' at ih ⊢;unfold MethU.cells at hv hin h157;rcases aw (methodU W u m) with c1 | c1
  ·rcases aw ((u.meths.take i).all fun g=>!(decide (m.name=g.name) && decide (m.desc=g.desc))) with c4 | c4
   ·rw [c4] at hin;simp only [c1,c4,dh,if_true] at hin ⊢;simp (disch:=omega) [code106L1,-bounds,hbd,h157,hin,hp,hv,c1,ih]
   ·rw [c4] at hin;simp only [c1,c4,dh,eb,am,if_false] at hin ⊢;simp (disch:=omega) [code106L1,-bounds,hbd,h157,hin,hp,hv,c1]
  ·simp only [c1,eb,am,if_false];simp (disch:=omega) [code106L1,-bounds,hbd,h157,hp,hv,c1]
end
def lastName (l:List UnitU):Str:=((l.getLast?).map UnitU.name).getD []
def unitU (W:List UnitU) (u:UnitU):Bool :=
 im u.name && (!decide (u.super=sysT) && (decide (2≤(iu W (W.length+1) u.name).length) && (decide ((iu W (W.length+1) u.name).length≤W.length) && (decide (lastName (iu W (W.length+1) u.name)=objectT) && (fieldsU W [] u.fields && methsU W u [] u.meths)))))
end Go.Abs.Zh

namespace Go.Abs.Zh
open Go.Abs.Zd
variable {os O H:List AObj} {b w:Nat}
theorem getLast_at {L:List UnitU} {x:UnitU} (h:L[L.length - 1]? = some x):lastName L=x.name:=by unfold lastName;rw [List.getLast?_eq_getElem?,h]; rfl
section
attribute [-simp] getElem?_pos getElem?_neg List.all_eq_true
attribute [local simp] gz gs nltT nltF iltT iltF ileT nleT dg
theorem s106 {W:List UnitU} {a:Option (Nat × Nat)} {c:Option Nat} (hW:Units O W a) {u:UnitU} (hu:u.ok O) (hc:u.cap) (hb:b≤O.length) :
  xCall T 106 [.slice a W.length c,.agg u.cells] ⟨O,b,w⟩=some (.bool (unitU W u),⟨O,b,w⟩):=by
 have h112:=fun w=>s112 (b:=b) (w:=w) (c:=c) hW.r hW.n hW.low hb (n:=u.name)
 have hun:u.name.length≤9223372036854775807:=hu.name;have h26:=fun O w=>s26 (os:=O) (b:=b) (w:=w) (s:=u.name) hun
 have hlen:(iu W (W.length+1) u.name).length≤W.length+1:=ux _ _ _;have hn:=hW.n;have hcu:u.cells=[.str u.name,.str u.super,.slice u.fa u.fields.length u.fc,.slice u.ma u.meths.length u.mc]:=rfl;unfold unitU sysT objectT;generalize hl:iu W (W.length+1) u.name=l at *;have hpre:=rowO_pre O l;have hb':b≤(rowO O l).length:=dr hb hpre.len;have hF:=fun w k=>l106F (b:=b) (c:=c) (hW.pre hpre) (hu.pre hpre) hc hb' u.fields.length 0 w (by omega) k
 have hM:=fun w k=>l106M (b:=b) (c:=c) (hW.pre hpre) (hu.pre hpre) hc hb' u.meths.length 0 w (by omega) k
 simp only [bh,List.take_zero,dy] at hF hM;rw [hcu] at hF hM ⊢;rcases aw (im u.name) with c1 | c1
 ·by_cases c2:u.super=[115,121,115]
  ·simp only [c1,decide_eq_true c2,Bool.not_true,dh,eb];rw [xk] at h112;generalize (if l=[] then none else some (O.length,0))=aa at h112;generalize (if l=[] then some 0 else none)=cc at h112;generalize rowO O l=HH at h112;simp (disch:=omega) [av t106,code106,h112,h26,c1,c2]
  ·by_cases c3:2≤l.length
   ·have hne:l≠[]:=by rintro rfl; simp at c3
    obtain ⟨x,hx⟩:∃ x,l[l.length - 1]? = some x:=⟨_,ah (by omega)⟩;have hR:=row_rowO (O:=O) (L:=l);obtain ⟨p,o,cs,ha,hp,hpl,hcs,hv⟩:=jt hR hx;rw [xk,ha] at h112;rw [getLast_at hx];have hsub:(l.length:Int) - 1=((l.length - 1:Nat):Int):=by omega
    have hcx:(cs.drop (o+(l.length - 1)*4)).take 4=[.str x.name,.str x.super,.slice x.fa x.fields.length x.fc,.slice x.ma x.meths.length x.mc]:=hv
    have hx0:cs[o+(l.length - 1)*4]? = some (.str x.name):=by have:=congrArg (fun z=>z[0]?) hcx;simpa [xp,ed] using this
    generalize (if l=[] then some 0 else none)=cc at h112;generalize rowO O l=HH at *;have n3:¬ ((l.length:Int) < 2):=by omega
    simp only [c1,decide_eq_false c2,decide_eq_true c3,nr,dh];by_cases c4:l.length≤W.length
    ·have n4:¬ ((W.length:Int) < l.length):=by omega
     simp only [decide_eq_true c4,dh];by_cases c5:x.name=[79,98,106,101,99,116]
     ·simp only [decide_eq_true c5,dh];rcases aw (fieldsU W [] u.fields) with c6 | c6
      ·simp only [c6,if_true,dh] at hF ⊢;rcases aw (methsU W u [] u.meths) with c7 | c7
       ·simp only [c7,if_true] at hM ⊢;simp (disch:=omega) [av t106,code106,h112,h26,c1,c2,n3,n4,hp,hsub,hx0,c5,hF,hM]
       ·simp only [c7,am,if_false] at hM ⊢;simp (disch:=omega) [av t106,code106,h112,h26,c1,c2,n3,n4,hp,hsub,hx0,c5,hF,hM]
      ·simp only [c6,am,if_false,eb] at hF ⊢;simp (disch:=omega) [av t106,code106,h112,h26,c1,c2,n3,n4,hp,hsub,hx0,c5,hF]
     ·simp only [decide_eq_false c5,eb];simp (disch:=omega) [av t106,code106,h112,h26,c1,c2,n3,n4,hp,hsub,hx0,c5]
    ·have n4:(W.length:Int) < l.length:=by omega
     simp only [decide_eq_false c4,eb];simp (disch:=omega) [av t106,code106,h112,h26,c1,c2,n3,n4]
   ·have n3:(l.length:Int) < 2:=by omega
    simp only [c1,decide_eq_false c2,decide_eq_false c3,nr,dh,eb];rw [xk] at h112;generalize (if l=[] then none else some (O.length,0))=aa at h112;generalize (if l=[] then some 0 else none)=cc at h112;generalize rowO O l=HH at h112;simp (disch:=omega) [av t106,code106,h112,h26,c1,c2,n3]
 ·simp only [c1,eb];rw [xk] at h112;generalize (if l=[] then none else some (O.length,0))=aa at h112;generalize (if l=[] then some 0 else none)=cc at h112;generalize rowO O l=HH at h112;simp (disch:=omega) [av t106,code106,h112,h26,c1]
end
end Go.Abs.Zh

namespace Go.Abs.Zh
open Go.Abs.Zd
variable {os O H:List AObj} {b w:Nat}
def natM (x:Str × Str):MethU:=⟨true,x.1,x.2,0,0,[],none,some 0,[],none,some 0,[],none,some 0⟩
def plainU (n s:Str):UnitU:=⟨n,s,[],none,some 0,[],none,some 0⟩
def sysU (m:Nat):UnitU:=⟨sysT,objectT,[],none,some 0,natL.map natM,some (m,0),some 8⟩
def built3 (m:Nat):List UnitU:=[plainU objectT [],plainU throwT objectT,sysU m]
def faultU (n:Str):UnitU:=plainU n throwT
def builtU (m:Nat):List UnitU:=built3 m++faultsL.map faultU
def natO:AObj:=.cells 8 ((natL.map natM).flatMap MethU.cells)
section
attribute [-simp] getElem?_pos getElem?_neg List.all_eq_true
attribute [local simp] gz gs nltT nltF iltT iltF ileT nleT dg
theorem s115 {n d:Str} {h:Heap}:xCall T 115 [.str n,.str d] h=some (.agg (natM (n,d)).cells,h):=by obtain ⟨os,b,w⟩:=h;simp (disch:=omega) [av t115,code115,natM,MethU.cells]
theorem l108 {m q lo:Nat} (hlo:lo≤os.length) (hb:b≤os.length) (hq:os.length≤q):∀ (j i p:Nat) (M:List AObj) (cc:Option Nat) (w:Nat),i+j=6→lo≤w→Pre os M→p≠q→os.length≤p→(cc=none∨(cc=some 3∧i=0)) →
  M[p]? = some (.cells 4 ((built3 m++(faultsL.take i).map faultU).flatMap UnitU.cells))→M[q]? = some (.cells 1 (faultsL.flatMap dt)) →
  ∃ M' p' w',lo≤w'∧Pre os M'∧os.length≤p'∧M'[p']? = some (.cells 4 ((builtU m).flatMap UnitU.cells))∧∀ (k:AExit→St→Option (AVal × Heap)),
  xK T (.loop code108L0) ⟨[(2,.val (.slice (some (p,0)) (3+i) cc)),(19,.val (.slice (some (q,0)) 6 (some 6))),(20,.val (.int .i64 6)),(21,.val (.int .i64 i))],⟨M,b,w⟩⟩ (k:=⟨k⟩) =
   k (.exit 0) ⟨[(2,.val (.slice (some (p',0)) 9 none))],⟨M',b,w'⟩⟩
 | 0,i,p,M,cc,w,hi,hw,hM,hpq,hp,hc,h1,h2=>by
  have:i=6:=by omega
  subst this;obtain rfl:cc=none:=by (rcases hc with h | ⟨_,h⟩ <;> first | exact h | omega)
  refine ⟨M,p,w,hw,hM,hp,h1,fun k=>?_⟩;rw [ce];simp (disch:=omega) [code108L0]
 | j+1,i,p,M,cc,w,hi,hw,hM,hpq,hp,hc,h1,h2=>by
  obtain ⟨x,hx⟩:∃ x,faultsL[i]? = some x:=⟨_,ah (show i < 6 by omega)⟩;have hpl:=aj h1;have hql:=aj h2
  have hx2:(faultsL.flatMap dt)[i]? = some (.str x):=by have:faultsL.flatMap dt=faultsL.map AVal.str:=rfl;rw [this,db,hx]; rfl
  generalize hA:built3 m++(faultsL.take i).map faultU=A at *
  have hAl:A.length=3+i:=by rw [← hA]; simp [built3,faultsL]; omega
  have hfl:(A.flatMap UnitU.cells).length=A.length*4:=pa UnitU.cells 4 (fun _=>rfl) A
  have hA2:built3 m++(faultsL.take (i+1)).map faultU=A++[faultU x]:=by rw [pu hx,jp,← bl,hA]; rfl
  have e2:((i+1:Nat):Int)=(i:Int)+1:=by omega
  have e3:(3+(i+1))=3+i+1:=by omega
  have hMl:=hM.len;have hbp:b≤p:=by omega
  have hz:∀ X w,gx 4 ⟨M++X,b,w⟩ (.slice (some (p,0)) (3+i) cc)=some (A.flatMap UnitU.cells):=fun X w=>ly (by show (M++X)[p]? = _; rw [ag hpl]; exact h1) (by omega)
  have hp1:∀ X,(M++X)[p]? = some (.cells 4 (A.flatMap UnitU.cells)):=fun X=>by rw [ag hpl]; exact h1
  have hset:∀ X y,(M++X).set p y=M.set p y++X:=fun X y=>by rw [tk _ _ hpl]
  have hfc:(faultU x).cells=[.str x,.str throwT,.slice none 0 (some 0),.slice none 0 (some 0)]:=rfl;have hz2:∀ w,gx 4 ⟨M++[.cells 4 [.str x,.str [84,104,114,111,119,97,98,108,101],.slice none 0 (some 0),.slice none 0 (some 0)]],b,w⟩ (.slice (some (M.length,0)) 1 (some 1))=some [.str x,.str [84,104,114,111,119,97,98,108,101],.slice none 0 (some 0),.slice none 0 (some 0)]:=fun w=>ly (by rw [dj]; rfl) rfl
  rcases hc with rfl | ⟨rfl,rfl⟩
  ·obtain ⟨M',p',w',r1,r2,r3,r5,ih⟩:=l108 (m:=m) hlo hb hq j (i+1) (M.length+1) (M.set p .dead++[.cells 4 (faultU x).cells,.cells 4 ((A++[faultU x]).flatMap UnitU.cells)]) none (min w p) (by omega) (by omega) ((hM.set _ hp).trans (Pre.app _ _)) (by omega) (by omega) (.inl rfl)
    (by rw [hA2,show M.length+1=(M.set p .dead).length+1 by simp,d8]; rfl) (by rw [ag (by simp; omega),au hpq]; exact h2)
   refine ⟨M',p',w',r1,r2,r3,r5,fun k=>?_⟩;have ih:=ih k;rw [e2,e3,iz] at ih;rw [ce,← ih];generalize ACode.loop code108L0=L';simp only [cj,ju,cq,hfc,throwT];simp (disch:=omega) [code108L0,-gx,hz,hz2,hp1,h2,hx2,d8,dj,hset]
  ·obtain ⟨M',p',w',r1,r2,r3,r5,ih⟩:=l108 (m:=m) hlo hb hq j (0+1) (M.length+1) (M++[.cells 4 (faultU x).cells,.cells 4 ((A++[faultU x]).flatMap UnitU.cells)]) none w (by omega) (by omega) (hM.trans (Pre.app _ _)) (by omega) (by omega) (.inl rfl)
    (by rw [hA2,d8]; rfl) (by rw [ag (by omega)]; exact h2)
   refine ⟨M',p',w',r1,r2,r3,r5,fun k=>?_⟩;have ih:=ih k;rw [e2,e3,iz] at ih;rw [ce,← ih];generalize ACode.loop code108L0=L';simp only [cj,ju,cq,hfc,throwT];simp (disch:=omega) [code108L0,-gx,hz,hz2,hp1,h2,hx2,d8,dj,hset]
end
theorem yg (m:Nat):AVal.idsL ((builtU m).flatMap UnitU.cells)=[m]:=rfl
theorem ren_built (f:Nat→Nat) (m:Nat):AVal.renL f ((builtU m).flatMap UnitU.cells)=(builtU (f m)).flatMap UnitU.cells:=rfl
theorem zw:natO.ids=[]:=rfl
theorem ren_nat (f:Nat→Nat):natO.ren f=natO:=rfl
theorem builtU_fin {M:List AObj} {p w0 w2:Nat} (hM:Pre (O++[natO]) M) (hp:O.length+1≤p) (h1:M[p]? = some (.cells 4 ((builtU O.length).flatMap UnitU.cells))) (hw:O.length≤w2) :
  dx ⟨O,b,w0⟩ (.slice (some (p,0)) 9 none) ⟨M,b,w2⟩=(.slice (some (O.length,0)) 9 none,⟨O++[.cells 4 ((builtU (O.length+1)).flatMap UnitU.cells),natO],b,w0⟩):=by
 have h2:M[O.length]? = some natO:=hM _ _ (by rw [dj]; rfl)
 have hr:reach ⟨M,b,w2⟩ O.length 1000 [p] []=[p,O.length]:=by rw [jc,if_neg (by omega),if_neg (by simp)];simp only [Heap.get,h1,cf,cr,idsC,yg,cq,bw];rw [jc,if_neg (by omega),if_neg (by simp; omega)];simp only [Heap.get,h2,cf,cr,zw,cq,bw,ci];rfl
 have hv:AVal.under O.length (.slice (some (p,0)) 9 none)=false:=by simp [AVal.under]; omega
 have hw2:(⟨O,b,w0⟩:Heap).size≤(⟨M,b,w2⟩:Heap).wmin:=hw;refine (nk hw2 hv hr fun i hi=>?_).trans ?_
 ·simp only [AVal.ids,cj,ju,Heap.get,h1,h2,cf,cr,idsC,yg,zw,cq,ci,bw,cg,fo,or_false] at hi ⊢;omega
 ·have key:∀ f:Nat→Nat,f p=O.length→f O.length=O.length+1 →
    ((AVal.slice (some (p,0)) 9 none).ren f,(⟨O++[p,O.length].map fun i=>(((⟨M,b,w2⟩:Heap).get i).map (AObj.ren f)).getD .dead,b,w0⟩:Heap)) =
     (.slice (some (O.length,0)) 9 none,⟨O++[.cells 4 ((builtU (O.length+1)).flatMap UnitU.cells),natO],b,w0⟩):=by
   intro f e1 e2;simp only [AVal.ren,Heap.get,h1,h2,cf,cr,b0,f8,renC,e1,e2,ren_built,ren_nat]
  refine key _ ?_ ?_
  ·show (if p < O.length then p else _)=_
   rw [if_neg (by omega)]; simp [idxIn]
  ·have:p≠O.length:=by omega
   simp [idxIn,this]
theorem s108 (hb:b≤O.length):xCall T 108 [] ⟨O,b,w⟩=some (.slice (some (O.length,0)) 9 none,⟨O++[.cells 4 ((builtU (O.length+1)).flatMap UnitU.cells),natO],b,w⟩):=by
 have h115:=fun n d w=>s115 (n:=n) (d:=d) (h:=⟨O,b,w⟩)
 have hl:=l108 (os:=O++[natO]) (m:=O.length) (q:=O.length+2) (lo:=O.length) (b:=b) (by simp) (by simp; omega) (by simp) 6 0 (O.length+1) (O++[natO,.cells 4 ((built3 O.length).flatMap UnitU.cells),.cells 1 (faultsL.flatMap dt)]) (some 3) O.length (by simp) (ai _)
  (by have:=Pre.app (O++[natO]) [.cells 4 ((built3 O.length).flatMap UnitU.cells),.cells 1 (faultsL.flatMap dt)]; simpa using this) (by omega) (by simp) (.inr ⟨rfl,rfl⟩) (by rw [d8]; rfl) (by rw [d8]; rfl)
 obtain ⟨M',p',w',r1,r2,r3,r5,hk⟩:=hl;have hf:=fun w0=>builtU_fin (b:=b) (w0:=w0) r2 (by simpa using r3) r5 r1
 simp only [natM,MethU.cells,bp] at h115;simp only [bh,jj,natO,natL,natM,built3,plainU,sysU,faultsL,UnitU.cells,MethU.cells,dt,b0,f8,cj,ju,cq,ci,bw,bp,bg,objectT,throwT,sysT] at hk;simp (disch:=omega) [-getElem?_pos,-getElem?_neg,-List.all_eq_true,gz,gs,nltT,nltF,iltT,iltF,ileT,nleT,dg,av t108,code108,h115,-dx,bo,d8,dj,hk,hf]
end Go.Abs.Zh

namespace Go.Abs.Zh
open Go.Abs.Zd
variable {os O H:List AObj} {b w:Nat}
section
attribute [-simp] getElem?_pos getElem?_neg List.all_eq_true
attribute [local simp] gz gs nltT nltF iltT iltF ileT nleT dg
theorem l107a {L:List UnitU} {a:Option (Nat × Nat)} {c:Option Nat} {u:UnitU} {x0 x4 x17 x18 x19:AVal} (hR:Row H 4 UnitU.cells L a) (hL:L.length≤9223372036854775807):∀ (j i:Nat) (w:Nat),i+j=L.length→∀ (k:AExit→St→Option (AVal × Heap)),
  xK T (.loop code107L1) ⟨[(0,.val x0),(4,.val x4),(6,.var u.cells),(17,.val x17),(18,.val x18),(19,.val x19),(26,.val (.slice a L.length c)),(27,.val (.int .i64 L.length)),(28,.val (.int .i64 i))],⟨H,b,w⟩⟩ (k:=⟨k⟩) =
   if (L.drop i).all (fun v=>!decide (u.name=v.name)) then k (.exit 2) ⟨[(0,.val x0),(4,.val x4),(17,.val x17),(18,.val x18),(19,.val x19)],⟨H,b,w⟩⟩ else k .ret ⟨[(2,.val (.slice none 0 (some 0))),(3,.val (.bool false))],⟨H,b,w⟩⟩
 | 0,i,w,hi,k=>by rw [ce,br (by omega)];simp (disch:=omega) [code107L1]
 | j+1,i,w,hi,k=>by
  obtain ⟨v,hx⟩:∃ v,L[i]? = some v:=⟨_,ah (by omega)⟩;obtain ⟨p,o,cs,ha,hp,hpl,hcs,hv⟩:=jt hR hx;have ih:=l107a (c:=c) (u:=u) (x0:=x0) (x4:=x4) (x17:=x17) (x18:=x18) (x19:=x19) hR hL j (i+1) w (by omega) k;have e2:((i+1:Nat):Int)=(i:Int)+1:=by omega
  rw [e2] at ih;unfold UnitU.cells at ih hv ⊢;rw [ha] at ih ⊢;rw [ce,jn hx];simp only [dz];generalize ACode.loop code107L1=L' at ih ⊢;by_cases c1:u.name=v.name
  ·simp only [decide_eq_true c1,Bool.not_true,eb];simp (disch:=omega) [code107L1,hp,hv,c1]
  ·simp only [decide_eq_false c1,nr,dh];simp (disch:=omega) [code107L1,hp,hv,c1,ih]
end
def namesU:List UnitU→List UnitU→Bool
 | _,[]=>true
 | A,u :: r=>A.all (fun v=>!decide (u.name=v.name)) && namesU (A++[u]) r
section
attribute [-simp] getElem?_pos getElem?_neg List.all_eq_true
attribute [local simp] gz gs nltT nltF iltT iltF ileT nleT dg
theorem l107b {L:List UnitU} {a:Option (Nat × Nat)} {x0:AVal} (hR:Row H 4 UnitU.cells L a) (hL:L.length≤9223372036854775807):∀ (j i:Nat) (w:Nat),i+j=L.length→∀ (k:AExit→St→Option (AVal × Heap)),
  xK T (.loop code107L2) ⟨[(0,.val x0),(4,.val (.slice a L.length none)),(17,.val (.slice a L.length none)),(18,.val (.int .i64 L.length)),(19,.val (.int .i64 i))],⟨H,b,w⟩⟩ (k:=⟨k⟩) =
   if namesU (L.take i) (L.drop i) then k (.exit 0) ⟨[(0,.val x0),(4,.val (.slice a L.length none))],⟨H,b,w⟩⟩ else k .ret ⟨[(2,.val (.slice none 0 (some 0))),(3,.val (.bool false))],⟨H,b,w⟩⟩
 | 0,i,w,hi,k=>by rw [ce,br (by omega)];simp (disch:=omega) [code107L2,namesU]
 | j+1,i,w,hi,k=>by
  obtain ⟨u,hx⟩:∃ v,L[i]? = some v:=⟨_,ah (by omega)⟩;obtain ⟨p,o,cs,ha,hp,hpl,hcs,hv⟩:=jt hR hx;have ih:=l107b (x0:=x0) hR hL j (i+1) w (by omega) k;have e2:((i+1:Nat):Int)=(i:Int)+1:=by omega
  rw [e2,pu hx] at ih;have hlt:(L.take i).length=i:=by rw [List.length_take]; omega
  have hin:=fun (x4 x17 x18 x19:AVal) c w k=>l107a (b:=b) (c:=c) (u:=u) (x0:=x0) (x4:=x4) (x17:=x17) (x18:=x18) (x19:=x19) (zbp hR i) (by omega) i 0 w (by omega) k
  simp only [bh,dy,hlt] at hin;have hbd:=yh (n:=L.length) (i:=i) (c:=none) (by omega) (by simp);rw [ha] at hin ih ⊢;rw [ce,jn hx];simp only [namesU];generalize ACode.loop code107L2=L' at ih ⊢;unfold UnitU.cells at hv hin;rcases aw ((L.take i).all (fun v=>!decide (u.name=v.name))) with c4 | c4
  ·rw [c4] at hin;simp only [c4,dh,if_true] at hin ⊢;simp (disch:=omega) [code107L2,-bounds,hbd,hin,hp,hv,ih]
  ·rw [c4] at hin;simp only [c4,eb,am,if_false] at hin ⊢;simp (disch:=omega) [code107L2,-bounds,hbd,hin,hp,hv]
theorem l107c {W:List UnitU} {p:Option (Nat × Nat)} {cw:Option Nat} {L:List UnitU} {a:Option (Nat × Nat)} {c:Option Nat} (hW:Units H W p) (hR:Row H 4 UnitU.cells L a) (hL:L.length≤9223372036854775807) (hok:∀ u ∈ L,u.ok H∧u.cap) (hb:b≤H.length):∀ (j i:Nat) (w:Nat),i+j=L.length→∀ (k:AExit→St→Option (AVal × Heap)),
  xK T (.loop code107L0) ⟨[(4,.val (.slice p W.length cw)),(39,.val (.slice a L.length c)),(40,.val (.int .i64 L.length)),(41,.val (.int .i64 i))],⟨H,b,w⟩⟩ (k:=⟨k⟩) =
   if (L.drop i).all (unitU W) then k (.exit 4) ⟨[(4,.val (.slice p W.length cw))],⟨H,b,w⟩⟩ else k .ret ⟨[(2,.val (.slice none 0 (some 0))),(3,.val (.bool false))],⟨H,b,w⟩⟩
 | 0,i,w,hi,k=>by rw [ce,br (by omega)];simp (disch:=omega) [code107L0]
 | j+1,i,w,hi,k=>by
  obtain ⟨u,hx⟩:∃ v,L[i]? = some v:=⟨_,ah (by omega)⟩;obtain ⟨q,o,cs,ha,hp,hpl,hcs,hv⟩:=jt hR hx;have ih:=l107c (c:=c) (cw:=cw) hW hR hL hok hb j (i+1) w (by omega) k;have e2:((i+1:Nat):Int)=(i:Int)+1:=by omega
  rw [e2] at ih;obtain ⟨h1,h2⟩:=hok u (bq hx);have h106:=fun w=>s106 (b:=b) (w:=w) (c:=cw) hW h1 h2 hb
  rw [ha] at ih ⊢;rw [ce,jn hx];simp only [dz];generalize ACode.loop code107L0=L' at ih ⊢;unfold UnitU.cells at hv h106;rcases aw (unitU W u) with c4 | c4
  ·rw [c4] at h106;simp only [c4,dh];simp (disch:=omega) [code107L0,h106,hp,hv,ih]
  ·rw [c4] at h106;simp only [c4,eb,am,if_false];simp (disch:=omega) [code107L0,h106,hp,hv]
end
def iy (m:Nat) (l:List UnitU):List UnitU:=builtU m++l
def worldU (m:Nat) (l:List UnitU):Bool:=decide (l.length≤32) && (namesU [] (iy m l) && l.all (unitU (iy m l)))
theorem zbo {p n w0 w2:Nat} {l:List UnitU} (hl:l.length≤40) (hlow:∀ u ∈ l,u.low O.length) (hp:O.length≤p) (hp1:p≠O.length+1) (h1:H[p]? = some (.cells 4 ((iy (O.length+1) l).flatMap UnitU.cells))) (h2:H[O.length+1]? = some natO) (hw:O.length≤w2) :
  dx ⟨O,b,w0⟩ (.tuple [.slice (some (p,0)) n none,.bool true]) ⟨H,b,w2⟩=(.tuple [.slice (some (O.length,0)) n none,.bool true],⟨O++[.cells 4 ((iy (O.length+1) l).flatMap UnitU.cells),natO],b,w0⟩):=by
 have hi:AVal.idsL ((iy (O.length+1) l).flatMap UnitU.cells)=(O.length+1) :: AVal.idsL (l.flatMap UnitU.cells):=by unfold iy; rw [iz,pb,yg]; rfl
 have hlen:=qn (L:=l);have hids:=yi hlow
 have hr:reach ⟨H,b,w2⟩ O.length 1000 [p] []=[p,O.length+1]:=by rw [jc,if_neg (by omega),if_neg (by simp)];simp only [Heap.get,h1,cf,cr,idsC,hi,cq,bw];rw [jc,if_neg (by omega),if_neg (by simp; omega)];simp only [Heap.get,h2,cf,cr,zw,cq,bw,ci];exact yk _ _ (by omega) hids
 have hv:AVal.under O.length (.tuple [.slice (some (p,0)) n none,.bool true])=false:=by simp [AVal.under,AVal.unders]; omega
 have hw2:(⟨O,b,w0⟩:Heap).size≤(⟨H,b,w2⟩:Heap).wmin:=hw;refine (nk (k:=[p,O.length+1]) hw2 hv (by simpa [AVal.ids,AVal.idsL] using hr) fun i hi'=>?_).trans ?_
 ·simp only [AVal.ids,AVal.idsL,cj,ju,Heap.get,h1,h2,cf,cr,idsC,hi,zw,cq,ci,bw,cg,fo,or_false] at hi' ⊢;show i < O.length∨_;rcases hi' with h | h | h
  ·exact .inr (.inl h)
  ·exact .inr (.inr h)
  ·exact .inl (hids i h)
 ·have key:∀ f:Nat→Nat,f p=O.length→f (O.length+1)=O.length+1→(∀ i,i < O.length→f i=i) →
    ((AVal.tuple [.slice (some (p,0)) n none,.bool true]).ren f,(⟨O++[p,O.length+1].map fun i=>(((⟨H,b,w2⟩:Heap).get i).map (AObj.ren f)).getD .dead,b,w0⟩:Heap)) =
     (.tuple [.slice (some (O.length,0)) n none,.bool true],⟨O++[.cells 4 ((iy (O.length+1) l).flatMap UnitU.cells),natO],b,w0⟩):=by
   intro f e1 e2 e3
   have hren:AVal.renL f ((iy (O.length+1) l).flatMap UnitU.cells)=(iy (O.length+1) l).flatMap UnitU.cells:=by unfold iy; rw [iz,xe,ren_built,e2,yj e3 hlow]
   simp only [AVal.ren,AVal.renL,Heap.get,h1,h2,cf,cr,b0,f8,renC,e1,hren,ren_nat]
  refine key _ ?_ ?_ fun i hi=>if_pos hi
  ·show (if p < O.length then p else _)=_
   rw [if_neg (by omega)]; simp [idxIn]
  ·have:¬ p=O.length+1:=hp1;simp [idxIn,this]
end Go.Abs.Zh

namespace Go.Abs.Zh
open Go.Abs.Zd
variable {os O H:List AObj} {b w:Nat}
theorem zbm {n s:Str} (hn:n.length≤big) (hs:s.length≤big):(plainU n s).ok H :=
 ⟨hn,hs,⟨fun h=>absurd rfl h⟩,d7 _,by simp [under,plainU],by simp [plainU],⟨fun h=>absurd rfl h⟩,d7 _,by simp [under,plainU],by simp [plainU]⟩
theorem natM_ok {x:Str × Str} (h1:x.1.length≤big) (h2:x.2.length≤big):(natM x).ok H :=
 ⟨h1,h2,⟨fun h=>absurd rfl h⟩,d7 _,by simp [under,natM],by simp [natM],⟨fun h=>absurd rfl h⟩,d7 _,by simp [under,natM],by simp [natM],⟨fun h=>absurd rfl h⟩,d7 _,by simp [under,natM],by simp [natM]⟩
theorem sysU_ok {m:Nat} (h:H[m]? = some natO):(sysU m).ok H :=
 ⟨by show sysT.length≤big; decide,by show objectT.length≤big; decide,⟨fun h=>absurd rfl h⟩,d7 _,by simp [under,sysU],by simp [sysU],Row.mk0 (fun _=>rfl) h,by show (natL.map natM).length≤big; decide,by
  have:=aj h;intro i o e;simp only [sysU,bt,el] at e;omega,fun x hx=>by
  simp only [sysU,ep] at hx;obtain ⟨y,hy,rfl⟩:=hx;have:∀ y ∈ natL,y.1.length≤big∧y.2.length≤big:=by decide
  exact natM_ok (this y hy).1 (this y hy).2⟩
theorem builtU_ok {m:Nat} (h:H[m]? = some natO):∀ u ∈ builtU m,u.ok H:=by
 intro u hu;rcases bz.1 hu with hu | hu
 ·simp only [built3,cg,fo,or_false] at hu;rcases hu with rfl | rfl | rfl
  ·exact zbm (by decide) (by decide)
  ·exact zbm (by decide) (by decide)
  ·exact sysU_ok h
 ·simp only [ep] at hu;obtain ⟨n,hn,rfl⟩:=hu;have:∀ n ∈ faultsL,n.length≤big:=by decide
  exact zbm (this n hn) (by decide)
theorem allU_ok {m:Nat} {l:List UnitU} (h:H[m]? = some natO) (hl:∀ u ∈ l,u.ok H):∀ u ∈ iy m l,u.ok H:=fun u hu=>by
 rcases bz.1 hu with hu | hu
 ·exact builtU_ok h u hu
 ·exact hl u hu
def worldO (O:List AObj) (l:List UnitU):List AObj:=O++[.cells 4 ((iy (O.length+1) l).flatMap UnitU.cells),natO]
theorem zbn (m:Nat) (l:List UnitU):(iy m l).length=9+l.length:=by simp [iy,builtU,built3,faultsL]; omega
theorem xj {l:List UnitU} (hl:l.length≤40) (hok:∀ u ∈ l,u.ok O):Units (worldO O l) (iy (O.length+1) l) (some (O.length,0)) :=
 ⟨Row.mk0 (fun _=>rfl) (by unfold worldO; rw [dj]; rfl),by rw [zbn]; omega,allU_ok (by unfold worldO; rw [d8]; rfl) fun u hu=>(hok u hu).pre (Pre.app _ _)⟩
section
attribute [-simp] getElem?_pos getElem?_neg List.all_eq_true
attribute [local simp] gz gs nltT nltF iltT iltF ileT nleT dg
theorem s107 {l:List UnitU} {a:Option (Nat × Nat)} {c:Option Nat} (hR:Row O 4 UnitU.cells l a) (hl:l.length≤40) (hok:∀ u ∈ l,u.ok O∧u.cap) (hb:b≤O.length) :
  xCall T 107 [.slice a l.length c] ⟨O,b,w⟩=some (if worldU (O.length+1) l then (.tuple [.slice (some (O.length,0)) (iy (O.length+1) l).length none,.bool true],⟨worldO O l,b,w⟩) else (.tuple [.slice none 0 (some 0),.bool false],⟨O,b,w⟩)):=by
 have h108:=fun w=>s108 (O:=O) (b:=b) (w:=w) hb
 have hlen:=zbn (O.length+1) l;have hlow:∀ u ∈ l,u.low O.length:=fun u hu=>(hok u hu).1.low
 unfold worldU;by_cases c0:l=[]
 ·subst c0;have hW:Units (worldO O []) (iy (O.length+1) []) (some (O.length,0)):=xj (by simp) (by simp);have e0:builtU (O.length+1)=iy (O.length+1) []:=(cq _).symm;have h1:=fun x0 w k=>l107b (b:=b) (x0:=x0) hW.r hW.len (iy (O.length+1) []).length 0 w (by simp) k
  have h2:=fun w k=>l107c (b:=b) (cw:=none) (a:=a) (c:=c) (L:=[]) hW ⟨fun h=>absurd rfl h⟩ (by simp) (by simp) (by unfold worldO; simp; omega) 0 0 w (by simp) k
  have hf:=fun w0=>zbo (O:=O) (b:=b) (p:=O.length) (n:=9) (w0:=w0) (l:=[]) (H:=worldO O []) (by simp) (by simp) (by simp) (by simp) (by unfold worldO; rw [dj]; rfl) (by unfold worldO; rw [d8]; rfl) (ai _)
  rw [e0] at h108;rw [hlen] at h1 h2 ⊢;simp only [bh,bp,jj,List.take_zero,dy,List.all_nil,if_true,Bool.and_true,d7,decide_true,dh] at h1 h2 ⊢;have hWl:(iy (O.length+1) []).length=9:=hlen;have hz:∀ w,gx 4 ⟨O++[.cells 4 ((iy (O.length+1) []).flatMap UnitU.cells),natO],b,w⟩ (.slice (some (O.length,0)) 9 none)=some ((iy (O.length+1) []).flatMap UnitU.cells):=fun w=>ly (by rw [dj]; rfl) rfl
  unfold worldO at *;generalize iy (O.length+1) []=W at *;rcases aw (namesU [] W) with c4 | c4
  ·rw [c4] at h1;simp only [c4,if_true] at h1 ⊢;simp (disch:=omega) [av t107,code107,h108,-dx,-gx,oa,hz,h1,h2,hf]
  ·rw [c4] at h1;simp only [c4,am,if_false] at h1 ⊢;simp (disch:=omega) [av t107,code107,h108,-gx,oa,hz,h1]
 ·have c1:l.length≠0:=fun e=>c0 (bc e)
  have hH:Pre O (O++[.dead,natO,.cells 4 ((iy (O.length+1) l).flatMap UnitU.cells)]):=Pre.app _ _
  have hW:Units (O++[.dead,natO,.cells 4 ((iy (O.length+1) l).flatMap UnitU.cells)]) (iy (O.length+1) l) (some (O.length+2,0)) :=
   ⟨Row.mk0 (fun _=>rfl) (by rw [d8]; rfl),by rw [hlen]; omega,allU_ok (by rw [d8]; rfl) fun u hu=>(hok u hu).1.pre hH⟩
  have hz:∀ w,gx 4 ⟨O++[.cells 4 ((builtU (O.length+1)).flatMap UnitU.cells),natO],b,w⟩ (.slice (some (O.length,0)) 9 none)=some ((builtU (O.length+1)).flatMap UnitU.cells):=fun w=>ly (by rw [dj]; rfl) rfl
  have hz2:=fun w=>o0 (h:=⟨O++[.cells 4 ((builtU (O.length+1)).flatMap UnitU.cells),natO],b,w⟩) (c:=c) ((Pre.app O _).row hR)
  have hl40:(9+l.length)*80≤140737488355328:=by omega
  have hcat:(builtU (O.length+1)).flatMap UnitU.cells++l.flatMap UnitU.cells=(iy (O.length+1) l).flatMap UnitU.cells:=by unfold iy; rw [iz]
  have h1:=fun x0 w k=>l107b (b:=b) (x0:=x0) hW.r hW.len (iy (O.length+1) l).length 0 w (by simp) k
  have h2:=fun w k=>l107c (b:=b) (cw:=none) (c:=c) hW (hH.row hR) (by omega) (fun u hu=>⟨(hok u hu).1.pre hH,(hok u hu).2⟩) (by simp; omega) l.length 0 w (by simp) k
  have hf:=fun w0 w2 hw=>zbo (O:=O) (b:=b) (p:=O.length+2) (n:=9+l.length) (w0:=w0) (w2:=w2) (l:=l) (H:=O++[.dead,natO,.cells 4 ((iy (O.length+1) l).flatMap UnitU.cells)]) hl hlow (by omega) (by omega) (by rw [d8]; rfl) (by rw [d8]; rfl) hw
  have hf:=fun w0=>hf w0 O.length (ai _)
  rw [hlen] at h1 h2 ⊢;simp only [Int.natCast_add,bh,List.take_zero,dy] at h1 h2 ⊢;by_cases c2:l.length≤32
  ·have n2:¬ ((32:Int) < l.length):=by omega
   simp only [decide_eq_true c2,dh];rcases aw (namesU [] (iy (O.length+1) l)) with c4 | c4
   ·rw [c4] at h1;simp only [c4,if_true,dh] at h1 ⊢;rcases aw (l.all (unitU (iy (O.length+1) l))) with c5 | c5
    ·rw [c5] at h2;simp only [c5,if_true] at h2 ⊢;unfold worldO;simp (disch:=omega) [av t107,code107,h108,-dx,-gx,hz,hz2,hl40,hcat,d8,dj,ir,gv,c1,n2,h1,h2,hf]
    ·rw [c5] at h2;simp only [c5,am,if_false] at h2 ⊢;simp (disch:=omega) [av t107,code107,h108,-gx,hz,hz2,hl40,hcat,d8,dj,ir,gv,c1,n2,h1,h2]
   ·rw [c4] at h1;simp only [c4,am,if_false,eb] at h1 ⊢;simp (disch:=omega) [av t107,code107,h108,-gx,hz,hz2,hl40,hcat,d8,dj,ir,gv,c1,n2,h1]
  ·have n2:(32:Int) < l.length:=by omega
   simp only [decide_eq_false c2,eb,am,if_false];simp (disch:=omega) [av t107,code107,h108,-gx,hz,hz2,hl40,hcat,d8,dj,ir,gv,c1,n2]
end
end Go.Abs.Zh

namespace Go.Abs.Zt
open Go.Abs.Zd Go.Abs.Zh
open Go.Abs.Zo hiding T sub
variable {os O:List AObj} {b w:Nat} {N:Nat} {S:List (Str × Str)} {F M:List (Key × Mem)} {V:List (Key × Bool)}
theorem subT:∀ g f,Zh.T g=some f→Zt.T g=some f:=fun g f h=>Zt.sub g f (Zo.subH g f h)
structure StrRow (O:List AObj) (L:List Str) (a:Option (Nat × Nat)):Prop where
 r:Row O 1 dt L a
 n:L.length≤gn
 s:∀ t ∈ L,t.length≤9223372036854775807
theorem vg {L:List Str} {a:Option (Nat × Nat)} {i:Nat} {x:Str} (h:Row O 1 dt L a) (hx:L[i]? = some x):∃ p o cs,a=some (p,o)∧O[p]? = some (.cells 1 cs)∧cs[o+i]? = some (.str x):=by obtain ⟨p,o,cs,h1,h2,h3,h4,h5⟩:=jt h hx;have h6:=Go.Abs.Zm.take_get (k:=0) h5 (by decide);refine ⟨p,o,cs,h1,h2,?_⟩;rw [Nat.mul_one,jj] at h6;rw [h6]; rfl
section
end
structure FrU where
 locals:List Str
 la:Option (Nat × Nat)
 lc:Option Nat
 stack:List Str
 sa:Option (Nat × Nat)
 sc:Option Nat
def FrU.cells (f:FrU):List AVal:=[.slice f.la f.locals.length f.lc,.slice f.sa f.stack.length f.sc]
structure FrU.ok (O:List AObj) (f:FrU):Prop where
 l:StrRow O f.locals f.la
 s:StrRow O f.stack f.sa
end Go.Abs.Zt

namespace Go.Abs.Zh
open Go.Abs.Zd
variable {os O H:List AObj} {b w:Nat}
structure Left (j:Nat) (r:Int):Prop where
 hi:r≤600
 lo:-1152921504606846976+j*562949953404928≤r
structure Went (j:Nat) (r r':Int):Prop where
 hi:r'≤600
 lo:r - j*562949953404928≤r'
theorem od:∀ L:List Str,AVal.idsL (L.flatMap dt)=[]
 | []=>rfl
 | t :: L=>by rw [cj,pb,od L]; rfl
theorem okId_low {n0 m i:Nat} {ds:List Did} (h:i < n0):okId n0 m ds i=true:=by unfold okId; simp [h]
theorem dw {n0 m n:Nat} {ds:List Did} {a:Option (Nat × Nat)} {c:Option Nat} (h:under n0 a):(AVal.slice a n c).ids.all (okId n0 m ds)=true:=by rw [al]; exact fun i hi=>okId_low (ids_slice h i hi)
end Go.Abs.Zh

namespace Go.Abs.Zt
open Go.Abs.Zd Go.Abs.Zh
open Go.Abs.Zo hiding T sub
variable {os O:List AObj} {b w:Nat} {N:Nat} {S:List (Str × Str)} {F M:List (Key × Mem)} {V:List (Key × Bool)}
structure Both (O X:List AObj) (L R:List Str) (a:Option (Nat × Nat)) (w w':Nat):Prop where
 row:Row (O++X) 1 dt (L++R) a
 w:∀ n,n≤O.length→n≤w→n≤w'
structure FrU.low (n:Nat) (f:FrU):Prop where
 l:under n f.la
 s:under n f.sa
section
variable {f:FrU}
section
attribute [-simp] getElem?_pos getElem?_neg List.all_eq_true sget
attribute [local simp] gz gs nltT nltF iltT iltF ileT nleT dg jv jw jx
set_option maxHeartbeats 2000000 in
theorem reg242 (hf:f.ok O) (hu:f.low O.length) (hb:b≤O.length) (hn1:f.locals.length≤100) (hn2:f.stack.length≤100) (w:Nat):∃ X a c w',Both O X f.locals f.stack a w w'∧∀ (k:AExit→St→Option (AVal × Heap)),
  xK T code242R0 ⟨[(1,.var f.cells)],⟨O,b,w⟩⟩ (k:=⟨k⟩)=k .normal ⟨[(21,.val (.slice a (f.locals++f.stack).length c)),(22,.val (.int .i64 ((f.locals++f.stack).length:Int))),(23,.val (.int .i64 0))],⟨O++X,b,w'⟩⟩:=by
 have hfc:f.cells=[.slice f.la f.locals.length f.lc,.slice f.sa f.stack.length f.sc]:=rfl;have hl1:=fun b w=>o0 (f:=dt) (e:=1) (h:=⟨O++[.cells 1 []],b,w⟩) (c:=f.lc) ((Pre.app O _).row hf.l.r)
 have hs1:=fun b w=>o0 (f:=dt) (e:=1) (h:=⟨O++[.cells 1 []],b,w⟩) (c:=f.sc) ((Pre.app O _).row hf.s.r)
 have hl2:=fun b w=>o0 (f:=dt) (e:=1) (h:=⟨O++[.cells 1 [],.cells 1 (f.locals.flatMap dt)],b,w⟩) (c:=f.sc) ((Pre.app O _).row hf.s.r)
 have flatL:(f.locals.flatMap dt).length=f.locals.length*1:=pa dt 1 (fun _=>rfl) _;have hla:(f.locals++f.stack).length=f.locals.length+f.stack.length:=aq;by_cases c1:f.locals.length=0
 ·have e1:f.locals=[]:=bc c1;by_cases c2:f.stack.length=0
  ·have e2:f.stack=[]:=bc c2;refine ⟨[.cells 1 []],some (O.length,0),some 0,w,⟨by rw [e1,e2]; exact ⟨fun h=>absurd rfl h⟩,fun _ _ h=>h⟩,fun k=>?_⟩;rw [hla];simp (disch:=omega) [code242R0,hfc,c1,c2,ap,bo,d8,dj,ir,gv,-gx,oa,dw hu.l,dw hu.s,od]
  ·refine ⟨[.cells 1 [],.cells 1 (f.stack.flatMap dt)],some (O.length+1,0),none,w,⟨by rw [e1]; exact Row.mk0 (fun _=>rfl) (by rw [d8]; rfl),fun _ _ h=>h⟩,fun k=>?_⟩;rw [hla];simp (disch:=omega) [-gx,oa,code242R0,hfc,c1,c2,hs1,ap,bo,d8,dj,ir,gv,dw hu.l,dw hu.s,od]
 ·by_cases c2:f.stack.length=0
  ·have e2:f.stack=[]:=bc c2;have hz:=fun w=>ly (e:=1) (n:=f.locals.length) (h:=⟨O++[.cells 1 [],.cells 1 (f.locals.flatMap dt)],b,w⟩) (i:=O.length+1) (c:=none) (by rw [d8]; rfl) flatL
   refine ⟨[.cells 1 [],.cells 1 (f.locals.flatMap dt)],some (O.length+1,0),none,w,⟨by rw [e2,cq]; exact Row.mk0 (fun _=>rfl) (by rw [d8]; rfl),fun _ _ h=>h⟩,fun k=>?_⟩;rw [hla];simp (disch:=omega) [-gx,oa,hz,code242R0,hfc,c1,c2,hl1,ap,bo,d8,dj,ir,gv,dw hu.l,dw hu.s,od]
  ·have hz:=fun w=>ly (e:=1) (n:=f.locals.length) (h:=⟨O++[.cells 1 [],.cells 1 (f.locals.flatMap dt)],b,w⟩) (i:=O.length+1) (c:=none) (by rw [d8]; rfl) flatL
   refine ⟨[.cells 1 [],.dead,.cells 1 ((f.locals++f.stack).flatMap dt)],some (O.length+2,0),none,min w (O.length+1),⟨Row.mk0 (fun _=>rfl) (by rw [d8]; rfl),fun n _ h=>by omega⟩,fun k=>?_⟩;rw [hla,iz];simp (disch:=omega) [-gx,oa,hz,hl2,code242R0,hfc,c1,c2,hl1,ap,bo,d8,dj,ir,gv,dw hu.l,dw hu.s,od]
end
section
attribute [-simp] getElem?_pos getElem?_neg List.all_eq_true
attribute [local simp] gz gs nltT nltF iltT iltF ileT nleT dg
theorem l242 {L:List Str} {a:Option (Nat × Nat)} {c:Option Nat} (hR:Row O 1 dt L a) (hn:L.length≤1000000) (hs:∀ t ∈ L,t.length≤9223372036854775807):∀ (j i:Nat) (w:Nat),i+j=L.length→∀ (k:AExit→St→Option (AVal × Heap)),
  xK T (.loop code242L0) ⟨[(21,.val (.slice a L.length c)),(22,.val (.int .i64 L.length)),(23,.val (.int .i64 i))],⟨O,b,w⟩⟩ (k:=⟨k⟩) =
  if (L.drop i).all (fun t=>decide (t.length≤150)) then k (.exit 0) ⟨[],⟨O,b,w⟩⟩ else k .ret ⟨[(2,.val (.bool false))],⟨O,b,w⟩⟩
 | 0,i,w,hi,k=>by rw [ce,br (by omega)];simp (disch:=omega) [code242L0]
 | j+1,i,w,hi,k=>by
  obtain ⟨x,hx⟩:∃ x,L[i]? = some x:=⟨_,ah (by omega)⟩;obtain ⟨p,o,cs,rfl,hpp,ht⟩:=vg hR hx;have hdx:L.drop i=x :: L.drop (i+1):=jn hx;have ih:=l242 (c:=c) hR hn hs j (i+1) w (by omega) k;have e2:((i+1:Nat):Int)=(i:Int)+1:=by omega
  rw [e2] at ih;have hxl:=hs x (bq hx);rw [ce,hdx,dz];generalize ACode.loop code242L0=LL at ih ⊢;by_cases e:x.length≤150
  ·have e':¬ ((150:Int) < x.length):=by omega
   rw [decide_eq_true e,dh];simp (disch:=omega) [code242L0,hpp,ht,e',ih]
  ·have e':((150:Int) < x.length):=by omega
   rw [decide_eq_false e,eb];simp (disch:=omega) [code242L0,hpp,ht,e']
end
def fewF (f:FrU):Bool:=decide (f.locals.length≤100) && decide (f.stack.length≤100) && (f.locals++f.stack).all fun t=>decide (t.length≤150)
section
attribute [-simp] getElem?_pos getElem?_neg List.all_eq_true
attribute [local simp] gz gs nltT nltF iltT iltF ileT nleT dg
theorem s242 (hf:f.ok O) (hu:f.low O.length) (hb:b≤O.length) (w:Nat):xCall T 242 [.agg f.cells] ⟨O,b,w⟩=some (.bool (fewF f),⟨O,b,w⟩):=by
 have hfc:f.cells=[.slice f.la f.locals.length f.lc,.slice f.sa f.stack.length f.sc]:=rfl;have hn1:f.locals.length≤140737488351232:=hf.l.n;have hn2:f.stack.length≤140737488351232:=hf.s.n;unfold fewF;by_cases c1:f.locals.length≤100
 ·have c1':¬ ((100:Int) < f.locals.length):=by omega
  by_cases c2:f.stack.length≤100
  ·have c2':¬ ((100:Int) < f.stack.length):=by omega
   obtain ⟨X,a,c,w',hB,hreg⟩:=reg242 hf hu hb c1 c2 O.length
   have hlp:=l242 (b:=b) (c:=c) (O:=O++X) hB.row (by rw [aq]; omega) (fun t ht=>by
    rcases bz.1 ht with ht | ht
    ·exact hf.l.s t ht
    ·exact hf.s.s t ht) (f.locals++f.stack).length 0 w' (by omega)
   simp only [bh,dy,aq,Int.natCast_add] at hlp;have hw:=hB.w _ (ai _) (ai _);rw [decide_eq_true c1,decide_eq_true c2,dh,dh];rw [hfc] at hreg;cases e:(f.locals++f.stack).all (fun t=>decide (t.length≤150)) with
   | true=>rw [e] at hlp; simp (disch:=omega) [av t242,code242,hfc,c1',c2',hreg,hlp]
   | false=>rw [e] at hlp; simp (disch:=omega) [av t242,code242,hfc,c1',c2',hreg,hlp]
  ·have c2':((100:Int) < f.stack.length):=by omega
   rw [decide_eq_true c1,decide_eq_false c2,dh,eb];simp (disch:=omega) [av t242,code242,hfc,c1',c2']
 ·have c1':((100:Int) < f.locals.length):=by omega
  rw [decide_eq_false c1,eb,eb];simp (disch:=omega) [av t242,code242,hfc,c1']
end
end
end Go.Abs.Zt

namespace Go.Abs.Zh
open Go.Abs.Zd
theorem v6 {W:List UnitU} {n:Str}:gl W n=none ↔ ∀ u ∈ W,u.name≠n:=by unfold gl; rw [List.find?_eq_none]; simp
theorem zbq (u:UnitU) (W:List UnitU) (n:Str):gl (u :: W) n=if u.name=n then some u else gl W n:=by unfold gl; rw [List.find?_cons];by_cases h:u.name=n <;> simp [h]
theorem qc:∀ (W:List UnitU) (n:Str),gg (W.map supE) n=(gl W n).map UnitU.super
 | [],n=>rfl
 | u :: W,n=>by
  rw [zbq];simp only [b0,gg,supE];by_cases h:u.name=n
  ·simp [h]
  ·simp only [h,if_false]; exact qc W n
theorem rn (W:List UnitU) (t:Str):thereS (W.map supE) t=thereU W t:=by
 unfold thereS thereU;cases classOf (bare t) with
 | none=>rfl
 | some c=>simp [qc]
theorem trapOk_eq (W:List UnitU) (t:TrapU):trapOk (W.map supE) t=trapU W t:=by unfold trapOk trapU; simp [qc]
theorem xl (W:List UnitU):∀ (k:Nat) (c:Str),lineS (W.map supE) k c=(iu W k c).map UnitU.name
 | 0,c=>rfl
 | k+1,c=>by
  unfold iu;simp only [lineS,qc];cases h:gl W c with
  | none=>rfl
  | some v =>
   have:=(nl h).2;simp only [cf,goL,b0,this];rw [xl W k v.super]; rfl
theorem goL_succ (W:List UnitU):∀ (k:Nat) (u:Option UnitU),(goL W (k+1) u).length≤k→goL W (k+1) u=goL W k u
 | 0,none,_=>rfl
 | 0,some v,h=>by simp [goL] at h
 | k+1,none,_=>rfl
 | k+1,some v,h=>by simp only [goL,bg] at h ⊢;rw [goL_succ W k (gl W v.super) (by omega)]
theorem zbr {W:List UnitU} {k:Nat} {c:Str} (h:(iu W (k+1) c).length≤k):iu W (k+1) c=iu W k c:=goL_succ W k _ h
theorem goL_last (W:List UnitU):∀ (k:Nat) (u:Option UnitU) (v:UnitU),(goL W (k+1) u).length=k+1→(goL W k u).getLast? = some v→(gl W v.super).isSome=true
 | 0,u,v,_,h=>by simp [goL] at h
 | k+1,none,v,h,_=>by simp [goL] at h
 | 1,some x,v,h,h2=>by
  simp only [goL,List.getLast?_singleton,bt] at h2;subst h2;cases hf:gl W x.super with
  | none=>simp [goL,hf] at h
  | some _=>rfl
 | k+2,some x,v,h,h2=>by
  have h3:(goL W (k+2) (gl W x.super)).length=k+2:=by simp only [goL,bg] at h ⊢; omega
  refine goL_last W (k+1) (gl W x.super) v h3 ?_;cases hf:gl W x.super with
  | none=>rw [hf] at h3; simp [goL] at h3
  | some y =>
   simp only [goL,hf] at h2 ⊢;rwa [List.getLast?_cons_cons] at h2
def rightU (W:List UnitU) (m:MethU):Bool:=match methL m.desc with
 | some (A,r)=>isName m.name && (thereU W r && (A.all (thereU W) && m.traps.all (trapU W)))
 | none=>false
theorem rightS_eq (W:List UnitU) (m:MethU):rightS (W.map supE) m=rightU W m:=by
 unfold rightS rightU;cases methL m.desc with
 | none=>rfl
 | some q =>
  obtain ⟨A,r⟩:=q;simp only [List.all_append,dz,List.all_nil,Bool.and_true];have h1:A.all (thereS (W.map supE))=A.all (thereU W):=by congr 1; funext t; exact rn W t
  have h2:m.traps.all (trapOk (W.map supE))=m.traps.all (trapU W):=by congr 1; funext t; exact trapOk_eq W t
  rw [h1,h2,rn];cases isName m.name <;> cases thereU W r <;> cases A.all (thereU W) <;> cases m.traps.all (trapU W) <;> rfl
theorem methodU_eq (W:List UnitU) (u:UnitU) (m:MethU):methodU W u m=(rightU W m && (iu W (W.length+1) u.name).all (evenM m)):=by
 unfold methodU rightU;cases methL m.desc with
 | none=>rfl
 | some q =>
  obtain ⟨A,r⟩:=q;simp only [Bool.and_assoc]
def fieldsD:List FieldU→List FieldU→Bool
 | _,[]=>true
 | A,f :: r=>A.all (fun g=>!decide (f.name=g.name)) && fieldsD (A++[f]) r
def methsD:List MethU→List MethU→Bool
 | _,[]=>true
 | A,m :: r=>A.all (fun g=>!(decide (m.name=g.name) && decide (m.desc=g.desc))) && methsD (A++[m]) r
def fieldR (W:List UnitU) (f:FieldU):Bool:=isName f.name && (isTy f.desc && thereU W f.desc)
theorem zbs (W:List UnitU):∀ (A l:List FieldU),fieldsU W A l=(l.all (fieldR W) && fieldsD A l)
 | _,[]=>rfl
 | A,f :: r=>by simp only [fieldsU,dz,fieldsD,zbs W (A++[f]) r,fieldR];cases isName f.name <;> cases isTy f.desc <;> cases thereU W f.desc <;> cases A.all (fun g=>!decide (f.name=g.name)) <;> simp
theorem methsU_eq (W:List UnitU) (u:UnitU):∀ (A l:List MethU),methsU W u A l=(l.all (methodU W u) && methsD A l)
 | _,[]=>rfl
 | A,m :: r=>by simp only [methsU,dz,methsD,methsU_eq W u (A++[m]) r];cases methodU W u m <;> cases A.all (fun g=>!(decide (m.name=g.name) && decide (m.desc=g.desc))) <;> simp
theorem getE_names (n:Str):∀ A:List FieldU,(gg (A.map fun f=>(f.name,true)) n).getD false = !(A.all fun g=>!decide (n=g.name))
 | []=>rfl
 | f :: A=>by
  simp only [b0,gg,dz];by_cases h:f.name=n
  ·simp [h]
  ·have h':¬ n=f.name:=fun e=>h e.symm
   simp only [h,h',if_false,decide_false,nr,dh];exact getE_names n A
theorem zbt (W:List UnitU):∀ (A l:List FieldU),fieldsS (W.map supE) (A.map fun f=>(f.name,true)) l=(l.all (fieldR W) && fieldsD A l)
 | _,[]=>rfl
 | A,f :: r=>by have ih:=zbt W (A++[f]) r;rw [jp] at ih;simp only [b0,f8] at ih;simp only [fieldsS,fieldOk,dz,fieldsD,fieldR,rn,getE_names,Bool.not_not,ih];cases isName f.name <;> cases isTy f.desc <;> cases thereU W f.desc <;> cases A.all (fun g=>!decide (f.name=g.name)) <;> simp
theorem v7 (c n d:Str):∀ A:List MethU,gg (A.map (methE c)) (c,n,d)=(methAt A n d).map fun x=>⟨c,x.st⟩
 | []=>rfl
 | m :: A=>by
  have ih:=v7 c n d A;unfold methAt at ih ⊢;simp only [b0,gg,methE,List.find?_cons];by_cases h1:m.name=n
  ·by_cases h2:m.desc=d
   ·simp [h1,h2]
   ·simp only [el,h1,h2,and_false,if_false,decide_true,decide_false,Bool.and_false];exact ih
  ·simp only [el,h1,false_and,and_false,if_false,decide_false,eb];exact ih
theorem methAt_isSome (n d:Str) (A:List MethU):(methAt A n d).isSome = !(A.all fun g=>!(decide (n=g.name) && decide (d=g.desc))):=by
 induction A with
 | nil=>rfl
 | cons m A ih =>
  unfold methAt at ih ⊢;rw [List.find?_cons];have e1:decide (m.name=n)=decide (n=m.name):=by rw [decide_eq_decide]; exact eq_comm
  have e2:decide (m.desc=d)=decide (d=m.desc):=by rw [decide_eq_decide]; exact eq_comm
  rw [e1,e2,dz];cases decide (n=m.name) && decide (d=m.desc) with
  | true=>simp
  | false=>simpa using ih
theorem methsS_eq (W:List UnitU) (c:Str) (M:List (Key × Mem)) (hM:∀ x ∈ M,x.1.1≠c):∀ (A l:List MethU),methsS (W.map supE) c (M++A.map (methE c)) l=(l.all (rightU W) && methsD A l)
 | _,[]=>rfl
 | A,m :: r=>by
  have ih:=methsS_eq W c M hM (A++[m]) r;rw [jp,← bl] at ih;simp only [b0,f8] at ih
  have hg:(gg (M++A.map (methE c)) (c,m.name,m.desc)).isSome = !(A.all fun g=>!(decide (m.name=g.name) && decide (m.desc=g.desc))):=by rw [n9,getE_none.2 (fun x hx e=>hM x hx (by rw [e])),Option.none_or,v7,Option.isSome_map,methAt_isSome]
  simp only [methsS,methOk,dz,methsD,rightS_eq,hg,Bool.not_not,ih];cases rightU W m <;> cases A.all (fun g=>!(decide (m.name=g.name) && decide (m.desc=g.desc))) <;> simp
def membF (u:UnitU):List (Key × Mem):=u.fields.map (fieldE u.name)
def membM (u:UnitU):List (Key × Mem):=u.meths.map (methE u.name)
theorem built_S (m:Nat):(builtU m).map supE=builtS:=rfl
theorem built_M (m:Nat):(builtU m).flatMap membM=builtM:=rfl
theorem built_F (m:Nat):(builtU m).flatMap membF=[]:=rfl
theorem xm {g:UnitU→List (Key × Mem)} (hg:∀ u,∀ x ∈ g u,x.1.1=u.name) (k:Key):∀ {W:List UnitU},(W.map UnitU.name).Nodup→gg (W.flatMap g) k=(gl W k.1).bind fun u=>gg (g u) k
 | [],_=>rfl
 | u :: W,h=>by
  rw [b0,wa] at h;rw [cj,n9,xm hg k h.2,zbq];by_cases e:u.name=k.1
  ·have hn:gl W k.1=none:=v6.2 fun v hv e2=>h.1 (ep.2 ⟨v,hv,by rw [e2,e]⟩)
   rw [if_pos e,hn];simp
  ·have hn:gg (g u) k=none:=getE_none.2 fun x hx e2=>e (by rw [← hg u x hx,e2])
   rw [if_neg e,hn]; rfl
theorem memb_M (u:UnitU):∀ x ∈ membM u,x.1.1=u.name:=fun x hx=>by obtain ⟨m,_,rfl⟩:=ep.1 hx; rfl
theorem getM {W:List UnitU} (h:(W.map UnitU.name).Nodup) (c n d:Str):gg (W.flatMap membM) (c,n,d)=(gl W c).bind fun u=>(methAt u.meths n d).map fun x=>⟨u.name,x.st⟩:=by
 rw [xm memb_M _ h];cases hf:gl W c with
 | none=>rfl
 | some u =>
  simp only [Option.bind_some,membM];rw [← (nl hf).2,v7]
theorem goL_found (W:List UnitU):∀ (k:Nat) (u:Option UnitU),(∀ v,u=some v→gl W v.name=some v)→∀ v ∈ goL W k u,gl W v.name=some v
 | 0,_,_,v,hv=>by simp [goL] at hv
 | _+1,none,_,v,hv=>by simp [goL] at hv
 | k+1,some x,h,v,hv=>by
  simp only [goL,cg] at hv;rcases hv with rfl | hv
  ·exact h _ rfl
  ·exact goL_found W k _ (fun y hy=>by rw [(nl hy).2]; exact hy) v hv
theorem zi {W:List UnitU} {k:Nat} {c:Str}:∀ v ∈ iu W k c,gl W v.name=some v:=goL_found W k _ fun y hy=>by rw [(nl hy).2]; exact hy
def endsU (W:List UnitU) (c:Str):Bool:=decide (2≤(iu W (W.length+1) c).length) && (decide ((iu W (W.length+1) c).length≤W.length) && decide (lastName (iu W (W.length+1) c)=objectT))
def ownU (W:List UnitU) (u:UnitU):Bool:=endsU W u.name && (u.fields.all (fieldR W) && (fieldsD [] u.fields && (u.meths.all (rightU W) && methsD [] u.meths)))
def nameU (u:UnitU):Bool:=im u.name && !decide (u.super=sysT)
def evenU (W:List UnitU) (u:UnitU):Bool:=u.meths.all fun m=>(iu W (W.length+1) u.name).all (evenM m)
theorem unitU_eq (W:List UnitU) (u:UnitU):unitU W u=(nameU u && (ownU W u && evenU W u)):=by
 have h:u.meths.all (methodU W u)=(u.meths.all (rightU W) && evenU W u):=by
  unfold evenU;induction u.meths with
  | nil=>rfl
  | cons m r ih =>
   simp only [dz,ih,methodU_eq];cases rightU W m <;> cases (iu W (W.length+1) u.name).all (evenM m) <;> simp
 unfold unitU nameU ownU endsU;rw [zbs,methsU_eq,h];simp only [Bool.and_assoc]
 cases im u.name <;> cases decide (u.super=sysT) <;> cases decide (2≤(iu W (W.length+1) u.name).length) <;> cases decide ((iu W (W.length+1) u.name).length≤W.length) <;> cases decide (lastName (iu W (W.length+1) u.name)=objectT) <;>
  cases u.fields.all (fieldR W) <;> cases fieldsD [] u.fields <;> cases u.meths.all (rightU W) <;> cases evenU W u <;> simp
theorem namesU_eq:∀ (A l:List UnitU),(A.map UnitU.name).Nodup→(namesU A l=true ↔ ((A++l).map UnitU.name).Nodup)
 | A,[],h=>by simp [namesU,h]
 | A,u :: r,h=>by
  have e:A++u :: r=(A++[u])++r:=by simp
  simp only [namesU,az,al];by_cases c:∀ x ∈ A,(!decide (u.name=x.name))=true
  ·have h2:((A++[u]).map UnitU.name).Nodup:=by rw [jp,List.nodup_append];refine ⟨h,by simp,fun a ha b hb=>?_⟩;obtain ⟨x,hx,rfl⟩:=ep.1 ha;simp only [b0,f8,ef] at hb;subst hb;have:=c x hx;intro e;simp [e] at this
   rw [e,← namesU_eq (A++[u]) r h2];exact ⟨fun h=>h.2,fun h=>⟨c,h⟩⟩
  ·refine ⟨fun h=>absurd h.1 c,fun hn=>absurd (fun x hx=>?_) c⟩;rw [jp,List.nodup_append] at hn;have:=hn.2.2 x.name (ep.2 ⟨x,hx,rfl⟩) u.name (by simp);simpa using fun e=>this e.symm
end Go.Abs.Zh

namespace Go.Abs.Zh
open Go.Abs.Zd
theorem ui:∀ {l:List UnitU} {S:List (Str × Str)},(supersS S l).isSome=true ↔ ((l.map UnitU.name).Nodup∧∀ u ∈ l,gg S u.name=none∧nameU u=true)
 | [],S=>by simp [supersS]
 | u :: l,S=>by
  simp only [supersS];by_cases c:superOk S u=true
  ·rw [if_pos c,ui];unfold superOk at c;simp only [az,gc,Option.isSome_eq_false_iff,Option.isNone_iff_eq_none] at c;obtain ⟨⟨c1,c2⟩,c3⟩:=c;have c4:nameU u=true:=by unfold nameU; rw [c2,c3]; rfl
   rw [b0,wa];refine ⟨fun ⟨h1,h2⟩=>⟨⟨fun hm=>?_,h1⟩,fun v hv=>?_⟩,fun ⟨h1,h2⟩=>⟨h1.2,fun v hv=>?_⟩⟩
   ·obtain ⟨v,hv,e⟩:=ep.1 hm;have:=(h2 v hv).1;rw [n9,e,c1] at this;simp [gg] at this
   ·rcases cg.1 hv with rfl | hv
    ·exact ⟨c1,c4⟩
    ·have:=(h2 v hv).1;rw [n9] at this;refine ⟨?_,(h2 v hv).2⟩;cases hq:gg S v.name with
     | none=>rfl
     | some y=>rw [hq] at this; cases this
   ·obtain ⟨d1,d2⟩:=h2 v (bu _ hv);refine ⟨?_,d2⟩;rw [n9,d1,Option.none_or];simp only [gg];rw [if_neg fun e=>h1.1 (ep.2 ⟨v,hv,e.symm⟩)]
  ·rw [if_neg c];refine ⟨fun h=>(by cases h),fun h=>absurd ?_ c⟩;have h2:=h.2;obtain ⟨d1,d2⟩:=h2 u (bi ..);unfold nameU at d2;simp only [az] at d2;unfold superOk;rw [d1,d2.1,d2.2]; rfl
theorem endsS_eq {W:List UnitU} {o:UnitU} (h0:gl W []=none) (ho:gl W objectT=some o) (hs:o.super=[]) (c:Str):endsS (W.map supE) c=endsU W c:=by
 unfold endsS endsU;rw [ge,xl,ge]
 have hlast:∀ L:List UnitU,(L.map UnitU.name).getLastD []=lastName L:=fun L=>by unfold lastName;rw [List.getLastD_eq_getLast?,List.getLast?_map]
 rw [hlast];by_cases hl:(iu W (W.length+1) c).length≤W.length
 ·have hl2:=zbr hl;rw [hl2] at hl ⊢;have e:decide (1 < (iu W W.length c).length)=decide (2≤(iu W W.length c).length):=rfl;rw [e,decide_eq_true hl];cases decide (lastName (iu W W.length c)=objectT) <;> cases decide (2≤(iu W W.length c).length) <;> rfl
 ·rw [decide_eq_false hl,eb,Bool.and_false,Bool.and_eq_false_iff];refine .inl (decide_eq_false ?_);intro e;have hlen:(iu W (W.length+1) c).length=W.length+1:=by have:=ux W (W.length+1) (gl W c); unfold iu at hl ⊢; omega
  unfold lastName at e;cases hv:(iu W W.length c).getLast? with
  | none=>rw [hv] at e; exact absurd e (by decide)
  | some v =>
   rw [hv] at e;have e:v.name=objectT:=e;have hm:v ∈ iu W W.length c:=List.mem_of_getLast? hv;have hf:=zi v hm;rw [e,ho] at hf;have:=goL_last W W.length (gl W c) v hlen hv;rw [← dl hf,hs,h0] at this;cases this
theorem zh {W:List UnitU} (hends:∀ c,endsS (W.map supE) c=endsU W c):∀ {l:List UnitU} {F M:List (Key × Mem)},(l.map UnitU.name).Nodup→(∀ x ∈ M,∀ u ∈ l,x.1.1≠u.name) →
  membersS (W.map supE) F M l=if l.all (ownU W) then some (F++l.flatMap membF,M++l.flatMap membM) else none
 | [],F,M,_,_=>by simp [membersS]
 | u :: l,F,M,hn,hM=>by
  rw [b0,wa] at hn
  have hu:unitOk (W.map supE) M u=ownU W u:=by have h1:=zbt W [] u.fields;have h2:=methsS_eq W u.name M (fun x hx=>hM x hx u (bi ..)) [] u.meths;simp only [f8,cq] at h1 h2;unfold unitOk ownU;rw [hends,h1,h2];simp only [Bool.and_assoc]
  simp only [membersS,hu,dz];rcases aw (ownU W u) with c | c
  ·simp only [c,if_true,dh];rw [zh hends hn.2]
   ·simp only [cj,bl]; rfl
   ·intro x hx v hv e;rcases bz.1 hx with hx | hx
    ·exact hM x hx v (bu _ hv) e
    ·exact hn.1 (ep.2 ⟨v,hv,by rw [← e,memb_M u x hx]⟩)
  ·simp [c]
def keysU (l:List MethU):Prop:=l.Pairwise fun a c=>¬ (a.name=c.name∧a.desc=c.desc)
theorem uj:∀ (A l:List MethU),methsD A l=true→keysU A→keysU (A++l)
 | A,[],_,h=>by simpa using h
 | A,m :: r,hd,h=>by
  simp only [methsD,az,al] at hd;have e:A++m :: r=(A++[m])++r:=by simp
  rw [e];refine uj (A++[m]) r hd.2 ?_;unfold keysU;rw [List.pairwise_append];refine ⟨h,by simp,fun a ha c hc hh=>?_⟩;simp only [ef] at hc;subst hc;have:=hd.1 a ha;simp [hh.1,hh.2] at this
theorem even_eq {m:MethU}:∀ {l:List MethU},keysU l→(match (methAt l m.name m.desc).map MethU.st with | some y=>y == m.st | none=>true)=l.all fun x=>!oddM m x
 | [],_=>rfl
 | x :: l,h=>by
  have h:=List.pairwise_cons.1 h;have ih:=even_eq (m:=m) h.2;unfold methAt at ih ⊢;rw [List.find?_cons,dz];by_cases h1:x.name=m.name
  ·by_cases h2:x.desc=m.desc
   ·have hr:(l.all fun x=>!oddM m x)=true:=by
     rw [al];intro y hy;have:=h.1 y hy;unfold oddM;by_cases g1:y.name=m.name
     ·by_cases g2:y.desc=m.desc
      ·exact absurd ⟨h1.trans g1.symm,h2.trans g2.symm⟩ this
      ·simp [g2]
     ·simp [g1]
    rw [hr];unfold oddM;simp only [h1,h2,decide_true,Bool.and_self,cf,dh,Bool.not_not,Bool.and_true];cases x.st <;> cases m.st <;> rfl
   ·unfold oddM;simp only [h1,h2,decide_true,decide_false,Bool.and_false,eb,nr,dh];exact ih
  ·unfold oddM;simp only [h1,decide_false,eb,nr,dh];exact ih
theorem overS_eq {W:List UnitU} (hn:(W.map UnitU.name).Nodup) (hk:∀ v ∈ W,keysU v.meths) {u:UnitU} (hl:(iu W (W.length+1) u.name).length≤W.length):overS (W.map supE) (W.flatMap membM) u=evenU W u:=by
 unfold overS evenU;congr 1;funext m;unfold overM;rw [ge,xl,zbr hl];have hf:=zi (W:=W) (k:=W.length) (c:=u.name);generalize iu W W.length u.name=L at hf ⊢;induction L with
 | nil=>rfl
 | cons v L ih =>
  rw [b0,dz,dz,ih fun x hx=>hf x (bu _ hx)];congr 1;have hv:=hf v (bi ..);have:=even_eq (m:=m) (hk v (nl hv).1);unfold overOk evenM;rw [getM hn,hv,Option.bind_some];rw [← this];cases methAt v.meths m.name m.desc <;> rfl
theorem built_keys (m:Nat):∀ v ∈ builtU m,keysU v.meths:=by have:(builtU m).all (fun v=>methsD [] v.meths)=true:=rfl;intro v hv;exact uj [] _ (al.1 this v hv) List.Pairwise.nil
theorem isClass_nil:im []=false:=by decide
theorem built_none (m:Nat):gl (builtU m) []=none:=rfl
theorem built_names (m:Nat):((builtU m).map UnitU.name).Nodup:=by have:(builtU m).map UnitU.name=[objectT,throwT,sysT]++faultsL:=rfl;rw [this]; decide
theorem all_unit (W:List UnitU):∀ l:List UnitU,l.all (unitU W)=(l.all nameU && (l.all (ownU W) && l.all (evenU W)))
 | []=>rfl
 | u :: r=>by simp only [dz,unitU_eq,all_unit W r];cases nameU u <;> cases ownU W u <;> cases evenU W u <;> cases r.all nameU <;> cases r.all (ownU W) <;> cases r.all (evenU W) <;> rfl
theorem worldS_eq (m:Nat) (l:List UnitU):worldS l=if worldU m l then some ((iy m l).map supE,(iy m l).flatMap membF,(iy m l).flatMap membM) else none:=by
 unfold worldS worldU;by_cases c1:l.length≤32
 ·rw [if_pos c1,decide_eq_true c1,dh];have hS:builtS++l.map supE=(iy m l).map supE:=by unfold iy; rw [jp,built_S]
  have hM:builtM++l.flatMap membM=(iy m l).flatMap membM:=by unfold iy; rw [iz,built_M]
  have hF:l.flatMap membF=(iy m l).flatMap membF:=by unfold iy; rw [iz,built_F]; rfl
  have hnames:namesU [] (iy m l)=true ↔ ((iy m l).map UnitU.name).Nodup:=namesU_eq [] _ (by simp)
  have hall:l.all (unitU (iy m l))=(l.all nameU && (l.all (ownU (iy m l)) && l.all (evenU (iy m l)))):=by exact all_unit _ l
  have hcat:((iy m l).map UnitU.name).Nodup ↔ ((l.map UnitU.name).Nodup∧∀ u ∈ l,gg builtS u.name=none):=by
   unfold iy;rw [jp,List.nodup_append,← built_S m];refine ⟨fun ⟨_,h2,h3⟩=>⟨h2,fun u hu=>?_⟩,fun ⟨h1,h2⟩=>⟨built_names m,h1,fun a ha b hb e=>?_⟩⟩
   ·rw [qc,zo,v6];exact fun v hv e=>h3 v.name (ep.2 ⟨v,hv,rfl⟩) u.name (ep.2 ⟨u,hu,rfl⟩) e
   ·obtain ⟨v,hv,rfl⟩:=ep.1 ha;obtain ⟨u,hu,rfl⟩:=ep.1 hb;have:=h2 u hu;rw [qc,zo,v6] at this;exact this v hv e
  rw [hall];by_cases c2:((iy m l).map UnitU.name).Nodup
  ·rw [hnames.2 c2,dh];rcases aw (l.all nameU) with c3 | c3
   ·have hsup:(supersS builtS l).isSome=true:=ui.2 ⟨(hcat.1 c2).1,fun u hu=>⟨(hcat.1 c2).2 u hu,al.1 c3 u hu⟩⟩;obtain ⟨S,hS1⟩:=Option.isSome_iff_exists.1 hsup;have hS2:=(vw hS1).1;rw [hS] at hS2;subst hS2;rw [hS1,c3,dh]
    have h0:gl (iy m l) []=none:=by
     unfold iy gl;rw [List.find?_append];have:=built_none m;unfold gl at this;rw [this,Option.none_or,List.find?_eq_none];intro u hu;have:=al.1 c3 u hu;unfold nameU at this;intro e;have e:u.name=[]:=by simpa using e
     rw [e,isClass_nil] at this;cases this
    have hends:=endsS_eq (W:=iy m l) (o:=plainU objectT []) h0 rfl rfl
    have hmem:=zh (F:=[]) (M:=builtM) hends (hcat.1 c2).1 (fun x hx u hu=>by have h1:=(hcat.1 c2).2 u hu;rw [← built_M m] at hx;obtain ⟨v,hv,hx⟩:=fe.1 hx;rw [memb_M v x hx];rw [← built_S m,qc,zo,v6] at h1;exact h1 v hv)
    simp only;rw [hmem,hM,bw,hF];rcases aw (l.all (ownU (iy m l))) with c4 | c4
    ·rw [c4,if_pos rfl,dh];simp only
     have hkeys:∀ v ∈ iy m l,keysU v.meths:=fun v hv=>by
      rcases bz.1 hv with hv | hv
      ·exact built_keys m v hv
      ·have:=al.1 c4 v hv;unfold ownU at this;simp only [az] at this;exact uj [] _ this.2.2.2.2 List.Pairwise.nil
     have hov:l.all (overS ((iy m l).map supE) ((iy m l).flatMap membM))=l.all (evenU (iy m l)):=by
      rw [ml,al,al]
      have key:∀ u ∈ l,overS ((iy m l).map supE) ((iy m l).flatMap membM) u=evenU (iy m l) u:=fun u hu=>by have:=al.1 c4 u hu;unfold ownU endsU at this;simp only [az,decide_eq_true_eq] at this;exact overS_eq c2 hkeys this.1.2.1
      exact ⟨fun h u hu=>by rw [← key u hu]; exact h u hu,fun h u hu=>by rw [key u hu]; exact h u hu⟩
     rw [hov]
    ·rw [c4]; rfl
   ·have hsup:supersS builtS l=none:=by
     rw [← Option.not_isSome_iff_eq_none,ui];intro h;have:l.all nameU=true:=al.2 fun u hu=>(h.2 u hu).2
     rw [c3] at this; cases this
    rw [hsup,c3]; rfl
  ·have hsup:supersS builtS l=none:=by rw [← Option.not_isSome_iff_eq_none,ui];exact fun h=>c2 (hcat.2 ⟨h.1,fun u hu=>(h.2 u hu).1⟩)
   have hn:namesU [] (iy m l)=false:=by rw [← Bool.not_eq_true]; exact fun h=>c2 (hnames.1 h)
   rw [hsup,hn]; rfl
 ·rw [if_neg c1,decide_eq_false c1]; rfl
end Go.Abs.Zh

namespace Go.Abs.Zh
open Go.Abs.Zd
end Go.Abs.Zh

namespace Go.Abs
theorem ul {h:Heap} {n0:Nat}:∀ (fu:Nat) (l acc:List Nat),acc <+: reach h n0 fu l acc
 | 0,l,acc=>by unfold reach; exact List.prefix_refl _
 | _+1,[],acc=>by unfold reach; exact List.prefix_refl _
 | fu+1,i :: r,acc=>by
  unfold reach;split
  ·exact ul fu r acc
  ·split
   ·exact ul fu r acc
   ·exact (List.prefix_append acc [i]).trans (ul fu _ _)
theorem idxIn_pre {i:Nat}:∀ {k l:List Nat},k <+: l→i ∈ k→idxIn i l=idxIn i k
 | [],_,_,h=>by cases h
 | j :: k,l,hp,h=>by
  obtain ⟨t,rfl⟩:=hp;rw [ci];unfold idxIn;split
  ·rfl
  ·rename_i hne;have hm:i ∈ k:=(cg.1 h).resolve_left fun e=>hne e.symm
   rw [idxIn_pre (List.prefix_append k t) hm]
theorem finish_first {h0 h:Heap} {v:AVal} (hv:v.under h0.size=false) (K:List Nat) (hK:K <+: reach h h0.size 1000 v.ids []) :
  (∃ w,dx h0 v h=(v,⟨h.objs,h.base,w⟩)∧(w=min h0.wmin h.wmin∨(w=h0.wmin∧h0.size≤h.wmin))) ∨
  (h0.size≤h.wmin∧∃ f I X,dx h0 v h=(v.ren f,⟨h0.objs++X,h0.base,h0.wmin⟩)∧Moves f I h0.size h.objs (h0.objs++X)∧(∀ j ∈ v.ids,h0.size≤j→I j)∧(∀ j ∈ K,I j∧f j=h0.size+idxIn j K)):=by
 unfold dx;by_cases hw:h.wmin < h0.size
 ·rw [if_pos hw]; exact .inl ⟨_,rfl,.inl rfl⟩
 ·rw [if_neg hw,hv];simp only [am,if_false];generalize hk:reach h h0.size 1000 v.ids []=k at hK;have hge:∀ i ∈ k,h0.size≤i:=by rw [← hk]; exact uh _ _ _ (by simp)
  split
  ·rename_i hok;refine .inr ⟨by omega,fun i=>if i < h0.size then i else h0.size+idxIn i k,fun i=>i ∈ k,_,rfl,⟨fun i obj hi ho=>?_,fun i obj hi ho j hj hn=>?_,fun i hi=>?_⟩,fun j hj hn=>?_,fun j hj=>?_⟩
   ·have h1:=hge i hi;obtain ⟨h2,h3⟩:=zbl hi;have h4:¬ i < h0.size:=by omega
    simp only [if_neg h4];have h5:h0.size=h0.objs.length:=rfl;rw [h5,ak (by omega),pn,db,h3];have h6:h.get i=some obj:=ho;simp only [cf,h6,cr]
   ·rw [al] at hok;have h6:h.get i=some obj:=ho;have:=hok j (iw _ (fe.2 ⟨i,hi,by rw [h6]; exact hj⟩));simp only [et,decide_eq_true_eq] at this;rcases this with h7 | h7
    ·omega
    ·simpa using h7
   ·show h0.size≤if i < h0.size then i else h0.size+idxIn i k
    rw [if_neg (by omega)]; omega
   ·rw [al] at hok;have:=hok j (gh _ hj);simp only [et,decide_eq_true_eq] at this;rcases this with h7 | h7
    ·omega
    ·simpa using h7
   ·have hjk:j ∈ k:=hK.subset hj;have:=hge j hjk;refine ⟨hjk,?_⟩;show (if j < h0.size then j else h0.size+idxIn j k)=_;rw [if_neg (by omega),idxIn_pre hK hj]
  ·exact .inl ⟨_,rfl,.inr ⟨rfl,by omega⟩⟩
theorem ids_ents {κ ν:Type} {kf:κ→AVal} {vf:ν→AVal} (hk:∀ x,(kf x).ids=[]) (hv:∀ x,(vf x).ids=[]):∀ (A:List (κ × ν)) (i:Nat),((ents kf vf i A).flatMap fun (k,v,_)=>k.ids++v.ids)=[]
 | [],_=>rfl
 | (k,v) :: A,i=>by have ih:=ids_ents hk hv A (i+1);simp only [ents,cj,hk,hv,cq,bw];exact ih
theorem wc {κ ν:Type} {kf:κ→AVal} {vf:ν→AVal} (hk:∀ x,(kf x).ids=[]) (hv:∀ x,(vf x).ids=[]) (A:List (κ × ν)):(ft kf vf A).ids=[]:=ids_ents hk hv A 0
theorem ren_ents {κ ν:Type} {kf:κ→AVal} {vf:ν→AVal} {f:Nat→Nat} (hk:∀ x,(kf x).ren f=kf x) (hv:∀ x,(vf x).ren f=vf x):∀ (A:List (κ × ν)) (i:Nat),((ents kf vf i A).map fun (k,v,b)=>(k.ren f,v.ren f,b))=ents kf vf i A
 | [],_=>rfl
 | (k,v) :: A,i=>by have ih:=ren_ents hk hv A (i+1);simp only [ents,b0,hk,hv];rw [ih]
theorem wd {κ ν:Type} {kf:κ→AVal} {vf:ν→AVal} {f:Nat→Nat} (hk:∀ x,(kf x).ren f=kf x) (hv:∀ x,(vf x).ren f=vf x) (A:List (κ × ν)):(ft kf vf A).ren f=ft kf vf A:=by unfold ft;simp only [AObj.ren];rw [ren_ents hk hv]
namespace Zh
open Go.Abs.Zd
variable {O O':List AObj} {b w N:Nat} {S:List (Str × Str)} {F M:List (Key × Mem)} {V:List (Key × Bool)}
theorem zy (x:Key):(keyF x).ids=[]:=by obtain ⟨a,b,c⟩:=x; simp [keyF,AVal.ids,AVal.idsL]
theorem memF_ids (x:Mem):(memF x).ids=[]:=by simp [memF,AVal.ids,AVal.idsL]
theorem z5 (f:Nat→Nat) (x:Key):(keyF x).ren f=keyF x:=by obtain ⟨a,b,c⟩:=x; simp [keyF,AVal.ren,AVal.renL]
theorem memF_ren (f:Nat→Nat) (x:Mem):(memF x).ren f=memF x:=by simp [memF,AVal.ren,AVal.renL]
theorem str_ids (x:Str):(AVal.str x).ids=[]:=by simp [AVal.ids]
theorem str_ren (f:Nat→Nat) (x:Str):(AVal.str x).ren f = .str x:=by simp [AVal.ren]
theorem bool_ids (x:Bool):(AVal.bool x).ids=[]:=by simp [AVal.ids]
theorem bool_ren (f:Nat→Nat) (x:Bool):(AVal.bool x).ren f = .bool x:=by simp [AVal.ren]
theorem world_reach (h:World O N S F M V) {n:Nat} (hn:n≤N) (r:List Nat):[N,N+1,N+2,N+3,N+4] <+: reach ⟨O,b,w⟩ n 1000 (N :: r) []:=by
 have h0:(⟨O,b,w⟩:Heap).get N=_:=h.w0;have h1:(⟨O,b,w⟩:Heap).get (N+1)=_:=h.m1;have h2:(⟨O,b,w⟩:Heap).get (N+2)=_:=h.m2;have h3:(⟨O,b,w⟩:Heap).get (N+3)=_:=h.m3;have h4:(⟨O,b,w⟩:Heap).get (N+4)=_:=h.m4;have e1:=wc str_ids str_ids S;have e2:=wc zy memF_ids F;have e3:=wc zy memF_ids M;have e4:=wc zy bool_ids V;have g0:¬ N < n:=by omega
 have g1:¬ N+1 < n:=by omega
 have g2:¬ N+2 < n:=by omega
 have g3:¬ N+3 < n:=by omega
 have g4:¬ N+4 < n:=by omega
 have s0:reach ⟨O,b,w⟩ n 1000 (N :: r) []=reach ⟨O,b,w⟩ n 995 r [N,N+1,N+2,N+3,N+4]:=by rw [reach,if_neg g0,if_neg (by simp),h0];simp only [cf,cr,AObj.ids,AVal.idsL,AVal.ids,ci,bw];rw [reach,if_neg g1,if_neg (by simp),h1];simp only [cf,cr,e1,bw,ci];rw [reach,if_neg g2,if_neg (by simp),h2];simp only [cf,cr,e2,bw,ci];rw [reach,if_neg g3,if_neg (by simp),h3];simp only [cf,cr,e3,bw,ci];rw [reach,if_neg g4,if_neg (by simp),h4];simp only [cf,cr,e4,bw,ci]
 rw [s0];exact ul _ _ _
theorem World.move (h:World O N S F M V) {f:Nat→Nat} {I:Nat→Prop} {n:Nat} (hm:Moves f I n O O') (hf:∀ j ∈ [N,N+1,N+2,N+3,N+4],I j∧f j=n+idxIn j [N,N+1,N+2,N+3,N+4]):World O' n S F M V:=by obtain ⟨i0,f0⟩:=hf N (by simp);obtain ⟨i1,f1⟩:=hf (N+1) (by simp);obtain ⟨i2,f2⟩:=hf (N+2) (by simp);obtain ⟨i3,f3⟩:=hf (N+3) (by simp);obtain ⟨i4,f4⟩:=hf (N+4) (by simp);simp [idxIn] at f0 f1 f2 f3 f4;have k0:=hm.at' _ _ i0 h.w0;have k1:=hm.at' _ _ i1 h.m1;have k2:=hm.at' _ _ i2 h.m2;have k3:=hm.at' _ _ i3 h.m3;have k4:=hm.at' _ _ i4 h.m4;rw [f0] at k0;rw [f1,wd (str_ren f) (str_ren f)] at k1;rw [f2,wd (z5 f) (memF_ren f)] at k2;rw [f3,wd (z5 f) (memF_ren f)] at k3;rw [f4,wd (z5 f) (bool_ren f)] at k4;refine ⟨?_,k1,k2,k3,k4⟩;simpa [AObj.ren,AVal.renL,AVal.ren,f1,f2,f3,f4] using k0
end Zh
namespace Zt
open Go.Abs.Zd Go.Abs.Zh
open Go.Abs.Zo hiding T sub
variable {os O:List AObj} {b w:Nat}
theorem allU_over {n m:Nat} {l:List UnitU} (hm:n≤m) (hl:∀ u ∈ l,u.over n):∀ u ∈ iy m l,u.over n:=by
 have hn:over n none:=fun i o e=>by cases e
 have hp:∀ a b,(plainU a b).over n:=fun a b=>⟨hn,hn,fun m hm=>by cases hm⟩
 have hs:(sysU m).over n:=⟨hn,fun i o e=>by cases e; exact hm,fun x hx=>by obtain ⟨y,hy,rfl⟩:=ep.1 hx;exact ⟨hn,hn,hn,fun z hz=>by cases hz⟩⟩
 intro u hu;unfold iy at hu;rcases bz.1 hu with hu | hu
 ·unfold builtU at hu;rcases bz.1 hu with hu | hu
  ·simp only [built3,cg,fo,or_false] at hu;rcases hu with rfl | rfl | rfl
   ·exact hp _ _
   ·exact hp _ _
   ·exact hs
  ·obtain ⟨y,hy,rfl⟩:=ep.1 hu;exact hp _ _
 ·exact hl u hu
theorem s240 {tb:List UInt8} {a:Option (Nat × Nat)} {c:Option Nat} (hR:Row O 1 og tb a) (hu:under O.length a) (ht:tb.length≤1000) (hb:b≤O.length) (w:Nat) :
  ∃ (N w':Nat) (P:List AObj) (W:List UnitU) (ra:Option (Nat × Nat)) (F M:List (Key × Mem)),O.length≤N∧Pre O P∧(O.length≤w→O.length≤w')∧Zh.World P N Zm.SM F M builtV∧Units P W ra∧W.map supE=Zm.SM ∧
   xCall T 240 [.slice a tb.length c] ⟨O,b,w⟩=some (.tuple [.ptr (some (N,0)),.slice ra W.length none,.bool true],⟨P,b,w'⟩):=by
 have hG:Zm.Good (O++[.cells 2 [.slice a tb.length c,.int .i64 0]]) O.length tb (.slice a tb.length c):=by refine ⟨⟨0,by rw [dj]; rfl,d7 _,ht⟩,a,c,rfl,(Pre.app O _).row hR,fun i o e=>?_⟩;have:=hu i o e; omega
 obtain ⟨ua,uc,l,O1,w1,e1,hl,hRl,hok,hul,hS,hK,hw,hw2⟩:=Zm.s48o hG (b:=b) hb O.length;obtain ⟨F,M,hW⟩:=Zm.worldS_made hS;have hlen:=hK.len;simp only [aq,f9] at hlen
 have hPre:Pre O O1:=fun i o ho=>by have:=aj ho;exact hK.at' i o (by omega) (by rw [ag this]; exact ho)
 have h49:=fun w=>s49 (b:=b) (w:=w) (c:=uc) hRl (fun u hm=>(hok u hm).1) (by rw [hl]; decide) (by omega)
 rw [hl,hW] at h49;simp only [newV,newO] at h49;have hWo:=xg O1 Zm.SM F M builtV;have hP1:=wO_pre O1 Zm.SM F M builtV;generalize hO2:wO O1 Zm.SM F M builtV=O2 at *;have hl2:O2.length=O1.length+5:=by rw [← hO2]; simp [wO]
 have h107:=fun w=>s107 (O:=O2) (b:=b) (w:=w) (c:=uc) (hP1.row hRl) (by rw [hl]; decide) (fun u hu=>⟨(hok u hu).1.pre hP1,(hok u hu).2.1.cap⟩) (by omega)
 have hwu:worldU (O2.length+1) l=true:=by
  have:=worldS_eq (O2.length+1) l;rw [hW] at this;split at this
  ·assumption
  ·cases this
 have hsup:(iy (O2.length+1) l).map supE=Zm.SM:=by have:=worldS_eq (O2.length+1) l;rw [hW,hwu] at this;simp only [if_true,bt,el] at this;exact this.1.symm
 rw [hwu,hl] at h107;simp only [if_true] at h107;have hU:=xj (O:=O2) (l:=l) (by rw [hl]; decide) (fun u hu=>(hok u hu).1.pre hP1);have hlU:(iy (O2.length+1) l).length=13:=by rw [zbn,hl]
 have hover:∀ u ∈ iy (O2.length+1) l,u.over O.length:=allU_over (by omega) fun u hu=>by have:=(hok u hu).2.2;exact ⟨fun i o e=>by have:=this.f i o e; simp only [aq] at this; omega,fun i o e=>by have:=this.m i o e; simp only [aq] at this; omega,fun m hm=>⟨fun i o e=>by have:=(this.ms m hm).c i o e; simp only [aq] at this; omega,fun i o e=>by have:=(this.ms m hm).t i o e; simp only [aq] at this; omega,fun i o e=>by have:=(this.ms m hm).x i o e; simp only [aq] at this; omega,fun x hx=>⟨fun i o e=>by have:=((this.ms m hm).xs x hx).l i o e; simp only [aq] at this; omega,fun i o e=>by have:=((this.ms m hm).xs x hx).s i o e; simp only [aq] at this; omega⟩⟩⟩
 have hWo2:Zh.World (worldO O2 l) O1.length Zm.SM F M builtV:=hWo.app _;have hlw:O2.length < (worldO O2 l).length:=by unfold worldO; simp
 have hPreO:Pre O (worldO O2 l):=(hPre.trans hP1).trans (Pre.app _ _);have e48:=fj Zt.sub (fj Zo.sub e1);have e49:=fun w=>fj subT (h49 w)
 have e107:=fun w=>fj subT (h107 w)
 generalize hOw:worldO O2 l=Ow at *;generalize iy (O2.length+1) l=W at *
 have hv:(AVal.tuple [.ptr (some (O1.length,0)),.slice (some (O2.length,0)) 13 none,.bool true]).under (⟨O,b,w⟩:Heap).size=false:=by
  have:¬ O1.length < O.length:=by omega
  simp [AVal.under,AVal.unders,Heap.size,this]
 have hids:(AVal.tuple [.ptr (some (O1.length,0)),.slice (some (O2.length,0)) 13 none,.bool true]).ids=[O1.length,O2.length]:=by simp [AVal.ids,AVal.idsL]
 have hK1:[O1.length,O1.length+1,O1.length+2,O1.length+3,O1.length+4] <+: reach ⟨Ow,b,w1⟩ (⟨O,b,w⟩:Heap).size 1000 (AVal.tuple [.ptr (some (O1.length,0)),.slice (some (O2.length,0)) 13 none,.bool true]).ids []:=by rw [hids];exact world_reach hWo2 (by show O.length≤_; omega) _
 have hrun:xCall T 240 [.slice a tb.length c] ⟨O,b,w⟩=some (dx ⟨O,b,w⟩ (.tuple [.ptr (some (O1.length,0)),.slice (some (O2.length,0)) 13 none,.bool true]) ⟨Ow,b,w1⟩):=by simp (disch:=omega) [-getElem?_pos,-getElem?_neg,-List.all_eq_true,gz,gs,nltT,nltF,iltT,iltF,ileT,nleT,dg,-dx,av t240,code240,e48,e49,e107,hlU]
 rw [hrun];rcases finish_first (h:=⟨Ow,b,w1⟩) hv _ hK1 with ⟨w',h1,h2⟩ | ⟨h1,f,I,X,h2,h3,h4,h5⟩
 ·refine ⟨O1.length,w',Ow,W,some (O2.length,0),F,M,by omega,hPreO,fun hh=>?_,hWo2,hU,hsup,by rw [h1,hlU]⟩;rcases h2 with h2 | ⟨h2,_⟩
  ·simp only at h2; omega
  ·simp only at h2; omega
 ·have hin:inI I (some (O2.length,0)):=fun i o e=>by simp only [bt,el] at e;rw [← e.1]; exact h4 _ (by rw [hids]; simp) (by show O.length≤_; omega)
  have hR2:=h3.row (F':=UnitU.cells) (g:=UnitU.ren f) hU.r hin fun u=>ren_unitU u
  have hf0:f O1.length=O.length:=by have:=(h5 O1.length (by simp)).2;simpa [idxIn,Heap.size] using this
  refine ⟨O.length,w,O++X,W.map (UnitU.ren f),renA f (some (O2.length,0)),F,M,ai _,Pre.app _ _,id,hWo2.move h3 h5,⟨hR2,by rw [ge]; exact hU.n,fun u hm=>?_⟩,?_,?_⟩
  ·obtain ⟨v,hv,rfl⟩:=ep.1 hm;exact (hU.ok v hv).move h3 (hover v hv) (h3.ids hU.r hin hv)
  ·rw [List.map_map,← hsup];rfl
  ·rw [h2,ge,hlU];simp [AVal.ren,AVal.renL,hf0,renA]
end Zt
end Go.Abs

namespace Go.Abs.Zt
open Go.Abs.Zd Go.Abs.Zh
open Go.Abs.Zo hiding T sub
variable {os O:List AObj} {b w:Nat} {N:Nat} {S:List (Str × Str)} {F M:List (Key × Mem)} {V:List (Key × Bool)}
section
variable {f:FrU}
theorem s243 {h:Heap}:xCall T 243 [] h=some (.bool true,h):=closed_run (f:=code243) t243 rfl 60 rfl rfl (h':=⟨[],0,0⟩) (by kernel_rfl) h
end
end Go.Abs.Zt

namespace Go.Abs
open Go.Abs.Zd
section
variable {os:List AObj} {b w:Nat} {d:Dat} {cs:List AVal}
theorem has_byte (h:Has ⟨os,b,w⟩ (.int .u8) d cs):∃ x:UInt8,cs=og x∧True:=by
 obtain ⟨n,_,rfl,h1,h2⟩:=h.int;have e1:IntKind.u8.min=0:=rfl;have e2:IntKind.u8.max=255:=rfl;rw [e1] at h1;rw [e2] at h2;refine ⟨UInt8.ofNat n.toNat,?_,trivial⟩;unfold og
 have:((UInt8.ofNat n.toNat).toNat:Int)=n:=by rw [UInt8.toNat_ofNat'];have:n.toNat % 2 ^ 8=n.toNat:=Nat.mod_eq_of_lt (by omega);rw [this]; omega
 rw [this]
theorem has_bytes (hb:b≤os.length) (h:Has ⟨os,b,w⟩ (.slice (.int .u8)) d cs):∃ (a:Option (Nat × Nat)) (L:List UInt8) (c:Option Nat),cs=[.slice a L.length c]∧Row os 1 og L a∧L.length≤gn∧under os.length a:=by
 obtain ⟨a,L,c,h1,h2,h3,_,h5,_⟩:=h.row fun d c h=>has_byte h
 exact ⟨a,L,c,h1,h2,h3,rk h5 hb⟩
end
end Go.Abs

namespace Go.Abs.Zt
variable {os:List AObj} {b w:Nat} {d:Dat} {cs:List AVal}
end Go.Abs.Zt

namespace Go.Abs.Zt
open Go.Abs.Zd Go.Abs.Zh
open Go.Abs.Zo hiding T sub
variable {os O:List AObj} {b w:Nat} {N:Nat} {S:List (Str × Str)} {F M:List (Key × Mem)} {V:List (Key × Bool)}
theorem s35 {s:List UInt8} (hn:s.length≤9223372036854775807):xCall T 35 [.str s] ⟨os,b,w⟩=some (elemV s,⟨os,b,w⟩):=by
 cases s with
 | nil=>simp [du T t35,code35,elemV,eg]
 | cons x r =>
  have h1:(1:Int)≤(r.length:Int)+1:=by omega
  by_cases e:x=91
  ·subst e;simp [du T t35,code35,elemV,eg,h1]
  ·have e':¬ ((x.toNat:Int)=91):=fun h=>e (UInt8.toNat_inj.1 (show x.toNat=91 by omega))
   simp [du T t35,code35,elemV,eg,h1,e,e']
theorem s31 {s:List UInt8} (hn:s.length≤9223372036854775807):xCall T 31 [.str s] ⟨os,b,w⟩=some (.bool (isRef s),⟨os,b,w⟩):=by
 cases s with
 | nil=>simp [du T t31,code31,isRef,eg]
 | cons x r =>
  have h1:(1:Int)≤(r.length:Int)+1:=by omega
  have h0:(0:Int) < (r.length:Int)+1:=by omega
  have e1:((x.toNat:Int)=76)=(x=76):=mr x 76 (by omega);have e2:((x.toNat:Int)=91)=(x=91):=mr x 91 (by omega);by_cases c1:x=76 <;> by_cases c2:x=91
  ·subst c1; cases c2
  all_goals simp [du T t31,code31,isRef,eg,h0,h1,e1,e2,c1,c2]
def isU (W:List UnitU) (c d:Str):Bool:=(iu W (W.length+1) c).any fun u=>decide (u.name=d)
section
attribute [-simp] getElem?_pos getElem?_neg List.all_eq_true
attribute [local simp] gz gs nltT nltF iltT iltF ileT nleT dg
theorem l279 {L:List UnitU} {a:Option (Nat × Nat)} {c:Option Nat} {d:Str} (hR:Row O 4 UnitU.cells L a) (hl:L.length≤1000000):∀ (j i:Nat) (w:Nat),i+j=L.length→∀ (k:AExit→St→Option (AVal × Heap)),
  xK T (.loop code279L0) ⟨[(2,.val (.str d)),(11,.val (.slice a L.length c)),(12,.val (.int .i64 L.length)),(13,.val (.int .i64 i))],⟨O,b,w⟩⟩ (k:=⟨k⟩) =
  if (L.drop i).any (fun u=>decide (u.name=d)) then k .ret ⟨[(6,.val (.bool true))],⟨O,b,w⟩⟩ else k (.exit 0) ⟨[],⟨O,b,w⟩⟩
 | 0,i,w,hi,k=>by rw [ce,br (by omega)];simp (disch:=omega) [code279L0]
 | j+1,i,w,hi,k=>by
  obtain ⟨u,hu⟩:∃ u,L[i]? = some u:=⟨_,ah (by omega)⟩;obtain ⟨p,o,cs,ha,hpp,hpl,hcs,ht⟩:=jt hR hu;have hd:L.drop i=u :: L.drop (i+1):=jn hu;have ih:=l279 (c:=c) (d:=d) hR hl j (i+1) w (by omega) k;have e2:((i+1:Nat):Int)=(i:Int)+1:=by omega
  rw [e2] at ih;subst ha;unfold UnitU.cells at ht;rw [ce,hd,List.any_cons];generalize ACode.loop code279L0=LL at ih ⊢;by_cases e:u.name=d
  ·rw [decide_eq_true e,Bool.true_or];simp (disch:=omega) [code279L0,hpp,ht,e]
  ·rw [decide_eq_false e,Bool.false_or];simp (disch:=omega) [code279L0,hpp,ht,e,ih]
theorem s279 {W:List UnitU} {ra:Option (Nat × Nat)} (hU:Units O W ra) (hb:b≤O.length) {c d:Str} {rc:Option Nat} (w:Nat) :
  xCall T 279 [.slice ra W.length rc,.str c,.str d] ⟨O,b,w⟩=some (.bool (isU W c d),⟨O,b,w⟩):=by
 have h112:=fun w=>fj subT (s112 (b:=b) (w:=w) (c:=rc) hU.r hU.n hU.low hb (n:=c))
 have hlen:=ux W (W.length+1) (gl W c);have hn:=hU.n;unfold isU;have hlen:(iu W (W.length+1) c).length≤W.length+1:=hlen;generalize iu W (W.length+1) c=L at *;by_cases hL:L=[]
 ·subst hL;have h1:=fun w=>l279 (O:=O) (b:=b) (a:=none) (c:=some 0) (d:=d) (L:=[]) ⟨fun h=>absurd rfl h⟩ (by simp) 0 0 w (by simp)
  simp only [bh,bp,dy,List.any_nil,am,if_false] at h1;simp only [rowV,rowO,if_true] at h112;simp (disch:=omega) [av t279,code279,h112,h1]
 ·have hRow:Row (O++[.cells 4 (L.flatMap UnitU.cells)]) 4 UnitU.cells L (some (O.length,0)):=Row.mk0 (fun _=>rfl) (by rw [dj]; rfl);have h1:=fun w=>l279 (b:=b) (c:=none) (d:=d) hRow (by omega) L.length 0 w (by omega)
  simp only [bh,dy] at h1;simp only [rowV,rowO,hL,if_false] at h112;cases e:L.any (fun u=>decide (u.name=d)) with
  | true=>rw [e] at h1; simp (disch:=omega) [av t279,code279,h112,h1]
  | false=>rw [e] at h1; simp (disch:=omega) [av t279,code279,h112,h1]
end
theorem lineSM:∀ c,lineS Zm.SM 14 c=lineS Zm.SM 13 c:=by
 intro c
 have h:∀ k,gg Zm.SM c=none→lineS Zm.SM k c=[]:=fun k hk=>by
  cases k with
  | zero=>rfl
  | succ k=>simp only [lineS,hk]
 cases hg:gg Zm.SM c with
 | none=>rw [h _ hg,h _ hg]
 | some d =>
  have hm:c ∈ Zm.namesM:=Zm.getE_names (by rw [hg]; simp);have:∀ c ∈ Zm.namesM,lineS Zm.SM 14 c=lineS Zm.SM 13 c:=by decide
  exact this c hm
theorem isU_eq {W:List UnitU} (hW:W.map supE=Zm.SM) (c d:Str):isU W c d=isS Zm.SM c d:=by
 have hl:W.length=13:=by have:=congrArg List.length hW;rw [ge] at this;exact this
 unfold isU isS;rw [show Zm.SM.length=13 from rfl,← lineSM,← hW,xl,List.any_map,hl];rfl
section
attribute [-simp] getElem?_pos getElem?_neg List.all_eq_true sget
attribute [local simp] gz gs nltT nltF iltT iltF ileT nleT dg jv jw jx
set_option maxHeartbeats 2000000 in
theorem s268 {W:List UnitU} {ra:Option (Nat × Nat)} {rc:Option Nat} (hU:Units O W ra) (hW:W.map supE=Zm.SM) (hb:b≤O.length):∀ (s t:Str) (w:Nat),s.length≤9223372036854775807→t.length≤9223372036854775807 →
  xCall T 268 [.slice ra W.length rc,.str s,.str t] ⟨O,b,w⟩=some (.bool (ve Zm.SM s t),⟨O,b,w⟩)
 | [],t,w,hs,ht=>by
  have h159a:=fun w=>fj subT (s159 (b:=b) (w:=w) (c:=rc) hU.r hU.len hU.low (t:=[]) (by simp))
  have h159:=fun w=>fj subT (s159 (b:=b) (w:=w) (c:=rc) hU.r hU.len hU.low ht)
  rw [← rn,hW] at h159 h159a;have h33:=fun w=>fj subT (s33 (os:=O) (b:=b) (w:=w) ht)
  have h33a:=fun w=>fj subT (s33 (os:=O) (b:=b) (w:=w) (s:=[]) (by simp))
  have h35:=fun w=>s35 (os:=O) (b:=b) (w:=w) ht
  have h35a:=fun w=>s35 (os:=O) (b:=b) (w:=w) (s:=[]) (by simp)
  rw [pp] at h33 h33a;have hc0:classOf []=none:=rfl;rw [hc0] at h33a;simp only [elemV] at h35 h35a;have hb0:eg 91 []=false:=rfl;simp only [hb0,am,if_false,li,lj] at h35a h33a;unfold ve;rcases aw (thereS Zm.SM []) with c1 | c1
  ·rcases aw (thereS Zm.SM t) with c2 | c2
   ·by_cases c3:t=[]
    ·subst c3;simp (disch:=omega) [av t268,code268,h159a,c1,h33a,h35a]
    ·have c3':¬ []=t:=fun e=>c3 e.symm
     simp (disch:=omega) [av t268,code268,h159a,h159,c1,c2,h33a,h35a,h33,h35,c3,c3']
   ·simp (disch:=omega) [av t268,code268,h159a,h159,c1,c2,h33a,h33]
  ·simp (disch:=omega) [av t268,code268,h159a,c1,h33a,h33]
 | x :: r,t,w,hs,ht=>by
  have hr:r.length≤9223372036854775807:=by simp only [bg] at hs; omega
  have htt:t.tail.length≤9223372036854775807:=by rw [List.length_tail]; omega
  have ih:=fun w=>s268 (rc:=rc) hU hW hb r t.tail w hr htt
  have h159a:=fun w=>fj subT (s159 (b:=b) (w:=w) (c:=rc) hU.r hU.len hU.low hs)
  have h159:=fun w=>fj subT (s159 (b:=b) (w:=w) (c:=rc) hU.r hU.len hU.low ht)
  rw [← rn,hW] at h159 h159a;have h33:=fun w=>fj subT (s33 (os:=O) (b:=b) (w:=w) ht)
  have h33a:=fun w=>fj subT (s33 (os:=O) (b:=b) (w:=w) hs)
  have h35:=fun w=>s35 (os:=O) (b:=b) (w:=w) ht
  have h35a:=fun w=>s35 (os:=O) (b:=b) (w:=w) hs
  have h31t:=fun w=>s31 (os:=O) (b:=b) (w:=w) ht
  have h31r:=fun w=>s31 (os:=O) (b:=b) (w:=w) hr
  have h31tt:=fun w=>s31 (os:=O) (b:=b) (w:=w) htt
  have h279:=fun w a c=>s279 (w:=w) (rc:=rc) hU hb (c:=a) (d:=c)
  simp only [isU_eq hW] at h279;rw [pp] at h33 h33a;simp only [elemV] at h35 h35a;have hbx:eg 91 (x :: r)=decide (x=91):=rfl;rw [hbx] at h35a;simp only [List.tail_cons] at h35a;rw [av t268];unfold ve;have hA:=fun c (e:classOf (x :: r)=some c)=>(n8 e).1
  have hB:=fun c (e:classOf t=some c)=>(n8 e).1
  rw [hbx] at hA;generalize hS0:x :: r=s at *;rcases aw (thereS Zm.SM s) with c1 | c1;case inr=>simp (disch:=omega) [code268,h159a,c1,h33,h33a]
  rcases aw (thereS Zm.SM t) with c2 | c2;case inr=>simp (disch:=omega) [code268,h159a,h159,c1,c2,h33,h33a]
  by_cases c3:s=t
  ·subst c3;simp (disch:=omega) [code268,h159,c1,h33,h35a]
  by_cases c4:s=[78]
  ·have hc:classOf s=none:=by rw [c4]; rfl
   have c5:¬ x=91:=by rw [c4] at hS0; simp only [km] at hS0; rw [hS0.1]; decide
   rw [hc] at h33a;have c3':¬ [78]=t:=by rw [← c4]; exact c3
   subst c4;simp (disch:=omega) [code268,h159a,h159,c1,c2,c3',h33a,h33,h35a,h35,c5,h31t]
  cases hc:classOf s with
  | some a =>
   have c5:¬ x=91:=by have:=hA a hc; simpa using this
   rw [hc] at h33a;cases hd:classOf t with
   | some c =>
    rw [hd] at h33;have c6:=hB c hd;simp (disch:=omega) [code268,h159a,h159,c1,c2,c3,c4,h33a,h33,h35a,h35,c5,c6,h279]
   | none =>
    rw [hd] at h33;simp (disch:=omega) [code268,h159a,h159,c1,c2,c3,c4,h33a,h33,h35a,h35,c5,h279]
  | none =>
   rw [hc] at h33a;cases hd:classOf t with
   | some c =>
    rw [hd] at h33;have c6:=hB c hd;by_cases c5:x=91
    ·simp (disch:=omega) [code268,h159a,h159,c1,c2,c3,c4,h33a,h33,h35a,h35,c5,c6,h279,objectT];congr
    ·simp (disch:=omega) [code268,h159a,h159,c1,c2,c3,c4,h33a,h33,h35a,h35,c5,c6,h279,objectT]
   | none =>
    rw [hd] at h33;by_cases c5:x=91
    ·rcases aw (eg 91 t) with c6 | c6
     ·rcases aw (isRef r) with c7 | c7
      ·rcases aw (isRef t.tail) with c8 | c8
       ·simp (disch:=omega) [code268,h159a,h159,c1,c2,c3,c4,h33a,h33,h35a,h35,c5,c6,c7,c8,h31r,h31tt,ih]
       ·simp (disch:=omega) [code268,h159a,h159,c1,c2,c3,c4,h33a,h33,h35a,h35,c5,c6,c7,c8,h31r,h31tt,ih]
      ·simp (disch:=omega) [code268,h159a,h159,c1,c2,c3,c4,h33a,h33,h35a,h35,c5,c6,c7,h31r,h31tt,ih]
     ·simp (disch:=omega) [code268,h159a,h159,c1,c2,c3,c4,h33a,h33,h35a,h35,c5,c6,h31r,h31tt,ih]
    ·simp (disch:=omega) [code268,h159a,h159,c1,c2,c3,c4,h33a,h33,h35a,h35,c5,h31r,h31tt,ih]
end
end Go.Abs.Zt

namespace Go.Abs
variable {α:Type} {e:Nat} {f:α→List AVal} {O P:List AObj} {A:List α} {v:AVal} {b:Nat}
structure Acc (e:Nat) (f:α→List AVal) (O:List AObj) (A:List α) (P:List AObj) (v:AVal):Prop where
 pre:Pre O P
 val:(A=[]∧v = .slice none 0 (some 0))∨(A≠[]∧∃ i,O.length≤i∧v = .slice (some (i,0)) A.length none∧P[i]? = some (.cells e (A.flatMap f)))
theorem Acc.nil:Acc e f O [] O (.slice none 0 (some 0)):=⟨Pre.refl _,.inl ⟨rfl,rfl⟩⟩
theorem Acc.app (h:Acc e f O A P v) (X:List AObj):Acc e f O A (P++X) v:=⟨h.pre.trans (Pre.app _ _),by
 rcases h.val with h1 | ⟨h1,i,h2,h3,h4⟩
 ·exact .inl h1
 ·exact .inr ⟨h1,i,h2,h3,by rw [ag (aj h4)]; exact h4⟩⟩
theorem Acc.shape (h:Acc e f O A P v):∃ p c,v = .slice p A.length c:=by
 rcases h.val with ⟨rfl,rfl⟩ | ⟨_,i,_,rfl,_⟩
 ·exact ⟨_,_,rfl⟩
 ·exact ⟨_,_,rfl⟩
def newV (n:Nat) (A:List α):AVal:=if A=[] then .slice none 0 (some 0) else .slice (some (n,0)) A.length none
def newO (e:Nat) (f:α→List AVal) (O:List AObj) (A:List α):List AObj:=if A=[] then O else O++[.cells e (A.flatMap f)]
theorem qd:Pre O (newO e f O A):=by
 unfold newO;split
 ·exact Pre.refl _
 ·exact Pre.app _ _
theorem uy {k:Nat} {o:AObj} (h:O[k]? = some o):(newO e f O A)[k]? = some o:=by
 unfold newO;split
 ·exact h
 ·rw [ag (aj h)]; exact h
def newA (n:Nat) (A:List α):Option (Nat × Nat):=if A=[] then none else some (n,0)
def newC (A:List α):Option Nat:=if A=[] then some 0 else none
theorem newV_eq (n:Nat) (A:List α):newV n A = .slice (newA n A) A.length (newC A):=by
 unfold newV newA newC;split
 ·rename_i h; rw [h]; rfl
 ·rfl
theorem new_row (hf:∀ y,(f y).length=e):Row (newO e f O A) e f A (newA O.length A):=by
 unfold newO newA;split
 ·rename_i h; subst h; exact ⟨fun h=>absurd rfl h⟩
 ·exact Row.mk0 hf (by rw [dj]; rfl)
def Keeps (P P':List AObj) (n:Nat) (v:AVal):Prop:=∀ (k:Nat) (o:AObj),P[k]? = some o→v ≠ .slice (some (k,0)) n none→P'[k]? = some o
theorem Acc.add (h:Acc e f O A P v) (hf:∀ y,(f y).length=e) (hb:b≤O.length) {by':Nat} (hl:(A.length+1)*by'≤140737488355328) (hl2:A.length≤1000000000) (x:α) :
  ∃ P' v',∃ nx:Nat→Nat,Acc e f O (A++[x]) P' v'∧(∀ w,O.length≤w→O.length≤nx w)∧((∀ w,nx w≤w∧(A≠[]→nx w < P.length))∧Keeps P P' A.length v∧v' = .slice (some (P.length+1,0)) (A.length+1) none)∧∀ w,dk e by' ⟨P++[.cells e (f x)],b,w⟩ v (.slice (some (P.length,0)) 1 (some 1))=some (v',⟨P',b,nx w⟩):=by
 have hz:∀ w,gx e ⟨P++[.cells e (f x)],b,w⟩ (.slice (some (P.length,0)) 1 (some 1))=some (f x):=fun w =>
  ly (by show (P++[AObj.cells e (f x)])[P.length]? = _; rw [dj]; rfl) (by rw [hf,Nat.one_mul])
 have hs:(P++[AObj.cells e (f x)]).length=P.length+1:=by simp
 have he:(A++[x]).flatMap f=A.flatMap f++f x:=by simp
 have hlen:(A++[x]).length=A.length+1:=by simp
 have hne:A++[x]≠[]:=by simp
 have hpl:=h.pre.len;rcases h.val with ⟨rfl,rfl⟩ | ⟨h1,i,h2,rfl,h4⟩
 ·refine ⟨P++[.cells e (f x),.cells e (f x)],.slice (some (P.length+1,0)) 1 none,id,⟨h.pre.trans (Pre.app _ _),.inr ⟨hne,P.length+1,by omega,by rw [hlen]; rfl,by rw [d8]; simp⟩⟩,fun w hw=>hw,⟨fun w=>⟨ai w,fun h=>absurd rfl h⟩,fun k o hk _=>by rw [ag (aj hk)]; exact hk,by simp⟩,fun w=>?_⟩;unfold dk;simp only [hz,oa,aApp,alen];have q1:¬ (1:Nat)=0:=by decide
  have q2:(0+1)*by'≤140737488355328∧0+1≤9223372036854775807:=⟨by simpa using hl,by decide⟩
  simp only [eq_false q1,eq_true q2,if_false,if_true];simp [Heap.push,Heap.size]
 ·have hi:=aj h4;have h5:(P++[AObj.cells e (f x)])[i]? = some (.cells e (A.flatMap f)):=by rw [ag hi]; exact h4
  have hfl:(A.flatMap f).length=A.length*e:=pa f e hf A;have hz1:∀ w,gx e ⟨P++[.cells e (f x)],b,w⟩ (.slice (some (i,0)) A.length none)=some (A.flatMap f):=fun w=>ly h5 hfl
  have hr:∀ w,rowIs ⟨P++[.cells e (f x)],b,w⟩ i e=true:=fun w=>by unfold rowIs Heap.get;simp only [h5];simp
  refine ⟨P.set i .dead++[.cells e (f x),.cells e ((A++[x]).flatMap f)],.slice (some (P.length+1,0)) (A++[x]).length none,fun w=>min w i,⟨?_,.inr ⟨hne,P.length+1,by omega,rfl,?_⟩⟩,fun w hw=>by show O.length≤min w i; omega,⟨fun w=>⟨by show min w i≤w; omega,fun _=>by show min w i < P.length; omega⟩,fun k o hk hne=>by rw [ag (by rw [mh]; exact aj hk),au (fun e=>hne (by rw [e]))]; exact hk,by rw [hlen]⟩,fun w=>?_⟩
  ·exact (h.pre.set .dead h2).trans (Pre.app _ _)
  ·rw [ak (by simp)];simp
  ·unfold dk;simp only [hz,hz1,aApp,alen];have q1:¬ (1:Nat)=0:=by decide
   have q2:(A.length+1)*by'≤140737488355328∧A.length+1≤9223372036854775807:=⟨hl,by omega⟩
   have q3:¬ (none:Option Nat)=some A.length:=by simp
   have q4:(⟨P++[AObj.cells e (f x)],b,w⟩:Heap).base≤i∧rowIs ⟨P++[AObj.cells e (f x)],b,w⟩ i e=true:=⟨by show b≤i; omega,hr w⟩;simp only [eq_false q1,eq_true q2,eq_false q3,eq_true q4,if_false,if_true];simp only [Heap.push,Heap.put,Heap.size,tk _ _ hi,mh,hs,he,hlen,bl,ci,bw]
theorem idsL_none {L:List AVal} (h:∀ x ∈ L,x.ids=[]):AVal.idsL L=[]:=by rw [pv,List.flatMap_eq_nil_iff]; exact h
theorem Acc.fin (h:Acc e f O A P v) (hi:∀ x,AVal.idsL (f x)=[]) (hr:∀ g x,AVal.renL g (f x)=f x) {w0 W:Nat} (hW:O.length≤W):dx ⟨O,b,w0⟩ v ⟨P,b,W⟩=(newV O.length A,⟨newO e f O A,b,w0⟩):=by
 have hia:AVal.idsL (A.flatMap f)=[]:=by
  refine idsL_none fun y hy=>?_
  obtain ⟨x,hx,hy⟩:=fe.1 hy;have:=hi x;rw [pv,List.flatMap_eq_nil_iff] at this;exact this y hy
 have hra:∀ g,AVal.renL g (A.flatMap f)=A.flatMap f:=fun g=>by
  have:∀ L:List α,AVal.renL g (L.flatMap f)=L.flatMap f:=fun L=>by
   induction L with
   | nil=>rfl
   | cons x L ih=>rw [cj,xe,hr,ih]
  exact this A
 have hw2:(⟨O,b,w0⟩:Heap).size≤(⟨P,b,W⟩:Heap).wmin:=hW;rcases h.val with ⟨rfl,rfl⟩ | ⟨h1,i,h2,rfl,h4⟩
 ·have hw3:¬ W < O.length:=by omega
  simp [dx,newV,newO,Heap.size,hw3,AVal.under]
 ·have hv:AVal.under (⟨O,b,w0⟩:Heap).size (.slice (some (i,0)) A.length none)=false:=by
   have:¬ i < O.length:=by omega
   simp [AVal.under,Heap.size,this]
  have hg:(⟨P,b,W⟩:Heap).get i=some (.cells e (A.flatMap f)):=h4
  have hreach:reach ⟨P,b,W⟩ (⟨O,b,w0⟩:Heap).size 1000 (AVal.slice (some (i,0)) A.length none).ids []=[i]:=by simp only [AVal.ids];rw [reach,if_neg (by show ¬ i < O.length; omega),if_neg (by simp),hg];simp only [cf,cr,AObj.ids,hia,bw];rfl
  refine (nk hw2 hv hreach fun j hj=>?_).trans ?_
  ·simp only [AVal.ids,cj,ju,hg,cf,cr,AObj.ids,hia,cq,cg,fo,or_false] at hj;subst hj;exact .inr (fp _)
  ·have key:∀ g:Nat→Nat,g i=O.length→((AVal.slice (some (i,0)) A.length none).ren g,(⟨O++[AObj.cells e (A.flatMap f)],b,w0⟩:Heap))=(newV O.length A,⟨newO e f O A,b,w0⟩):=fun g hg'=>by unfold newV newO;rw [if_neg h1,if_neg h1];simp only [AVal.ren,hg']
   simp only [Heap.size,b0,f8,hg,cf,cr,AObj.ren,hra];exact key _ ((if_neg (show ¬ i < O.length by omega)).trans (by simp [idxIn]))
theorem Acc.new (hp:Pre O P):Acc e f O A (newO e f P A) (newV P.length A):=by
 refine ⟨hp.trans qd,?_⟩;unfold newO newV;by_cases h:A=[]
 ·exact .inl ⟨h,by rw [if_pos h]⟩
 ·exact .inr ⟨h,P.length,hp.len,by rw [if_neg h],by rw [if_neg h,dj]; rfl⟩
theorem Acc.back {A B:List α} {P P':List AObj} {v v':AVal} {j W w:Nat} (hne:A≠[]) (h:Acc e f O A P v) (h':Acc e f O (A++B) P' v') (hW:O.length≤W∧W≤P.length∧(j=0→P'=P∧v'=v∧W=P.length)∧(A≠[]→0 < j→W < P.length)) (hw:O.length≤w) :
  ∃ w2,O.length≤w2∧dx ⟨P,b,w⟩ v' ⟨P',b,W⟩=(v',⟨P',b,w2⟩):=by
 obtain ⟨h1,h2,h3,h4⟩:=hW;rcases qg j with hz | hz
 ·obtain ⟨e1,e2,e3⟩:=h3 hz;subst e1 e2 e3;refine ⟨w,hw,?_⟩
  obtain ⟨i,hi,rfl,hi2⟩:∃ i,O.length≤i∧v' = .slice (some (i,0)) A.length none∧P'[i]? = some (.cells e (A.flatMap f)):=by
   rcases h.val with ⟨h5,_⟩ | ⟨_,i,h5,h6,h7⟩
   ·exact absurd h5 hne
   ·exact ⟨i,h5,h6,h7⟩
  have hl:=aj hi2;have hq:¬ P'.length < P'.length:=by omega
  simp [dx,Heap.size,AVal.under,hl]
 ·have hlt:=h4 hne hz;refine ⟨min w W,by omega,?_⟩;have:W < P.length:=hlt;simp [dx,Heap.size,this]
end Go.Abs

namespace Go.Abs.Zt
open Go.Abs.Zd Go.Abs.Zh
open Go.Abs.Zo hiding T sub
variable {os O:List AObj} {b w:Nat}
def wide (t:Str):List Str:=if t=[74] then [t,[45]] else [t]
def dv (L:List Str):List Str:=L.flatMap wide
theorem md (t:Str):(dt t).length=1:=rfl
section
attribute [-simp] getElem?_pos getElem?_neg List.all_eq_true
attribute [local simp] gz gs nltT nltF iltT iltF ileT nleT dg
theorem l260 {L:List Str} {a:Option (Nat × Nat)} {c:Option Nat} (hL:Row O 1 dt L a) (hb:b≤O.length) (hn:L.length≤1000):∀ (j i w:Nat) (A:List Str) (P:List AObj) (v:AVal),i+j=L.length→A.length≤2*i+1000→O.length≤w→Acc 1 dt O A P v →
  ∃ P' v',∃ W:Nat,Acc 1 dt O (A++dv (L.drop i)) P' v'∧O.length≤W∧∀ (k:AExit→St→Option (AVal × Heap)),
  xK T (.loop code100260L0) ⟨[(3,.val v),(6,.val (.slice a L.length c)),(7,.val (.int .i64 L.length)),(8,.val (.int .i64 i))],⟨P,b,w⟩⟩ (k:=⟨k⟩)=k (.exit 0) ⟨[(3,.val v')],⟨P',b,W⟩⟩
 | 0,i,w,A,P,v,hi,hA,hw,h=>by
  refine ⟨P,v,w,?_,hw,fun k=>?_⟩
  ·rw [br (by omega)]; simpa [dv] using h
  ·rw [ce];simp (disch:=omega) [code100260L0]
 | j+1,i,w,A,P,v,hi,hA,hw,h=>by
  obtain ⟨x,hx⟩:∃ x,L[i]? = some x:=⟨_,ah (by omega)⟩;obtain ⟨p,o,cs,ha,hpp,ht⟩:=vg (h.pre.row hL) hx;subst ha;obtain ⟨P1,v1,n1,h1,hn1,hm1,e1⟩:=h.add (b:=b) md hb (by':=16) (by omega) (by omega) x;have hdx:dv (L.drop i)=wide x++dv (L.drop (i+1)):=by rw [jn hx]; rfl
  have e2:((i+1:Nat):Int)=(i:Int)+1:=by omega
  have hl1:(A++[x]).length=A.length+1:=by simp
  have hs:dt x=[.str x]:=rfl;rw [hs] at e1;by_cases hJ:x=[74]
  ·subst hJ;obtain ⟨P2,v2,n2,h2,hn2,_,e3⟩:=h1.add (b:=b) md hb (by':=16) (by omega) (by omega) [45];have hl2:(A++[[74]]++[[45]]).length=A.length+2:=by simp
   obtain ⟨P',v',W,i1,i2,i3⟩:=l260 (c:=c) hL hb hn j (i+1) (n2 (n1 w)) _ P2 v2 (by omega) (by omega) (hn2 _ (hn1 _ hw)) h2;refine ⟨P',v',W,?_,i2,fun k=>?_⟩
   ·rw [hdx]; simpa [wide] using i1
   ·have ih:=i3 k;rw [e2] at ih;have hs2:dt [45]=[.str [45]]:=rfl;rw [hs2] at e3;rw [ce];generalize ACode.loop code100260L0=LL at ih ⊢;simp (disch:=omega) [-dk,code100260L0,hpp,ht,e1,e3,ih]
  ·obtain ⟨P',v',W,i1,i2,i3⟩:=l260 (c:=c) hL hb hn j (i+1) (n1 w) _ P1 v1 (by omega) (by omega) (hn1 _ hw) h1;refine ⟨P',v',W,?_,i2,fun k=>?_⟩
   ·rw [hdx]; simpa [wide,hJ] using i1
   ·have ih:=i3 k;rw [e2] at ih;rw [ce];generalize ACode.loop code100260L0=LL at ih ⊢;simp (disch:=omega) [-dk,code100260L0,hpp,ht,e1,hJ,ih]
end
theorem idsS (t:Str):AVal.idsL (dt t)=[]:=rfl
theorem renS (g:Nat→Nat) (t:Str):AVal.renL g (dt t)=dt t:=rfl
section
attribute [-simp] getElem?_pos getElem?_neg List.all_eq_true
attribute [local simp] gz gs nltT nltF iltT iltF ileT nleT dg
theorem s260 {L:List Str} {a:Option (Nat × Nat)} {c:Option Nat} (hL:Row O 1 dt L a) (hb:b≤O.length) (hn:L.length≤1000) :
  xCall T 100260 [.slice a L.length c] ⟨O,b,w⟩=some (newV O.length (dv L),⟨newO 1 dt O (dv L),b,w⟩):=by
 obtain ⟨P',v',W,i1,i2,i3⟩:=l260 (c:=c) hL hb hn L.length 0 O.length [] O _ (by omega) (by simp) (ai _) Acc.nil;have hf:=i1.fin (b:=b) (w0:=w) idsS renS i2;simp only [bh,dy,bw] at i3 hf;simp (disch:=omega) [-dk,-dx,av t100260,code100260,i3,hf]
theorem l261 {N:Int} (hb:b≤O.length) (hN:N≤1000):∀ (j i w:Nat) (A:List Str) (P:List AObj) (v:AVal),(i:Int)+j=N→A.length+j≤2000→O.length≤w→Acc 1 dt O A P v →
  ∃ P' v',∃ W:Nat,Acc 1 dt O (A++List.replicate j [84]) P' v'∧(O.length≤W∧W≤w∧(j=0→P'=P∧v'=v∧W=w)∧(A≠[]→0 < j→W < P.length)∧Keeps P P' A.length v)∧∀ (k:AExit→St→Option (AVal × Heap)),
  xK T (.loop code261L0) ⟨[(0,.val v),(9,.val (.int .i64 N)),(10,.val (.int .i64 i))],⟨P,b,w⟩⟩ (k:=⟨k⟩)=k (.exit 0) ⟨[(0,.val v')],⟨P',b,W⟩⟩
 | 0,i,w,A,P,v,hi,hA,hw,h=>by refine ⟨P,v,w,by simpa using h,⟨hw,ai _,fun _=>⟨rfl,rfl,rfl⟩,fun _ h=>absurd h (by omega),fun k o hk _=>hk⟩,fun k=>?_⟩;rw [ce];simp (disch:=omega) [code261L0]
 | j+1,i,w,A,P,v,hi,hA,hw,h=>by
  obtain ⟨P1,v1,n1,h1,hn1,⟨hm1,hk1,hv1⟩,e1⟩:=h.add (b:=b) md hb (by':=16) (by omega) (by omega) [84];have e2:((i+1:Nat):Int)=(i:Int)+1:=by omega
  have hs:dt [84]=[.str [84]]:=rfl;rw [hs] at e1;obtain ⟨P',v',W,i1,⟨i2,i4,_,_,i5⟩,i3⟩:=l261 (N:=N) hb hN j (i+1) (n1 w) _ P1 v1 (by omega) (by simp; omega) (hn1 _ hw) h1;obtain ⟨m1,m2⟩:=hm1 w
  refine ⟨P',v',W,by rw [ka]; simpa using i1,⟨i2,by omega,fun h=>absurd h (by omega),fun hne _=>by have:=m2 hne; omega,fun k o hk hne=>i5 k o (hk1 k o hk hne) (by
   have:=aj hk;rw [hv1]; intro e; injection e with e; injection e with e; injection e with e; omega)⟩,fun k=>?_⟩
  have ih:=i3 k;rw [e2] at ih;rw [ce];generalize ACode.loop code261L0=LL at ih ⊢;simp (disch:=omega) [-dk,code261L0,e1,ih]
theorem l263 {N:Int} (hb:b≤O.length) (hN:N≤1000):∀ (j w:Nat) (A:List Str) (P:List AObj) (v:AVal),(A.length:Int)+j=N→O.length≤w→Acc 1 dt O A P v →
  ∃ P' v',∃ W:Nat,Acc 1 dt O (A++List.replicate j [84]) P' v'∧(O.length≤W∧W≤w∧(j=0→P'=P∧v'=v∧W=w)∧(A≠[]→0 < j→W < P.length)∧Keeps P P' A.length v)∧∀ (k:AExit→St→Option (AVal × Heap)),
  xK T (.loop code263L0) ⟨[(0,.val v),(1,.val (.int .i64 N))],⟨P,b,w⟩⟩ (k:=⟨k⟩)=k (.exit 0) ⟨[(0,.val v')],⟨P',b,W⟩⟩
 | 0,w,A,P,v,hi,hw,h=>by refine ⟨P,v,w,by simpa using h,⟨hw,ai _,fun _=>⟨rfl,rfl,rfl⟩,fun _ h=>absurd h (by omega),fun k o hk _=>hk⟩,fun k=>?_⟩;obtain ⟨p,c,rfl⟩:=h.shape;rw [ce];simp (disch:=omega) [code263L0]
 | j+1,w,A,P,v,hi,hw,h=>by
  obtain ⟨P1,v1,n1,h1,hn1,⟨hm1,hk1,hv1⟩,e1⟩:=h.add (b:=b) md hb (by':=16) (by omega) (by omega) [84];have hs:dt [84]=[.str [84]]:=rfl;rw [hs] at e1;obtain ⟨P',v',W,i1,⟨i2,i4,_,_,i5⟩,i3⟩:=l263 (N:=N) hb hN j (n1 w) _ P1 v1 (by simp; omega) (hn1 _ hw) h1;obtain ⟨m1,m2⟩:=hm1 w
  refine ⟨P',v',W,by rw [ka]; simpa using i1,⟨i2,by omega,fun h=>absurd h (by omega),fun hne _=>by have:=m2 hne; omega,fun k o hk hne=>i5 k o (hk1 k o hk hne) (by
   have:=aj hk;rw [hv1]; intro e; injection e with e; injection e with e; injection e with e; omega)⟩,fun k=>?_⟩
  have ih:=i3 k;obtain ⟨p,c,rfl⟩:=h.shape;rw [ce];generalize ACode.loop code263L0=LL at ih ⊢;simp (disch:=omega) [-dk,code263L0,e1,ih]
end
def fillN (L:List Str) (n:Nat):List Str:=L++List.replicate (n - L.length) [84]
section
attribute [-simp] getElem?_pos getElem?_neg List.all_eq_true
attribute [local simp] gz gs nltT nltF iltT iltF ileT nleT dg
theorem s261 {A:List Str} {P:List AObj} {v:AVal} {n:Nat} (h:Acc 1 dt O A P v) (hb:b≤O.length) (hn:n≤300) (hA:A.length≤n) (hw:O.length≤w) :
  ∃ P' v',∃ w':Nat,Acc 1 dt O (fillN A n) P' v'∧O.length≤w'∧Keeps P P' A.length v∧xCall T 261 [v,.int .i64 (n:Nat)] ⟨P,b,w⟩=some (v',⟨P',b,w'⟩):=by
 have hOP:=h.pre.len;have hmin:min (n:Int) 300=n:=by omega
 by_cases h0:A=[]
 ·subst h0
  obtain rfl:v = .slice none 0 (some 0):=by
   rcases h.val with ⟨_,h1⟩ | ⟨h1,_⟩
   ·exact h1
   ·exact absurd rfl h1
  obtain ⟨P',v',W,i1,i2,i3⟩:=l261 (O:=P) (b:=b) (N:=(n:Int) - (0:Nat)) (by omega) (by omega) n 0 P.length [] P _ (by omega) (by simp; omega) (ai _) Acc.nil;have hf:=i1.fin (b:=b) (w0:=w) idsS renS i2.1;simp only [bh,bw,Int.sub_zero] at i3 hf;refine ⟨_,_,w,Acc.new h.pre,hw,fun k o hk _=>(uy hk),?_⟩;simp (disch:=omega) [-dk,-dx,av t261,code261,i3,hmin,fillN];exact hf
 ·obtain ⟨P',v',W,i1,i2,i3⟩:=l261 (b:=b) (N:=(n:Int) - A.length) (by omega) (by omega) (n - A.length) 0 P.length A P v (by omega) (by omega) hOP h;obtain ⟨w2,hw2,hf⟩:=h.back (b:=b) h0 i1 ⟨i2.1,i2.2.1,i2.2.2.1,i2.2.2.2.1⟩ hw;simp only [bh] at i3;obtain ⟨p,c,rfl⟩:=h.shape;refine ⟨P',v',w2,i1,hw2,i2.2.2.2.2,?_⟩;simp (disch:=omega) [-dk,-dx,av t261,code261,i3,hmin,hf]
theorem s263 {A:List Str} {P:List AObj} {v:AVal} {n:Nat} (h:Acc 1 dt O A P v) (hb:b≤O.length) (hn:n≤300) (hA:A.length≤n) (hw:O.length≤w) :
  ∃ P' v',∃ w':Nat,Acc 1 dt O (fillN A n) P' v'∧O.length≤w'∧Keeps P P' A.length v∧xCall T 263 [v,.int .i64 (n:Nat)] ⟨P,b,w⟩=some (v',⟨P',b,w'⟩):=by
 have hOP:=h.pre.len;by_cases h0:A=[]
 ·subst h0
  obtain rfl:v = .slice none 0 (some 0):=by
   rcases h.val with ⟨_,h1⟩ | ⟨h1,_⟩
   ·exact h1
   ·exact absurd rfl h1
  obtain ⟨P',v',W,i1,i2,i3⟩:=l263 (O:=P) (b:=b) (N:=(n:Int)) (by omega) (by omega) n P.length [] P _ (by simp) (ai _) Acc.nil;have hf:=i1.fin (b:=b) (w0:=w) idsS renS i2.1;simp only [bw] at hf;refine ⟨_,_,w,Acc.new h.pre,hw,fun k o hk _=>(uy hk),?_⟩;simp (disch:=omega) [-dk,-dx,av t263,code263,i3,fillN];exact hf
 ·obtain ⟨P',v',W,i1,i2,i3⟩:=l263 (b:=b) (N:=(n:Int)) (by omega) (by omega) (n - A.length) P.length A P v (by omega) hOP h;obtain ⟨w2,hw2,hf⟩:=h.back (b:=b) h0 i1 ⟨i2.1,i2.2.1,i2.2.2.1,i2.2.2.2.1⟩ hw;obtain ⟨p,c,rfl⟩:=h.shape;refine ⟨P',v',w2,i1,hw2,i2.2.2.2.2,?_⟩;simp (disch:=omega) [-dk,-dx,av t263,code263,i3,hf]
end
theorem mapS (l:List Str):l.map AVal.str=l.flatMap dt:=by
 induction l with
 | nil=>rfl
 | cons a l ih=>rw [b0,cj,ih]; rfl
theorem zbu:∀ A:List Str,strsOf (A.map AVal.str)=some A
 | []=>rfl
 | a :: A=>by rw [b0]; simp only [strsOf]; rw [zbu A]; rfl
theorem rowStrsC {P:List AObj} {A:List Str} {i:Nat} (h:P[i]? = some (.cells 1 (A.flatMap dt))):my (some (i,0)) A.length ⟨P,b,w⟩=some A:=by
 unfold my;by_cases hz:A.length=0
 ·rw [if_pos hz,bc hz]
 ·rw [if_neg hz];rw [← mapS] at h;simp only [h];rw [if_pos (by simp),dy,ff (by simp)];exact zbu A
theorem s262 {A:List Str} {P:List AObj} {v:AVal} {x:Str} (h:Acc 1 dt O A P v) (hb:b≤O.length) (hA:A.length≤10000) (hw:O.length≤w) :
  ∃ P' v',∃ w':Nat,Acc 1 dt O (x :: A) P' v'∧O.length≤w'∧xCall T 262 [v,.int .i64 0,.slice (some (P.length,0)) 1 (some 1)] ⟨P++[.cells 1 [.str x]],b,w⟩=some (v',⟨P',b,w'⟩):=by
 have hOP:=h.pre.len;have r2:my (some (P.length,0)) 1 ⟨P++[AObj.cells 1 [.str x]],b,w⟩=some [x]:=rowStrsC (A:=[x]) (by rw [dj]; rfl);rw [xLib_eq' T t262 _ _ (F:=tg)];rcases h.val with ⟨rfl,rfl⟩ | ⟨hne,i,hi,rfl,hi2⟩
 ·refine ⟨_,.slice (some (P.length+1,0)) 1 none,w,⟨(h.pre.trans (Pre.app P [AObj.cells 1 [.str x]])).trans (Pre.app _ [.cells 1 [.str x]]),.inr ⟨by simp,P.length+1,by omega,rfl,?_⟩⟩,hw,?_⟩
  ·rw [ak (by simp)]; simp [dt]
  ·have r1:my none 0 ⟨P++[AObj.cells 1 [.str x]],b,w⟩=some []:=rfl;simp only [tg,r1,r2];have hc:(0:Int)≤0∧(0:Int)≤(0:Nat)∧0 < 1∧(0+1)*16≤140737488355328∧(⟨P++[AObj.cells 1 [.str x]],b,w⟩:Heap).base≤P.length:=⟨by omega,by omega,by omega,by omega,by show b≤_; omega⟩;rw [if_pos hc];simp [Heap.puts,Heap.push,Heap.size]
 ·have hl:=aj hi2;have hiX:(P++[AObj.cells 1 [.str x]])[i]? = some (.cells 1 (A.flatMap dt)):=by rw [ag hl]; exact hi2
  have r1:my (some (i,0)) A.length ⟨P++[AObj.cells 1 [.str x]],b,w⟩=some A:=rowStrsC hiX;refine ⟨(P++[AObj.cells 1 [.str x]]).set i .dead++[.cells 1 ((x :: A).flatMap dt)],.slice (some (P.length+1,0)) (A.length+1) none,min w i,⟨((h.pre.trans (Pre.app P [AObj.cells 1 [.str x]])).set .dead hi).trans (Pre.app _ _),.inr ⟨by simp,P.length+1,by omega,rfl,?_⟩⟩,by omega,?_⟩
  ·rw [ak (by simp)]; simp
  ·simp only [tg,r1,r2];have hc:(0:Int)≤0∧(0:Int)≤A.length∧0 < 1∧(A.length+1)*16≤140737488355328∧(⟨P++[AObj.cells 1 [.str x]],b,w⟩:Heap).base≤P.length:=⟨by omega,by omega,by omega,by omega,by show b≤_; omega⟩
   have hr:rowIs ⟨P++[AObj.cells 1 [.str x]],b,w⟩ i 1=true:=by unfold rowIs Heap.get;simp only [hiX];simp
   rw [if_pos hc,if_pos ⟨by show b≤i; omega,by omega,hr⟩];have hfl:(x :: A).flatMap dt=AVal.str x :: A.map AVal.str:=by rw [← mapS]; rfl
   simp [Heap.puts,Heap.push,Heap.put,Heap.size,hfl]
theorem l264 {L:List Str} {a:Option (Nat × Nat)} {c:Option Nat} (hL:Row O 1 dt L a) (hb:b≤O.length) (hn:L.length≤1000):∀ (j i w:Nat) (A:List Str) (P:List AObj) (v:AVal),i+j=L.length→A.length≤2*i+1000→O.length≤w→Acc 1 dt O A P v →
  ∃ P' v',∃ W:Nat,Acc 1 dt O (A++dv (L.drop i)) P' v'∧O.length≤W∧∀ (k:AExit→St→Option (AVal × Heap)),
  xK T (.loop code100264L0) ⟨[(3,.val v),(6,.val (.slice a L.length c)),(7,.val (.int .i64 L.length)),(8,.val (.int .i64 i))],⟨P,b,w⟩⟩ (k:=⟨k⟩)=k (.exit 0) ⟨[(3,.val v')],⟨P',b,W⟩⟩:=l260 hL hb hn
theorem s264 {L:List Str} {a:Option (Nat × Nat)} {c:Option Nat} (hL:Row O 1 dt L a) (hb:b≤O.length) (hn:L.length≤1000) :
  xCall T 100264 [.slice a L.length c] ⟨O,b,w⟩=some (newV O.length (dv L),⟨newO 1 dt O (dv L),b,w⟩):=by
 obtain ⟨P',v',W,i1,i2,i3⟩:=l264 (c:=c) hL hb hn L.length 0 O.length [] O _ (by omega) (by simp) (ai _) Acc.nil;have hf:=i1.fin (b:=b) (w0:=w) idsS renS i2;simp only [bh,dy,bw] at i3 hf;simp (disch:=omega) [-getElem?_pos,-getElem?_neg,-List.all_eq_true,gz,gs,nltT,nltF,iltT,iltF,ileT,nleT,dg,-dk,-dx,av t100264,code100264,i3,hf]
end Go.Abs.Zt

namespace Go.Abs.Zt
open Go.Abs.Zd Go.Abs.Zh
open Go.Abs.Zo hiding T sub
variable {os O:List AObj} {b w:Nat}
structure RowN (O P:List AObj) (L:List Str) (a:Option (Nat × Nat)):Prop where
 r:Row P 1 dt L a
 o:over O.length a
theorem accN {A:List Str} {P:List AObj} {v:AVal} (h:Acc 1 dt O A P v):∃ a c,v = .slice a A.length c∧RowN O P A a:=by
 rcases h.val with ⟨rfl,rfl⟩ | ⟨_,i,hi,rfl,h2⟩
 ·exact ⟨none,_,rfl,⟨fun h=>absurd rfl h⟩,fun i o h=>by cases h⟩
 ·exact ⟨_,_,rfl,Row.mk0 md h2,fun j o h=>by cases h; exact hi⟩
theorem RowN.nil {P:List AObj}:RowN O P [] none:=⟨⟨fun h=>absurd rfl h⟩,fun i o h=>by cases h⟩
theorem mapid (L:List Str):L.map (fun x=>x)=L:=List.map_id L
theorem lf {P:List AObj} {L1 L2:List Str} {a1 a2:Option (Nat × Nat)} {c1 c2:Option Nat} {W:Nat} {e:Int} (hp:Pre O P) (h1:RowN O P L1 a1) (h2:RowN O P L2 a2) (hW:O.length≤W) {n0:Nat} (h0:n0≤O.length) (hw:n0≤w) :
  ∃ P' a1' a2',∃ w':Nat,dx ⟨O,b,w⟩ (.tuple [.agg [.slice a1 L1.length c1,.slice a2 L2.length c2],.int .i64 e]) ⟨P,b,W⟩=(.tuple [.agg [.slice a1' L1.length c1,.slice a2' L2.length c2],.int .i64 e],⟨P',b,w'⟩) ∧
   Pre O P'∧n0≤w'∧Row P' 1 dt L1 a1'∧Row P' 1 dt L2 a2':=by
 cases hv:(AVal.tuple [.agg [.slice a1 L1.length c1,.slice a2 L2.length c2],.int .i64 e]).under O.length with
 | true =>
  have n1:a1=none:=by
   cases a1 with
   | none=>rfl
   | some p =>
    obtain ⟨i,o⟩:=p;have:=h1.o i o rfl;simp [AVal.under,AVal.unders] at hv;omega
  have n2:a2=none:=by
   cases a2 with
   | none=>rfl
   | some p =>
    obtain ⟨i,o⟩:=p;have:=h2.o i o rfl;simp [AVal.under,AVal.unders] at hv;omega
  subst n1 n2;refine ⟨O,none,none,w,?_,Pre.refl _,hw,?_,?_⟩
  ·have hq:¬ W < O.length:=by omega
   simp only [dx,Heap.size,hv,if_neg hq,if_true]
  ·have:L1=[]:=by
    rcases L1 with _ | ⟨x,L⟩
    ·rfl
    ·obtain ⟨p,o,cs,h,_⟩:=h1.r.at' (by simp); cases h
   subst this; exact ⟨fun h=>absurd rfl h⟩
  ·have:L2=[]:=by
    rcases L2 with _ | ⟨x,L⟩
    ·rfl
    ·obtain ⟨p,o,cs,h,_⟩:=h2.r.at' (by simp); cases h
   subst this; exact ⟨fun h=>absurd rfl h⟩
 | false =>
  rcases tf (h0:=⟨O,b,w⟩) (h:=⟨P,b,W⟩) hv with ⟨w',e1,e2⟩ | ⟨_,f,I,X,e1,hm,hI⟩
  ·refine ⟨P,a1,a2,w',e1,hp,?_,h1.r,h2.r⟩;rcases e2 with e2 | ⟨e2,_⟩
   ·have:w'=min w W:=e2;omega
   ·have:w'=w:=e2;omega
  ·have i1:inI I a1:=fun i o h=>hI i (by subst h; simp [AVal.ids,AVal.idsL]) (h1.o i o h)
   have i2:inI I a2:=fun i o h=>hI i (by subst h; simp [AVal.ids,AVal.idsL]) (h2.o i o h)
   have r1:=hm.row (g:=fun x=>x) h1.r i1 xi;have r2:=hm.row (g:=fun x=>x) h2.r i2 xi;rw [mapid] at r1 r2;refine ⟨O++X,renA f a1,renA f a2,w,?_,Pre.app _ _,hw,r1,r2⟩;rw [e1];simp only [AVal.ren,AVal.renL,zbk]
theorem l0 {P:List AObj} {W:Nat} {e:Int} (hW:O.length≤W):dx ⟨O,b,w⟩ (.tuple [.agg [.slice none 0 (some 0),.slice none 0 (some 0)],.int .i64 e]) ⟨P,b,W⟩=(.tuple [.agg [.slice none 0 (some 0),.slice none 0 (some 0)],.int .i64 e],⟨O,b,w⟩):=by
 have hq:¬ W < O.length:=by omega
 simp [dx,Heap.size,hq,AVal.under,AVal.unders]
theorem s32 {s:Str} {h:Heap} (hn:s.length≤1000000):xCall T 32 [.str s] h=some (.str (76 :: s++[59]),h):=by
 have z1:1+s.length≤9223372036854775807:=by omega
 have z2:s.length+1+1≤9223372036854775807:=by omega
 obtain ⟨os,b,w⟩:=h;simp (disch:=omega) [-getElem?_pos,-getElem?_neg,-List.all_eq_true,gz,gs,nltT,nltF,iltT,iltF,ileT,nleT,dg,av t32,code32,z1,z2]
theorem meth_new {A:List Str} {r:Str}:methV O.length (some (A,r)) = .tuple [newV O.length A,.str r,.int .i64 0]∧methO O (some (A,r))=newO 1 dt O A:=by
 cases A with
 | nil=>exact ⟨rfl,rfl⟩
 | cons a A=>exact ⟨rfl,by unfold methO newO; rw [if_neg (by simp),← mapS]⟩
theorem mb:∀ L:List Str,(dv L).length≤2*L.length
 | []=>by simp [dv]
 | a :: L=>by
  have:=mb L;unfold dv at this ⊢;rw [cj,aq,bg];have:(wide a).length≤2:=by unfold wide; split <;> simp
  omega
theorem methL_few {s:Str} {A:List Str} {r:Str} (h:methL s=some (A,r)):A.length≤16:=by
 unfold methL at h;split at h
 ·split at h
  ·rename_i A' r' h2;split at h
   ·cases h; exact (ov h2).1
   ·cases h
  ·cases h
 ·cases h
def startF (n:Str) (m:MethU) (A:List Str):List Str:=(if m.st then [] else [76 :: n++[59]])++dv A
def startN (n:Str) (m:MethU):Option (List Str) :=
 match methL m.desc with
 | none=>none
 | some (A,_)=>if m.locals < (startF n m A).length then none else some (fillN (startF n m A) m.locals.toNat)
def errN (o:Option (List Str)):Int:=if o.isSome then 0 else 8
section
attribute [-simp] getElem?_pos getElem?_neg List.all_eq_true
attribute [local simp] gz gs nltT nltF iltT iltF ileT nleT dg
theorem s239 {n:Str} {m:MethU} (hb:b≤O.length) (hd:m.desc.length≤300) (hn:n.length≤300) (hl:m.locals≤250) {n0:Nat} (h0:n0≤O.length) (hw:n0≤w) :
  ∃ P' a c a2 c2,∃ w':Nat,xCall T 239 [.str n,.agg m.cells] ⟨O,b,w⟩=some (.tuple [.agg [.slice a ((startN n m).getD []).length c,.slice a2 0 c2],.int .i64 (errN (startN n m))],⟨P',b,w'⟩) ∧
   Pre O P'∧n0≤w'∧Row P' 1 dt ((startN n m).getD []) a:=by
 have h38:=fun w=>fj subT (Zh.s38 (os:=O) (b:=b) (w:=w) (s:=m.desc) (by omega) hb)
 have hcm:m.cells=[.bool m.st,.str m.name,.str m.desc,.int .i64 m.stack,.int .i64 m.locals,.slice m.ca m.code.length m.cc,.slice m.ta m.traps.length m.tc,.slice m.xa m.maps.length m.xc]:=rfl;unfold startN;cases hm:methL m.desc with
 | none =>
  rw [hm] at h38;simp only [methV,methO] at h38;refine ⟨O,none,some 0,none,some 0,w,?_,Pre.refl _,hw,⟨fun h=>absurd rfl h⟩⟩;simp (disch:=omega) [-dk,av t239,code239,hcm,h38,errN]
 | some q =>
  obtain ⟨A,r⟩:=q;have hA:=methL_few hm;have hE:=mb A;rw [hm,meth_new.1,meth_new.2] at h38;have hp1:Pre O (newO 1 dt O A):=qd;have hr1:Row (newO 1 dt O A) 1 dt A (newA O.length A):=new_row md;rw [newV_eq] at h38;generalize newO 1 dt O A=O1 at *;generalize newA O.length A=a1 at *;generalize newC A=c1 at *;have hb1:b≤O1.length:=by have:=hp1.len; omega
  have h260:=fun w=>s260 (b:=b) (w:=w) (c:=c1) hr1 hb1 (by omega)
  have hacc:Acc 1 dt O (dv A) (newO 1 dt O1 (dv A)) (newV O1.length (dv A)):=Acc.new hp1;obtain ⟨p2,c2,hv2⟩:=hacc.shape;generalize newO 1 dt O1 (dv A)=O2 at *;generalize newV O1.length (dv A)=v2 at *;have hO2:=hacc.pre.len
  have hFl:(startF n m A).length≤40:=by
   unfold startF;rw [aq];have:(if m.st then [] else [76 :: n++[59]]:List Str).length≤1:=by split <;> simp
   omega
  by_cases hst:m.st=true
  ·have hF:startF n m A=dv A:=by simp [startF,hst]
   simp only [hF] at hFl ⊢;by_cases hbig:m.locals < (dv A).length
   ·rw [if_pos hbig];have hf:=l0 (O:=O) (P:=O2) (b:=b) (w:=w) (W:=O.length) (e:=8) (ai _);refine ⟨O,none,some 0,none,some 0,w,?_,Pre.refl _,hw,⟨fun h=>absurd rfl h⟩⟩;subst hv2;simp (disch:=omega) [-dk,-dx,av t239,code239,hcm,h38,h260,hst,hbig,hf,errN]
   ·rw [if_neg hbig];obtain ⟨q,hq⟩:=en (show 0≤m.locals by omega);rw [hq] at hbig hl hcm ⊢;obtain ⟨X,v,w3,g1,g2,_,g3⟩:=s261 (n:=q) (w:=O.length) hacc hb (by omega) (by omega) (ai _);obtain ⟨a4,c4,rfl,g4⟩:=accN g1;obtain ⟨P',a',a2',w',hf,k1,k2,k3,k4⟩:=lf (b:=b) (w:=w) (e:=0) (c1:=c4) (c2:=some 0) g1.pre g4 (RowN.nil (O:=O)) g2 h0 hw;refine ⟨P',a',c4,a2',some 0,w',?_,k1,k2,k3⟩;simp only [bp] at hf;subst hv2;simp (disch:=omega) [-dk,-dx,av t239,code239,hcm,h38,h260,g3,hst,hbig,hf,errN]
  ·have hF:startF n m A=(76 :: n++[59]) :: dv A:=by simp [startF,hst]
   have hst:m.st=false:=by simpa using hst
   obtain ⟨O3,v3,w3,a3,b3,h262⟩:=s262 (w:=O.length) (x:=76 :: n++[59]) hacc hb (by omega) (ai _);have h32:=fun h=>s32 (h:=h) (s:=n) (by omega)
   rw [← hF] at a3;dsimp only;generalize 76 :: n++[59]=ob at *;generalize startF n m A=G at *;obtain ⟨p3,c3,hv3⟩:=a3.shape;by_cases hbig:m.locals < G.length
   ·rw [if_pos hbig];have hf:=l0 (O:=O) (P:=O3) (b:=b) (w:=w) (W:=w3) (e:=8) b3;refine ⟨O,none,some 0,none,some 0,w,?_,Pre.refl _,hw,⟨fun h=>absurd rfl h⟩⟩;subst hv3;simp (disch:=omega) [-dk,-dx,av t239,code239,hcm,h38,h260,h32,h262,hst,hbig,hf,errN]
   ·rw [if_neg hbig];obtain ⟨q,hq⟩:=en (show 0≤m.locals by omega);rw [hq] at hbig hl hcm ⊢;obtain ⟨X,v,w4,g1,g2,_,g3⟩:=s261 (n:=q) (w:=w3) a3 hb (by omega) (by omega) b3;obtain ⟨a4,c4,rfl,g4⟩:=accN g1;obtain ⟨P',a',a2',w',hf,k1,k2,k3,k4⟩:=lf (b:=b) (w:=w) (e:=0) (c1:=c4) (c2:=some 0) g1.pre g4 (RowN.nil (O:=O)) g2 h0 hw;refine ⟨P',a',c4,a2',some 0,w',?_,k1,k2,k3⟩;simp only [bp] at hf;subst hv3;simp (disch:=omega) [-dk,-dx,av t239,code239,hcm,h38,h260,h32,h262,g3,hst,hbig,hf,errN]
end
end Go.Abs.Zt

namespace Go.Abs.Zt
open Go.Abs.Zd Go.Abs.Zh
open Go.Abs.Zo hiding T sub
variable {os O:List AObj} {b w:Nat}
theorem newV_row {P:List AObj} {E:List Str} {w:Nat}:gx 1 ⟨newO 1 dt P E,b,w⟩ (newV P.length E)=some (E.flatMap dt):=by
 unfold newO newV;by_cases h:E=[]
 ·subst h; rfl
 ·rw [if_neg h,if_neg h];exact ly (by rw [dj]; rfl) (by rw [pa dt 1 md,Nat.mul_one])
theorem newV_len {n:Nat} {E:List Str}:alen (newV n E)=E.length:=by
 unfold newV;split
 ·rename_i h; rw [h]; rfl
 ·rfl
theorem app_nil {P:List AObj} {E:List Str} (hp:Pre O P) (hE:E.length≤1000) :
  ∃ X v,Acc 1 dt O E X v∧∀ w,dk 1 16 ⟨newO 1 dt P E,b,w⟩ (.slice none 0 (some 0)) (newV P.length E)=some (v,⟨X,b,w⟩):=by
 by_cases h:E=[]
 ·subst h;exact ⟨P,.slice none 0 (some 0),⟨hp,.inl ⟨rfl,rfl⟩⟩,fun w=>rfl⟩
 ·have hl:¬ E.length=0:=fun e=>h (bc e)
  have hp2:=hp.trans (qd (O:=P) (f:=dt) (e:=1) (A:=E));refine ⟨newO 1 dt P E++[.cells 1 (E.flatMap dt)],.slice (some ((newO 1 dt P E).length,0)) E.length none,⟨hp2.trans (Pre.app _ _),.inr ⟨h,_,hp2.len,rfl,by rw [dj]; rfl⟩⟩,fun w=>?_⟩;unfold dk;simp only [oa,newV_row,newV_len,aApp];have q2:(0+E.length)*16≤140737488355328∧0+E.length≤9223372036854775807:=⟨by omega,by omega⟩;simp only [eq_false hl,eq_true q2,if_false,if_true];simp [Heap.push,Heap.size]
theorem app_one {P:List AObj} {E:List Str} {ob:Str} {k:Nat} (hp:Pre O P) (hO:O.length≤k) (hk:P[k]? = some (.cells 1 [.str ob])) (h:E≠[]) (hE:E.length≤1000) :
  ∃ X v,Acc 1 dt O (ob :: E) X v∧∀ w,dk 1 16 ⟨newO 1 dt P E,b,w⟩ (.slice (some (k,0)) 1 (some 1)) (newV P.length E)=some (v,⟨X,b,w⟩):=by
 have hl:¬ E.length=0:=fun e=>h (bc e)
 have hp2:=hp.trans (qd (O:=P) (f:=dt) (e:=1) (A:=E))
 have hk2:(newO 1 dt P E)[k]? = some (.cells 1 [.str ob]):=by unfold newO;rw [if_neg h,ag (aj hk)]; exact hk
 have hr:∀ w,gx 1 ⟨newO 1 dt P E,b,w⟩ (.slice (some (k,0)) 1 (some 1))=some [.str ob]:=fun w=>ly hk2 (by rfl)
 refine ⟨newO 1 dt P E++[.cells 1 ((ob :: E).flatMap dt)],.slice (some ((newO 1 dt P E).length,0)) (ob :: E).length none,⟨hp2.trans (Pre.app _ _),.inr ⟨by simp,_,hp2.len,rfl,by rw [dj]; rfl⟩⟩,fun w=>?_⟩;unfold dk;simp only [hr,newV_row,newV_len,aApp];have q2:(1+E.length)*16≤140737488355328∧1+E.length≤9223372036854775807:=⟨by omega,by omega⟩;simp only [eq_false hl,eq_true q2,if_false,if_true];have e1:1+E.length=(ob :: E).length:=by simp; omega
 simp only [Heap.push,Heap.size,e1];rfl
section
attribute [-simp] getElem?_pos getElem?_neg List.all_eq_true
attribute [local simp] gz gs nltT nltF iltT iltF ileT nleT dg
theorem s263c {P:List AObj} {ob:Str} {k n:Nat} (hp:Pre O P) (hO:O.length≤k) (hk:P[k]? = some (.cells 1 [.str ob])) (hb:b≤O.length) (hn:n≤300) (h1:1≤n) (hw:O.length≤w) :
  ∃ P' a c,∃ w':Nat,Pre O P'∧RowN O P' (fillN [ob] n) a∧O.length≤w'∧xCall T 263 [.slice (some (k,0)) 1 (some 1),.int .i64 (n:Nat)] ⟨P,b,w⟩=some (.slice a (fillN [ob] n).length c,⟨P',b,w'⟩):=by
 have hOP:=hp.len;have hkl:=aj hk;by_cases hn1:n=1
 ·subst hn1;refine ⟨P,some (k,0),some 1,w,hp,⟨Row.mk0 md hk,fun i o e=>by cases e; exact hO⟩,hw,?_⟩;have hf:fillN [ob] 1=[ob]:=rfl;rw [hf];have hl:(ACode.loop code263L0)=ACode.loop code263L0:=rfl
  have h0:∀ (w:Nat) (kk:AExit→St→Option (AVal × Heap)),xK T (.loop code263L0) ⟨[(0,.val (.slice (some (k,0)) 1 (some 1))),(1,.val (.int .i64 (1:Int)))],⟨P,b,w⟩⟩ (k:=⟨kk⟩)=kk (.exit 0) ⟨[(0,.val (.slice (some (k,0)) 1 (some 1)))],⟨P,b,w⟩⟩:=fun w kk=>by rw [ce];simp (disch:=omega) [code263L0]
  simp (disch:=omega) [-dk,av t263,code263,h0,hkl,AVal.under]
 ·have hz:∀ w,gx 1 ⟨P++[.cells 1 (dt [84])],b,w⟩ (.slice (some (P.length,0)) 1 (some 1))=some (dt [84]):=fun w =>
   ly (by show (P++[AObj.cells 1 (dt [84])])[P.length]? = _; rw [dj]; rfl) rfl
  have hr:∀ w,gx 1 ⟨P++[.cells 1 (dt [84])],b,w⟩ (.slice (some (k,0)) 1 (some 1))=some [.str ob]:=fun w =>
   ly (by rw [ag hkl]; exact hk) rfl
  have e1:∀ w,dk 1 16 ⟨P++[.cells 1 [.str [84]]],b,w⟩ (.slice (some (k,0)) 1 (some 1)) (.slice (some (P.length,0)) 1 (some 1))=some (.slice (some (P.length+1,0)) 2 none,⟨P++[.cells 1 [.str [84]],.cells 1 [.str ob,.str [84]]],b,w⟩):=fun w=>by have hz:=hz w;have hr:=hr w;have hs:dt [84]=[.str [84]]:=rfl;rw [hs] at hz hr;unfold dk;simp only [hz,hr,aApp,alen];simp [Heap.push,Heap.size]
  have hacc:Acc 1 dt P [ob,[84]] (P++[.cells 1 [.str [84]],.cells 1 [.str ob,.str [84]]]) (.slice (some (P.length+1,0)) 2 none) :=
   ⟨Pre.app _ _,.inr ⟨by simp,P.length+1,by omega,rfl,by rw [d8]; rfl⟩⟩
  obtain ⟨P',v',W,i1,i2,i3⟩:=l263 (O:=P) (b:=b) (N:=(n:Int)) (by omega) (by omega) (n - 2) P.length _ _ _ (by simp; omega) (ai _) hacc;have hf:=i1.fin (b:=b) (w0:=w) idsS renS i2.1
  have hL:[ob,[84]]++List.replicate (n - 2) [84]=fillN [ob] n:=by unfold fillN;obtain ⟨q,rfl⟩:∃ q,n=q+2:=⟨n - 2,by omega⟩;simp [ka]
  rw [hL] at hf;have hac2:Acc 1 dt O (fillN [ob] n) _ _:=Acc.new hp;obtain ⟨a,c,hv,hrn⟩:=accN hac2;refine ⟨_,a,c,w,hac2.pre,hrn,hw,?_⟩;rw [← hv]
  have h0:∀ (kk:AExit→St→Option (AVal × Heap)),xK T (.loop code263L0) ⟨[(0,.val (.slice (some (k,0)) 1 (some 1))),(1,.val (.int .i64 (n:Int)))],⟨P,b,P.length⟩⟩ (k:=⟨kk⟩)=kk (.exit 0) ⟨[(0,.val v')],⟨P',b,W⟩⟩:=fun kk=>by
   have ih:=i3 kk;have hlt:(1:Int) < n:=by omega
   rw [ce];generalize ACode.loop code263L0=LL at ih ⊢;simp (disch:=omega) [-dk,code263L0,e1,ih,hlt]
  simp (disch:=omega) [-dk,-dx,av t263,code263,h0,hf]
theorem s238 {n:Str} {m:MethU} (hb:b≤O.length) (hd:m.desc.length≤300) (hn:n.length≤300) (hl:m.locals≤250) {n0:Nat} (h0:n0≤O.length) (hw:n0≤w) :
  ∃ P' a c a2 c2,∃ w':Nat,xCall T 238 [.str n,.agg m.cells] ⟨O,b,w⟩=some (.tuple [.agg [.slice a ((startN n m).getD []).length c,.slice a2 0 c2],.int .i64 (errN (startN n m))],⟨P',b,w'⟩) ∧
   Pre O P'∧n0≤w'∧Row P' 1 dt ((startN n m).getD []) a:=by
 have h37:=fun w=>fj subT (Zh.s37 (os:=O) (b:=b) (w:=w) (s:=m.desc) (by omega) hb)
 have hcm:m.cells=[.bool m.st,.str m.name,.str m.desc,.int .i64 m.stack,.int .i64 m.locals,.slice m.ca m.code.length m.cc,.slice m.ta m.traps.length m.tc,.slice m.xa m.maps.length m.xc]:=rfl;unfold startN;cases hm:methL m.desc with
 | none =>
  rw [hm] at h37;simp only [methV,methO] at h37;refine ⟨O,none,some 0,none,some 0,w,?_,Pre.refl _,hw,⟨fun h=>absurd rfl h⟩⟩;simp (disch:=omega) [-dk,av t238,code238,hcm,h37,errN]
 | some q =>
  obtain ⟨A,r⟩:=q;have hA:=methL_few hm;have hE:=mb A;rw [hm,meth_new.1,meth_new.2] at h37;have hp1:Pre O (newO 1 dt O A):=qd;have hr1:Row (newO 1 dt O A) 1 dt A (newA O.length A):=new_row md;rw [newV_eq] at h37;generalize newO 1 dt O A=O1 at *;generalize newA O.length A=a1 at *;generalize newC A=c1 at *;have hb1:b≤O1.length:=by have:=hp1.len; omega
  have hFl:(startF n m A).length≤40:=by
   unfold startF;rw [aq];have:(if m.st then [] else [76 :: n++[59]]:List Str).length≤1:=by split <;> simp
   omega
  have hO1:=hp1.len;by_cases hst:m.st=true
  ·have hF:startF n m A=dv A:=by simp [startF,hst]
   simp only [hF] at hFl ⊢;have h264:=fun w=>s264 (b:=b) (w:=w) (c:=c1) hr1 hb1 (by omega)
   obtain ⟨X,v,a3,happ⟩:=app_nil (b:=b) (P:=O1) (E:=dv A) hp1 (by omega);generalize newV O1.length (dv A)=v2 at *;generalize newO 1 dt O1 (dv A)=O2 at *;obtain ⟨p3,c3,hv3⟩:=a3.shape;by_cases hbig:m.locals < (dv A).length
   ·rw [if_pos hbig];have hf:=l0 (O:=O) (P:=X) (b:=b) (w:=w) (W:=O.length) (e:=8) (ai _);refine ⟨O,none,some 0,none,some 0,w,?_,Pre.refl _,hw,⟨fun h=>absurd rfl h⟩⟩;subst hv3;simp (disch:=omega) [-dk,-dx,av t238,code238,hcm,h37,h264,happ,hst,hbig,hf,errN]
   ·rw [if_neg hbig];obtain ⟨q,hq⟩:=en (show 0≤m.locals by omega);rw [hq] at hbig hl hcm ⊢;have hmin:min (q:Int) 300=q:=by omega
    obtain ⟨Y,v',w4,g1,g2,_,g3⟩:=s263 (n:=q) (w:=O.length) a3 hb (by omega) (by omega) (ai _);obtain ⟨a4,c4,rfl,g4⟩:=accN g1;obtain ⟨P',a',a2',w',hf,k1,k2,k3,k4⟩:=lf (b:=b) (w:=w) (e:=0) (c1:=c4) (c2:=some 0) g1.pre g4 (RowN.nil (O:=O)) g2 h0 hw;refine ⟨P',a',c4,a2',some 0,w',?_,k1,k2,k3⟩;simp only [bp] at hf;subst hv3;simp (disch:=omega) [-dk,-dx,av t238,code238,hcm,h37,h264,happ,g3,hst,hbig,hmin,hf,errN]
  ·have hF:startF n m A=(76 :: n++[59]) :: dv A:=by simp [startF,hst]
   have hst:m.st=false:=by simpa using hst
   have z1:1+n.length≤9223372036854775807:=by omega
   have z2:n.length+1+1≤9223372036854775807:=by omega
   have hob:(76 :: n:List UInt8)++[59]=76 :: (n++[59]):=rfl;rw [hob] at hF;generalize hob2:76 :: (n++[59])=ob at hF;have hp2:Pre O (O1++[.cells 1 [.str ob]]):=hp1.trans (Pre.app _ _);have hr2:Row (O1++[.cells 1 [.str ob]]) 1 dt A a1:=(Pre.app O1 [.cells 1 [.str ob]]).row hr1;have hk2:(O1++[AObj.cells 1 [.str ob]])[O1.length]? = some (.cells 1 [.str ob]):=by rw [dj]; rfl
   have hb2:b≤(O1++[AObj.cells 1 [.str ob]]).length:=by simp; omega
   have h264:=fun w=>s264 (b:=b) (w:=w) (c:=c1) hr2 hb2 (by omega)
   have hOk:O.length≤O1.length:=hO1;dsimp only;by_cases hE0:dv A=[]
   ·rw [hE0] at hF h264;rw [hF] at hFl ⊢;have hv0:newV (O1++[AObj.cells 1 [.str ob]]).length ([]:List Str) = .slice none 0 (some 0):=rfl;have hO0:newO 1 dt (O1++[AObj.cells 1 [.str ob]]) []=O1++[AObj.cells 1 [.str ob]]:=rfl;rw [hv0,hO0] at h264;have hro:∀ w,gx 1 ⟨O1++[AObj.cells 1 [.str ob]],b,w⟩ (.slice (some (O1.length,0)) 1 (some 1))=some [.str ob]:=fun w=>ly hk2 rfl
    have happ:∀ w,dk 1 16 ⟨O1++[AObj.cells 1 [.str ob]],b,w⟩ (.slice (some (O1.length,0)) 1 (some 1)) (.slice none 0 (some 0))=some (.slice (some (O1.length,0)) 1 (some 1),⟨O1++[AObj.cells 1 [.str ob]],b,w⟩):=fun w=>by unfold dk;simp only [hro,oa,aApp,alen,if_true]
    have hl1:([ob]:List Str).length=1:=rfl;by_cases hbig:m.locals < ([ob]:List Str).length
    ·rw [if_pos hbig];have hbig:m.locals < 1:=by simpa using hbig
     have hf:=l0 (O:=O) (P:=O1++[AObj.cells 1 [.str ob]]) (b:=b) (w:=w) (W:=O.length) (e:=8) (ai _);refine ⟨O,none,some 0,none,some 0,w,?_,Pre.refl _,hw,⟨fun h=>absurd rfl h⟩⟩;simp (disch:=omega) [-dk,-dx,av t238,code238,hcm,h37,h264,happ,hst,hbig,hf,errN,z1,z2,hob2]
    ·rw [if_neg hbig];obtain ⟨q,hq⟩:=en (show 0≤m.locals by have:([ob]:List Str).length=1:=rfl; omega);rw [hq] at hbig hl hcm ⊢;have hbig:¬ (q:Int) < 1:=by simpa using hbig
     have hmin:min (q:Int) 300=q:=by omega
     obtain ⟨Y,a4,c4,w4,g0,g1,g2,g3⟩:=s263c (n:=q) (w:=O.length) hp2 hOk hk2 hb (by omega) (by omega) (ai _);obtain ⟨P',a',a2',w',hf,k1,k2,k3,k4⟩:=lf (b:=b) (w:=w) (e:=0) (c1:=c4) (c2:=some 0) g0 g1 (RowN.nil (O:=O)) g2 h0 hw;refine ⟨P',a',c4,a2',some 0,w',?_,k1,k2,k3⟩;simp only [bp] at hf;simp (disch:=omega) [-dk,-dx,av t238,code238,hcm,h37,h264,happ,g3,hst,hbig,hmin,hf,errN,z1,z2,hob2]
   ·obtain ⟨X,v,a3,happ⟩:=app_one (b:=b) (E:=dv A) hp2 hOk hk2 hE0 (by omega);rw [← hF] at a3;generalize newV (O1++[AObj.cells 1 [.str ob]]).length (dv A)=v2 at *;generalize newO 1 dt (O1++[AObj.cells 1 [.str ob]]) (dv A)=O2 at *;generalize startF n m A=G at *;obtain ⟨p3,c3,hv3⟩:=a3.shape;by_cases hbig:m.locals < G.length
    ·rw [if_pos hbig];have hf:=l0 (O:=O) (P:=X) (b:=b) (w:=w) (W:=O.length) (e:=8) (ai _);refine ⟨O,none,some 0,none,some 0,w,?_,Pre.refl _,hw,⟨fun h=>absurd rfl h⟩⟩;subst hv3;simp (disch:=omega) [-dk,-dx,av t238,code238,hcm,h37,h264,happ,hst,hbig,hf,errN,z1,z2,hob2]
    ·rw [if_neg hbig];obtain ⟨q,hq⟩:=en (show 0≤m.locals by omega);rw [hq] at hbig hl hcm ⊢;have hmin:min (q:Int) 300=q:=by omega
     obtain ⟨Y,v',w4,g1,g2,_,g3⟩:=s263 (n:=q) (w:=O.length) a3 hb (by omega) (by omega) (ai _);obtain ⟨a4,c4,rfl,g4⟩:=accN g1;obtain ⟨P',a',a2',w',hf,k1,k2,k3,k4⟩:=lf (b:=b) (w:=w) (e:=0) (c1:=c4) (c2:=some 0) g1.pre g4 (RowN.nil (O:=O)) g2 h0 hw;refine ⟨P',a',c4,a2',some 0,w',?_,k1,k2,k3⟩;simp only [bp] at hf;subst hv3;simp (disch:=omega) [-dk,-dx,av t238,code238,hcm,h37,h264,happ,g3,hst,hbig,hmin,hf,errN,z1,z2,hob2]
end
end Go.Abs.Zt
