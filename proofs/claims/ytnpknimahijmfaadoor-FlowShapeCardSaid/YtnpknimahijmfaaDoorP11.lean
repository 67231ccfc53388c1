/-
  Texts joined.
-/
import Derived.Test.YtnpknimahijmfaaDoorP0
import Derived.Test.YtnpknimahijmfaaDoorP10
import Derived.Test.YtnpknimahijmfaaDoorP7
set_option linter.unusedVariables false
set_option linter.unusedSimpArgs false
set_option maxRecDepth 100000
namespace Go.Abs.AbsFlow
open Go.Abs.AbsDesc Go.Abs.AbsHier
open Go.Abs.AbsOrd hiding T sub
variable {os O:List AObj} {b w:Nat}
theorem ren_intC {f:Nat→Nat} (x:Int):AVal.renL f (intC x)=intC x:=rfl
theorem f6 {P:List AObj} {L:List Int} {a:Option (Nat × Nat)} {c:Option Nat} {W n0:Nat} (hp:Pre O P) (h1:Row P 1 intC L a) (h2:over O.length a) (hW:O.length≤W) (h0:n0≤O.length) (hw:n0≤w) :
  ∃ P' a',∃ w':Nat,finish ⟨O,b,w⟩ (.slice a L.length c) ⟨P,b,W⟩=(.slice a' L.length c,⟨P',b,w'⟩)∧Pre O P'∧n0≤w'∧Row P' 1 intC L a':=by
 cases a with
 | none =>
  have:L=[]:=by
   rcases L with _ | ⟨x,L⟩
   ·rfl
   ·obtain ⟨p,o,cs,h,_⟩:=h1.at' (by simp); cases h
  subst this
  refine ⟨O,none,w,?_,Pre.refl _,hw,⟨fun h=>absurd rfl h⟩⟩
  have hq:¬ W < O.length:=by omega
  simp [finish,Heap.size,hq,AVal.under]
 | some p =>
  obtain ⟨q,o⟩:=p
  have hq:=h2 q o rfl
  have hv:(AVal.slice (some (q,o)) L.length c).under O.length=false:=by
   have:¬ q < O.length:=by omega
   simp [AVal.under,this]
  rcases finish_cases (h0:=⟨O,b,w⟩) (h:=⟨P,b,W⟩) hv with ⟨w',e1,e2⟩ | ⟨_,f,I,X,e1,hm,hI⟩
  ·refine ⟨P,some (q,o),w',e1,hp,?_,h1⟩
   rcases e2 with e2 | ⟨e2,_⟩
   ·have:w'=min w W:=e2
    omega
   ·have:w'=w:=e2
    omega
  ·have i1:Go.Abs.inI I (some (q,o)):=fun i o' h=>by
    cases h
    exact hI q (by simp [AVal.ids]) hq
   have r1:=hm.row (g:=fun x=>x) h1 i1 ren_intC
   rw [show L.map (fun x=>x)=L from List.map_id L] at r1
   refine ⟨O++X,renA f (some (q,o)),w,?_,Pre.app _ _,hw,r1⟩
   rw [e1,ren_sl]
def outB (m:MethU) (x:InsU):List Int:=if formN x.op=7∧inM m x.n=true then [x.n] else []
def outE (n i:Nat) (x:InsU):List Int:=if endsC x.op=false∧i+1 < n then [((i+1:Nat):Int)] else []
def srt2:List Int→List Int
 | [x,y]=>if y < x then [y,x] else if y=x then [x] else [x,y]
 | l=>l
def nextsL (m:MethU) (i:Nat) (x:InsU):List Int:=srt2 (outE m.code.length i x++outB m x)
theorem row_head {P:List AObj} {q:Nat} {x y:Int} (h:P[q]? = some (.cells 1 [.int .i64 x,.int .i64 y])):Row P 1 intC [x] (some (q,0)) :=
 ⟨fun _=>⟨q,0,_,rfl,h,fun j z hz=>by
  cases j with
  | zero=>simp at hz; subst hz; exact ⟨by simp,rfl⟩
  | succ j=>simp at hz⟩⟩
theorem acc_one {A:List Int} {P:List AObj} {v:AVal} (h:Acc 1 intC O A P v) (hA:A≠[]):∃ q,O.length≤q∧v = .slice (some (q,0)) A.length none∧P[q]? = some (.cells 1 (A.flatMap intC)):=by
 rcases h.val with ⟨h1,_⟩ | ⟨_,i,h2,h3,h4⟩
 ·exact absurd h1 hA
 ·exact ⟨i,h2,h3,h4⟩
section
attribute [-simp] getElem?_pos getElem?_neg List.all_eq_true
attribute [local simp] gz gs nltT nltF iltT iltF ileT nleT ef
set_option maxHeartbeats 2000000 in
theorem s74 {m:MethU} {i:Nat} {x:InsU} {n0:Nat} (hm:m.ok O) (ho:∀ x ∈ m.code,0≤x.op∧x.op < 256) (hb:b≤O.length) (hn:m.code.length≤1000) (hx:m.code[i]? = some x) (h0:n0≤O.length) (hw:n0≤w) :
  ∃ P' a c,∃ w':Nat,xCall T 74 [.agg m.cells,.int .i64 i] ⟨O,b,w⟩=some (.slice a (nextsL m i x).length c,⟨P',b,w'⟩)∧Pre O P'∧n0≤w'∧Row P' 1 intC (nextsL m i x) a:=by
 have hrb:reachB=140737488351232:=rfl
 have hcm:m.cells=[.bool m.st,.str m.name,.str m.desc,.int .i64 m.stack,.int .i64 m.locals,.slice m.ca m.code.length m.cc,.slice m.ta m.traps.length m.tc,.slice m.xa m.maps.length m.xc]:=rfl
 have hil:=ah hx
 have hil':(i:Int) < m.code.length:=by omega
 obtain ⟨p,o,cs,ha,hp,hpl,hcs,hv⟩:=fh hm.c hx
 have hcx:x.cells=[.int .u8 x.op,.int .i64 x.n,.int .i64 x.m,.str x.cls,.str x.name,.str x.desc,.str x.text]:=rfl
 rw [hcx] at hv
 have h131i:=fun h=>s131 (m:=m) (i:=(i:Int)) (h:=h) (by omega)
 have hin:inI (i:Int) 0 (m.code.length - 1)=true:=by
  unfold inI
  rw [decide_eq_true (by omega),decide_eq_true (by omega)]; rfl
 rw [hin] at h131i
 have h131n:=fun h=>s131 (m:=m) (i:=x.n) (h:=h) (by omega)
 have hnn:inI x.n 0 (m.code.length - 1)=inM m x.n:=rfl
 rw [hnn] at h131n
 obtain ⟨o1,o2⟩:=ho x (aq hx)
 have h130:=fun h=>s130 (h:=h) o1 o2
 have h73:=fun h=>s73 (c:=x.op) (h:=h)
 have e2:((i+1:Nat):Int)=(i:Int)+1:=by omega
 rw [ha] at hcm
 rw [hcm] at h131i h131n
 cases c1:endsC x.op with
 | true =>
  rw [c1] at h73
  have hE:outE m.code.length i x=[]:=by unfold outE; rw [if_neg fun q=>by rw [c1] at q; cases q.1]
  by_cases c3:formN x.op=7
  ·rw [c3] at h130
   cases c4:inM m x.n with
   | true =>
    rw [c4] at h131n
    have hB:outB m x=[x.n]:=by unfold outB; rw [if_pos ⟨c3,c4⟩]
    obtain ⟨P2,v2,n2,h2,hn2,_,e3⟩:=(Acc.nil (e:=1) (f:=intC) (O:=O)).add (b:=b) dr hb (by':=8) (by simp) (by simp) x.n
    have w2:=hn2 _ (aj O.length)
    have hs2:intC x.n=[.int .i64 x.n]:=rfl
    rw [hs2] at e3
    obtain ⟨q,q1,q2,q3⟩:=acc_one h2 (by simp)
    have q2:v2 = .slice (some (q,0)) 1 none:=q2
    subst q2
    have q3:P2[q]? = some (.cells 1 [.int .i64 (x.n)]):=by rw [q3]; rfl
    have hql:=ah q3
    have h129:=fun w=>s129_0 (P:=P2) (b:=b) (a:=some (q,0)) (c:=none) (n:=1) (by omega) w
    have h128:=fun w=>s128_0 (P:=P2) (b:=b) (a:=some (q,0)) (c:=none) (n:=1) (by omega) (.inr ⟨q,rfl,hql⟩) w
    have hN:nextsL m i x=[x.n]:=by unfold nextsL; rw [hE,hB]; simp [srt2]
    rw [hN]
    obtain ⟨P',a',w',hf,k1,k2,k3⟩:=f6 (b:=b) (w:=w) (L:=[x.n]) (a:=some (q,0)) (c:=none) (W:=n2 O.length) h2.pre (Row.mk0 dr q3) (fun _ _ e=>by cases e; exact q1) w2 h0 hw
    refine ⟨P',a',none,w',?_,k1,k2,k3⟩
    simp only [bo,dh,b8,Nat.reduceAdd] at hf
    simp (disch:=omega) [-aAppend,-finish,a6 t74,code74,hcm,h131i,h131n,hil',hp,hv,h73,h130,e3,h129,h128,hf]
   | false =>
    rw [c4] at h131n
    have hB:outB m x=[]:=by unfold outB; rw [if_neg fun q=>by rw [c4] at q; cases q.2]
    have h129:=fun w=>s129_0 (P:=O) (b:=b) (a:=none) (c:=some 0) (n:=0) (by omega) w
    have h128:=fun w=>s128_0 (P:=O) (b:=b) (a:=none) (c:=some 0) (n:=0) (by omega) (.inl rfl) w
    have hN:nextsL m i x=[]:=by unfold nextsL; rw [hE,hB]; rfl
    rw [hN]
    refine ⟨O,none,some 0,w,?_,Pre.refl _,hw,⟨fun h=>absurd rfl h⟩⟩
    simp (disch:=omega) [-aAppend,a6 t74,code74,hcm,h131i,h131n,hil',hp,hv,h73,h130,h129,h128]
  ·have hB:outB m x=[]:=by unfold outB; rw [if_neg fun q=>c3 q.1]
   have h129:=fun w=>s129_0 (P:=O) (b:=b) (a:=none) (c:=some 0) (n:=0) (by omega) w
   have h128:=fun w=>s128_0 (P:=O) (b:=b) (a:=none) (c:=some 0) (n:=0) (by omega) (.inl rfl) w
   have hN:nextsL m i x=[]:=by unfold nextsL; rw [hE,hB]; rfl
   rw [hN]
   refine ⟨O,none,some 0,w,?_,Pre.refl _,hw,⟨fun h=>absurd rfl h⟩⟩
   simp (disch:=omega) [-aAppend,a6 t74,code74,hcm,h131i,h131n,hil',hp,hv,h73,h130,c3,h129,h128]
 | false =>
  rw [c1] at h73
  by_cases c2:i+1 < m.code.length
  ·have c2':(i:Int)+1 < m.code.length:=by omega
   have hE:outE m.code.length i x=[((i+1:Nat):Int)]:=by unfold outE; rw [if_pos ⟨c1,c2⟩]
   by_cases c3:formN x.op=7
   ·rw [c3] at h130
    cases c4:inM m x.n with
    | true =>
     rw [c4] at h131n
     have hB:outB m x=[x.n]:=by unfold outB; rw [if_pos ⟨c3,c4⟩]
     obtain ⟨P1,v1,n1,h1,hn1,_,e1⟩:=(Acc.nil (e:=1) (f:=intC) (O:=O)).add (b:=b) dr hb (by':=8) (by simp) (by simp) ((i+1:Nat):Int)
     have hs1:intC ((i+1:Nat):Int)=[.int .i64 ((i:Int)+1)]:=by rw [e2]; rfl
     rw [hs1] at e1
     have w1:=hn1 _ (aj O.length)
     obtain ⟨P2,v2,n2,h2,hn2,_,e3⟩:=h1.add (b:=b) dr hb (by':=8) (by simp) (by simp) x.n
     have w2:=hn2 _ w1
     have hs2:intC x.n=[.int .i64 x.n]:=rfl
     rw [hs2] at e3
     obtain ⟨q,q1,q2,q3⟩:=acc_one h2 (by simp)
     have q2:v2 = .slice (some (q,0)) 2 none:=q2
     subst q2
     have q3:P2[q]? = some (.cells 1 [.int .i64 ((i:Int)+1),.int .i64 x.n]):=by rw [q3,← e2]; rfl
     have hql:=ah q3
     have h129:=fun w=>s129_2 (b:=b) (c:=none) q3 (by omega) w
     by_cases d1:x.n < (i:Int)+1
     ·simp only [d1,if_true] at h129
      have q4:(P2.set q (.cells 1 [.int .i64 x.n,.int .i64 ((i:Int)+1)]))[q]? = some (.cells 1 [.int .i64 x.n,.int .i64 ((i:Int)+1)]):=List.getElem?_set_self hql
      have h128:=fun w=>s128_2 (b:=b) q4 (by omega) w
      have d2:¬ (i:Int)+1=x.n:=by omega
      simp only [d2,if_false] at h128
      have hN:nextsL m i x=[x.n,(i:Int)+1]:=by unfold nextsL; rw [hE,hB,e2]; simp [srt2,d1]
      rw [hN]
      obtain ⟨P',a',w',hf,k1,k2,k3⟩:=f6 (b:=b) (w:=w) (L:=[x.n,(i:Int)+1]) (a:=some (q,0)) (c:=none) (W:=min (n2 (n1 O.length)) q) (Pre.set h2.pre _ q1) (Row.mk0 dr q4) (fun _ _ e=>by cases e; exact q1) (by omega) h0 hw
      refine ⟨P',a',none,w',?_,k1,k2,k3⟩
      simp only [bo,dh,b8,Nat.reduceAdd] at hf
      simp (disch:=omega) [-aAppend,-finish,a6 t74,code74,hcm,h131i,h131n,hil',hp,hv,h73,h130,c2',e1,e3,h129,h128,hf]
     ·simp only [d1,if_false] at h129
      have h128:=fun w=>s128_2 (b:=b) q3 (by omega) w
      by_cases d2:x.n=(i:Int)+1
      ·simp only [d2,if_true] at h128
       have q4:(P2.set q (.cells 1 [.int .i64 ((i:Int)+1),.int .i64 0]))[q]? = some (.cells 1 [.int .i64 ((i:Int)+1),.int .i64 0]):=List.getElem?_set_self hql
       have hN:nextsL m i x=[(i:Int)+1]:=by unfold nextsL; rw [hE,hB,e2]; simp [srt2,d2]
       rw [hN]
       obtain ⟨P',a',w',hf,k1,k2,k3⟩:=f6 (b:=b) (w:=w) (L:=[(i:Int)+1]) (a:=some (q,0)) (c:=none) (W:=min (n2 (n1 O.length)) q) (Pre.set h2.pre _ q1) (row_head q4) (fun _ _ e=>by cases e; exact q1) (by omega) h0 hw
       refine ⟨P',a',none,w',?_,k1,k2,k3⟩
       simp only [bo,dh,b8,Nat.reduceAdd] at hf
       simp (disch:=omega) [-aAppend,-finish,a6 t74,code74,hcm,h131i,h131n,hil',hp,hv,h73,h130,c2',e1,e3,h129,h128,hf]
      ·simp only [d2,if_false] at h128
       have hN:nextsL m i x=[(i:Int)+1,x.n]:=by unfold nextsL; rw [hE,hB,e2]; simp [srt2,d1,d2]
       rw [hN]
       obtain ⟨P',a',w',hf,k1,k2,k3⟩:=f6 (b:=b) (w:=w) (L:=[(i:Int)+1,x.n]) (a:=some (q,0)) (c:=none) (W:=n2 (n1 O.length)) h2.pre (Row.mk0 dr q3) (fun _ _ e=>by cases e; exact q1) w2 h0 hw
       refine ⟨P',a',none,w',?_,k1,k2,k3⟩
       simp only [bo,dh,b8,Nat.reduceAdd] at hf
       simp (disch:=omega) [-aAppend,-finish,a6 t74,code74,hcm,h131i,h131n,hil',hp,hv,h73,h130,c2',e1,e3,h129,h128,hf]
    | false =>
     rw [c4] at h131n
     have hB:outB m x=[]:=by unfold outB; rw [if_neg fun q=>by rw [c4] at q; cases q.2]
     obtain ⟨P1,v1,n1,h1,hn1,_,e1⟩:=(Acc.nil (e:=1) (f:=intC) (O:=O)).add (b:=b) dr hb (by':=8) (by simp) (by simp) ((i+1:Nat):Int)
     have hs1:intC ((i+1:Nat):Int)=[.int .i64 ((i:Int)+1)]:=by rw [e2]; rfl
     rw [hs1] at e1
     have w1:=hn1 _ (aj O.length)
     obtain ⟨q,q1,q2,q3⟩:=acc_one h1 (by simp)
     have q2:v1 = .slice (some (q,0)) 1 none:=q2
     subst q2
     have q3:P1[q]? = some (.cells 1 [.int .i64 ((i:Int)+1)]):=by rw [q3,← e2]; rfl
     have hql:=ah q3
     have h129:=fun w=>s129_0 (P:=P1) (b:=b) (a:=some (q,0)) (c:=none) (n:=1) (by omega) w
     have h128:=fun w=>s128_0 (P:=P1) (b:=b) (a:=some (q,0)) (c:=none) (n:=1) (by omega) (.inr ⟨q,rfl,hql⟩) w
     have hN:nextsL m i x=[(i:Int)+1]:=by unfold nextsL; rw [hE,hB,e2]; simp [srt2]
     rw [hN]
     obtain ⟨P',a',w',hf,k1,k2,k3⟩:=f6 (b:=b) (w:=w) (L:=[(i:Int)+1]) (a:=some (q,0)) (c:=none) (W:=n1 O.length) h1.pre (Row.mk0 dr q3) (fun _ _ e=>by cases e; exact q1) w1 h0 hw
     refine ⟨P',a',none,w',?_,k1,k2,k3⟩
     simp only [bo,dh,b8,Nat.reduceAdd] at hf
     simp (disch:=omega) [-aAppend,-finish,a6 t74,code74,hcm,h131i,h131n,hil',hp,hv,h73,h130,c2',e1,h129,h128,hf]
   ·have hB:outB m x=[]:=by unfold outB; rw [if_neg fun q=>c3 q.1]
    obtain ⟨P1,v1,n1,h1,hn1,_,e1⟩:=(Acc.nil (e:=1) (f:=intC) (O:=O)).add (b:=b) dr hb (by':=8) (by simp) (by simp) ((i+1:Nat):Int)
    have hs1:intC ((i+1:Nat):Int)=[.int .i64 ((i:Int)+1)]:=by rw [e2]; rfl
    rw [hs1] at e1
    have w1:=hn1 _ (aj O.length)
    obtain ⟨q,q1,q2,q3⟩:=acc_one h1 (by simp)
    have q2:v1 = .slice (some (q,0)) 1 none:=q2
    subst q2
    have q3:P1[q]? = some (.cells 1 [.int .i64 ((i:Int)+1)]):=by rw [q3,← e2]; rfl
    have hql:=ah q3
    have h129:=fun w=>s129_0 (P:=P1) (b:=b) (a:=some (q,0)) (c:=none) (n:=1) (by omega) w
    have h128:=fun w=>s128_0 (P:=P1) (b:=b) (a:=some (q,0)) (c:=none) (n:=1) (by omega) (.inr ⟨q,rfl,hql⟩) w
    have hN:nextsL m i x=[(i:Int)+1]:=by unfold nextsL; rw [hE,hB,e2]; simp [srt2]
    rw [hN]
    obtain ⟨P',a',w',hf,k1,k2,k3⟩:=f6 (b:=b) (w:=w) (L:=[(i:Int)+1]) (a:=some (q,0)) (c:=none) (W:=n1 O.length) h1.pre (Row.mk0 dr q3) (fun _ _ e=>by cases e; exact q1) w1 h0 hw
    refine ⟨P',a',none,w',?_,k1,k2,k3⟩
    simp only [bo,dh,b8,Nat.reduceAdd] at hf
    simp (disch:=omega) [-aAppend,-finish,a6 t74,code74,hcm,h131i,h131n,hil',hp,hv,h73,h130,c2',c3,e1,h129,h128,hf]
  ·have c2':¬ (i:Int)+1 < m.code.length:=by omega
   have hE:outE m.code.length i x=[]:=by unfold outE; rw [if_neg fun q=>c2 q.2]
   by_cases c3:formN x.op=7
   ·rw [c3] at h130
    cases c4:inM m x.n with
    | true =>
     rw [c4] at h131n
     have hB:outB m x=[x.n]:=by unfold outB; rw [if_pos ⟨c3,c4⟩]
     obtain ⟨P2,v2,n2,h2,hn2,_,e3⟩:=(Acc.nil (e:=1) (f:=intC) (O:=O)).add (b:=b) dr hb (by':=8) (by simp) (by simp) x.n
     have w2:=hn2 _ (aj O.length)
     have hs2:intC x.n=[.int .i64 x.n]:=rfl
     rw [hs2] at e3
     obtain ⟨q,q1,q2,q3⟩:=acc_one h2 (by simp)
     have q2:v2 = .slice (some (q,0)) 1 none:=q2
     subst q2
     have q3:P2[q]? = some (.cells 1 [.int .i64 (x.n)]):=by rw [q3]; rfl
     have hql:=ah q3
     have h129:=fun w=>s129_0 (P:=P2) (b:=b) (a:=some (q,0)) (c:=none) (n:=1) (by omega) w
     have h128:=fun w=>s128_0 (P:=P2) (b:=b) (a:=some (q,0)) (c:=none) (n:=1) (by omega) (.inr ⟨q,rfl,hql⟩) w
     have hN:nextsL m i x=[x.n]:=by unfold nextsL; rw [hE,hB]; simp [srt2]
     rw [hN]
     obtain ⟨P',a',w',hf,k1,k2,k3⟩:=f6 (b:=b) (w:=w) (L:=[x.n]) (a:=some (q,0)) (c:=none) (W:=n2 O.length) h2.pre (Row.mk0 dr q3) (fun _ _ e=>by cases e; exact q1) w2 h0 hw
     refine ⟨P',a',none,w',?_,k1,k2,k3⟩
     simp only [bo,dh,b8,Nat.reduceAdd] at hf
     simp (disch:=omega) [-aAppend,-finish,a6 t74,code74,hcm,h131i,h131n,hil',hp,hv,h73,h130,c2',e3,h129,h128,hf]
    | false =>
     rw [c4] at h131n
     have hB:outB m x=[]:=by unfold outB; rw [if_neg fun q=>by rw [c4] at q; cases q.2]
     have h129:=fun w=>s129_0 (P:=O) (b:=b) (a:=none) (c:=some 0) (n:=0) (by omega) w
     have h128:=fun w=>s128_0 (P:=O) (b:=b) (a:=none) (c:=some 0) (n:=0) (by omega) (.inl rfl) w
     have hN:nextsL m i x=[]:=by unfold nextsL; rw [hE,hB]; rfl
     rw [hN]
     refine ⟨O,none,some 0,w,?_,Pre.refl _,hw,⟨fun h=>absurd rfl h⟩⟩
     simp (disch:=omega) [-aAppend,a6 t74,code74,hcm,h131i,h131n,hil',hp,hv,h73,h130,c2',h129,h128]
   ·have hB:outB m x=[]:=by unfold outB; rw [if_neg fun q=>c3 q.1]
    have h129:=fun w=>s129_0 (P:=O) (b:=b) (a:=none) (c:=some 0) (n:=0) (by omega) w
    have h128:=fun w=>s128_0 (P:=O) (b:=b) (a:=none) (c:=some 0) (n:=0) (by omega) (.inl rfl) w
    have hN:nextsL m i x=[]:=by unfold nextsL; rw [hE,hB]; rfl
    rw [hN]
    refine ⟨O,none,some 0,w,?_,Pre.refl _,hw,⟨fun h=>absurd rfl h⟩⟩
    simp (disch:=omega) [-aAppend,a6 t74,code74,hcm,h131i,h131n,hil',hp,hv,h73,h130,c2',c3,h129,h128]
end
end Go.Abs.AbsFlow

namespace Go.Abs.AbsHier
open Go.Abs.AbsDesc
variable {os O H:List AObj} {b w:Nat}
structure Left (j:Nat) (r:Int):Prop where
 hi:r≤600
 lo:-1152921504606846976+j*562949953404928≤r
structure Went (j:Nat) (r r':Int):Prop where
 hi:r'≤600
 lo:r - j*562949953404928≤r'
theorem Left.zero {r:Int} (h:Left 0 r):Went 0 r r:=⟨h.hi,by omega⟩
theorem Left.next {j:Nat} {r q:Int} (h:Left (j+1) r) (h0:0≤q) (h1:q≤562949953404928):Left j (r - q):=⟨by have:=h.hi; omega,by have:=h.lo; omega⟩
theorem Went.next {j:Nat} {r q r':Int} (h:Went j (r - q) r') (h0:0≤q) (h1:q≤562949953404928):Went (j+1) r r':=⟨h.hi,by have:=h.lo; omega⟩
theorem Left.wrap {j:Nat} {r q:Int} (h:Left (j+1) r) (h0:0≤q) (h1:q≤562949953404928):IntKind.i64.wrap (r - q)=r - q:=ef ⟨by have:=h.lo; omega,by have:=h.hi; omega⟩
theorem tdiv_le {n:Nat} {d:Int} (hd:0 < d) (hn:n≤reachB*4):∃ q:Int,(n:Int).tdiv d=q∧0≤q∧q≤562949953404928:=by
 have hn':n≤562949953404928:=hn
 refine ⟨_,rfl,?_,?_⟩
 ·exact Int.tdiv_nonneg (by omega) (by omega)
 ·rw [Int.tdiv_eq_ediv_of_nonneg (by omega)]
  have:=Int.ediv_le_self (b:=d) (a:=(n:Int)) (by omega)
  omega
section
attribute [-simp] getElem?_pos getElem?_neg List.all_eq_true
attribute [local simp] gz gs nltT nltF iltT iltF ileT nleT ef
theorem l104a {A:List Str} {aa:Option (Nat × Nat)} {cc:Option Nat} {x56 x57 x58 x124 x125 x126:AVal} (hR:Row H 1 strC A aa) (hA:A.length≤600) (hs:∀ t ∈ A,t.length≤reachB) :
  ∀ (j i:Nat) (r:Int) (w:Nat),i+j=A.length→Left j r →
  ∃ r',Went j r r'∧∀ (k:AExit→St→Option (AVal × Heap)),
  xK T (.loop code104L0) ⟨[(3,.val (.int .i64 r)),(56,.val x56),(57,.val x57),(58,.val x58),(124,.val x124),(125,.val x125),(126,.val x126),(148,.val (.slice aa A.length cc)),(149,.val (.int .i64 A.length)),(150,.val (.int .i64 i))],⟨H,b,w⟩⟩ (k:=⟨k⟩) =
   k (.exit 10) ⟨[(3,.val (.int .i64 r')),(56,.val x56),(57,.val x57),(58,.val x58),(124,.val x124),(125,.val x125),(126,.val x126)],⟨H,b,w⟩⟩
 | 0,i,r,w,hi,hr=>by
  refine ⟨r,hr.zero,fun k=>?_⟩
  rw [bh]
  simp (disch:=omega) [code104L0]
 | j+1,i,r,w,hi,hr=>by
  obtain ⟨t,hx⟩:∃ t,A[i]? = some t:=⟨_,ag (by omega)⟩
  obtain ⟨p,o,cs,ha,hp,hpl,hcs,hv⟩:=fh hR hx
  have ht:=hs t (aq hx)
  obtain ⟨q,hq,hq0,hq1⟩:=tdiv_le (n:=t.length) (d:=100) (by decide) (by omega)
  have hql:(t.length:Int)≤9223372036854775807:=by have:t.length≤140737488351232:=ht; omega
  obtain ⟨r',h1,ih⟩:=l104a (x56:=x56) (x57:=x57) (x58:=x58) (x124:=x124) (x125:=x125) (x126:=x126) (cc:=cc) hR hA hs j (i+1) (r - q) w (by omega) (hr.next hq0 hq1)
  refine ⟨r',h1.next hq0 hq1,fun k=>?_⟩
  have hwr:=hr.wrap hq0 hq1
  have ih:=ih k
  have e2:((i+1:Nat):Int)=(i:Int)+1:=by omega
  rw [e2,ha] at ih
  rw [bh,ha]
  have hv':(List.drop (o+i*1) cs).take 1=[.str t]:=hv
  have hv2:cs[o+i]? = some (.str t):=by
   have:=congrArg (fun z=>z[0]?) hv'
   simpa [List.getElem?_take,b0] using this
  generalize ACode.loop code104L0=L' at ih ⊢
  simp (disch:=omega) [code104L0,hp,hv2,hq,hwr,ih]
theorem l104t {L:List TrapU} {aa:Option (Nat × Nat)} {cc:Option Nat} {x7:List AVal} {x56 x57 x58:AVal} (hR:Row H 4 TrapU.cells L aa) (hA:L.length≤600) (hs:∀ t ∈ L,t.fits) :
  ∀ (j i:Nat) (r:Int) (w:Nat),i+j=L.length→Left j r →
  ∃ r',Went j r r'∧∀ (k:AExit→St→Option (AVal × Heap)),
  xK T (.loop code104L2) ⟨[(3,.val (.int .i64 r)),(7,.var x7),(56,.val x56),(57,.val x57),(58,.val x58),(110,.val (.slice aa L.length cc)),(111,.val (.int .i64 L.length)),(112,.val (.int .i64 i))],⟨H,b,w⟩⟩ (k:=⟨k⟩) =
   k (.exit 6) ⟨[(3,.val (.int .i64 r')),(7,.var x7),(56,.val x56),(57,.val x57),(58,.val x58)],⟨H,b,w⟩⟩
 | 0,i,r,w,hi,hr=>by
  refine ⟨r,hr.zero,fun k=>?_⟩
  rw [bh]
  simp (disch:=omega) [code104L2]
 | j+1,i,r,w,hi,hr=>by
  obtain ⟨t,hx⟩:∃ t,L[i]? = some t:=⟨_,ag (by omega)⟩
  obtain ⟨p,o,cs,ha,hp,hpl,hcs,hv⟩:=fh hR hx
  have ht:t.cls.length≤reachB:=hs t (aq hx)
  obtain ⟨q,hq,hq0,hq1⟩:=tdiv_le (n:=t.cls.length) (d:=100) (by decide) (by omega)
  have hql:(t.cls.length:Int)≤9223372036854775807:=by have:t.cls.length≤140737488351232:=ht; omega
  obtain ⟨r',h1,ih⟩:=l104t (x7:=x7) (x56:=x56) (x57:=x57) (x58:=x58) (cc:=cc) hR hA hs j (i+1) (r - q) w (by omega) (hr.next hq0 hq1)
  refine ⟨r',h1.next hq0 hq1,fun k=>?_⟩
  have hwr:=hr.wrap hq0 hq1
  have ih:=ih k
  have e2:((i+1:Nat):Int)=(i:Int)+1:=by omega
  rw [e2,ha] at ih
  rw [bh,ha]
  unfold TrapU.cells at hv
  generalize ACode.loop code104L2=L' at ih ⊢
  simp (disch:=omega) [code104L2,hp,hv,hq,hwr,ih]
theorem l104c {L:List InsU} {aa:Option (Nat × Nat)} {cc:Option Nat} {x7:List AVal} {x56 x57 x58:AVal} (hR:Row H 7 InsU.cells L aa) (hA:L.length≤600) (hs:∀ t ∈ L,t.fits) :
  ∀ (j i:Nat) (r:Int) (w:Nat),i+j=L.length→Left j r →
  ∃ r',Went j r r'∧∀ (k:AExit→St→Option (AVal × Heap)),
  xK T (.loop code104L3) ⟨[(3,.val (.int .i64 r)),(7,.var x7),(56,.val x56),(57,.val x57),(58,.val x58),(84,.val (.slice aa L.length cc)),(85,.val (.int .i64 L.length)),(86,.val (.int .i64 i))],⟨H,b,w⟩⟩ (k:=⟨k⟩) =
   k (.exit 4) ⟨[(3,.val (.int .i64 r')),(7,.var x7),(56,.val x56),(57,.val x57),(58,.val x58)],⟨H,b,w⟩⟩
 | 0,i,r,w,hi,hr=>by
  refine ⟨r,hr.zero,fun k=>?_⟩
  rw [bh]
  simp (disch:=omega) [code104L3]
 | j+1,i,r,w,hi,hr=>by
  obtain ⟨t,hx⟩:∃ t,L[i]? = some t:=⟨_,ag (by omega)⟩
  obtain ⟨p,o,cs,ha,hp,hpl,hcs,hv⟩:=fh hR hx
  obtain ⟨f1,f2,f3,f4⟩:=hs t (aq hx)
  obtain ⟨q,hq,hq0,hq1⟩:=tdiv_le (n:=t.cls.length+t.name.length+t.desc.length+t.text.length) (d:=100) (by decide) (by omega)
  simp only [Int.natCast_add] at hq
  have hb:reachB=140737488351232:=rfl
  obtain ⟨r',h1,ih⟩:=l104c (x7:=x7) (x56:=x56) (x57:=x57) (x58:=x58) (cc:=cc) hR hA hs j (i+1) (r - q) w (by omega) (hr.next hq0 hq1)
  refine ⟨r',h1.next hq0 hq1,fun k=>?_⟩
  have hwr:=hr.wrap hq0 hq1
  have ih:=ih k
  have e2:((i+1:Nat):Int)=(i:Int)+1:=by omega
  rw [e2,ha] at ih
  rw [bh,ha]
  unfold InsU.cells at hv
  generalize ACode.loop code104L3=L' at ih ⊢
  simp (disch:=omega) [code104L3,hp,hv,hq,hwr,ih]
end
theorem ids_strC:∀ L:List Str,AVal.idsL (L.flatMap strC)=[]
 | []=>rfl
 | t :: L=>by
  rw [d7,idsL_app,ids_strC L]; rfl
theorem okId_low {n0 m i:Nat} {ds:List Did} (h:i < n0):okId n0 m ds i=true:=by
 unfold okId; simp [h]
theorem e9 {n0 m n:Nat} {ds:List Did} {a:Option (Nat × Nat)} {c:Option Nat} (h:under n0 a):(AVal.slice a n c).ids.all (okId n0 m ds)=true:=by
 rw [al]; exact fun i hi=>okId_low (ids_slice h i hi)
section
attribute [-simp] getElem?_pos getElem?_neg List.all_eq_true
attribute [local simp] gz gs nltT nltF iltT iltF ileT nleT ef
set_option maxHeartbeats 2000000 in
theorem l104m {L:List MapU} {aa:Option (Nat × Nat)} {cc:Option Nat} {x56 x57 x58:AVal} (hR:Row os 3 MapU.cells L aa) (hL:L.length≤reachB) (hok:∀ x ∈ L,x.ok os) (hf:∀ x ∈ L,x.fits) (hb:b≤os.length) :
  ∀ (j i:Nat) (r:Int) (O:List AObj) (w:Nat),i+j=L.length→Left 1000 r→os.length≤w→Pre os O →
  ∃ e s' O' w',os.length≤w'∧Pre os O'∧((e = .ret∧s'=[(2,.val (.bool false))])∨(e = .exit 8∧∃ r',Left 1000 r'∧s'=[(3,.val (.int .i64 r')),(56,.val x56),(57,.val x57),(58,.val x58)]))∧∀ (k:AExit→St→Option (AVal × Heap)),
  xK T (.loop code104L1) ⟨[(3,.val (.int .i64 r)),(56,.val x56),(57,.val x57),(58,.val x58),(124,.val (.slice aa L.length cc)),(125,.val (.int .i64 L.length)),(126,.val (.int .i64 i))],⟨O,b,w⟩⟩ (k:=⟨k⟩) =
   k e ⟨s',⟨O',b,w'⟩⟩
 | 0,i,r,O,w,hi,hr,hw,hO=>by
  refine ⟨.exit 8,_,O,w,hw,hO,.inr ⟨rfl,r,hr,rfl⟩,fun k=>?_⟩
  rw [bh]
  simp (disch:=omega) [code104L1]
 | j+1,i,r,O,w,hi,hr,hw,hO=>by
  obtain ⟨x,hx⟩:∃ x,L[i]? = some x:=⟨_,ag (by omega)⟩
  obtain ⟨p,o,cs,ha,hp,hpl,hcs,hv⟩:=fh (hO.row hR) hx
  have hxm:=aq hx
  have hxo:=(hok x hxm).pre hO
  obtain ⟨fl,fs,fls,fss⟩:=hf x hxm
  have hrb:reachB=140737488351232:=rfl
  have hOl:=hO.len
  have hb':b≤O.length:=by omega
  have r1:=hr.hi
  have r2:=hr.lo
  have e2:((i+1:Nat):Int)=(i:Int)+1:=by omega
  unfold MapU.cells at hv
  by_cases c0:r - 1 - x.locals.length - x.stack.length < 0
  ·refine ⟨.ret,_,O,w,hw,hO,.inl ⟨rfl,rfl⟩,fun k=>?_⟩
   rw [bh,ha]
   simp (disch:=omega) [code104L1,hp,hv,c0]
  ·have hl1:=fun b w=>rowOf_row (f:=strC) (e:=1) (h:=⟨O++[.cells 1 []],b,w⟩) (c:=x.lc) ((Pre.app O _).row hxo.l)
   have hs1:=fun b w=>rowOf_row (f:=strC) (e:=1) (h:=⟨O++[.cells 1 []],b,w⟩) (c:=x.sc) ((Pre.app O _).row hxo.s)
   have hl2:=fun b w=>rowOf_row (f:=strC) (e:=1) (h:=⟨O++[.cells 1 [],.cells 1 (x.locals.flatMap strC)],b,w⟩) (c:=x.sc) ((Pre.app O _).row hxo.s)
   have flatL:(x.locals.flatMap strC).length=x.locals.length*1:=flat_len strC 1 (fun _=>rfl) _
   have hla:(x.locals++x.stack).length=x.locals.length+x.stack.length:=bg
   by_cases c1:x.locals.length=0
   ·by_cases c2:x.stack.length=0
    ·have hin:=fun w=>l104a (b:=b) (A:=[]) (aa:=some (O.length,0)) (cc:=some 0) (H:=O++[.cells 1 []]) (x56:=x56) (x57:=x57) (x58:=x58) (x124:=.slice (some (p,o)) L.length cc) (x125:=.int .i64 L.length) (x126:=.int .i64 i) ⟨fun h=>absurd rfl h⟩ (by simp) (by simp) 0 0 (r - 1 - x.locals.length - x.stack.length) w (by simp) ⟨by omega,by omega⟩
     simp only [dh,bf] at hin
     obtain ⟨r',g1,hin⟩:=hin w
     obtain ⟨e,s',O',w',q1,q2,q3,ih⟩:=l104m (x56:=x56) (x57:=x57) (x58:=x58) (cc:=cc) hR hL hok hf hb j (i+1) r' (O++[.cells 1 []]) w (by omega) ⟨g1.hi,by have:=g1.lo; omega⟩ hw (hO.trans (Pre.app _ _))
     refine ⟨e,s',O',w',q1,q2,q3,fun k=>?_⟩
     have ih:=ih k
     rw [e2,ha] at ih
     rw [bh,ha]
     generalize ACode.loop code104L1=L' at ih ⊢
     simp only [c1,c2,bf,Int.sub_zero] at hv hin ⊢
     simp (disch:=omega) [-sget,sgetN,sgetH,sgetT,code104L1,hp,hv,c0,dz,dx,get_k,get_k0,set_k,set_k0,-rowOf,rowOf0,e9 hxo.lu,e9 hxo.su,hin,ih,ids_strC]
    ·have hrow:Row (O++[.cells 1 [],.cells 1 (x.stack.flatMap strC)]) 1 strC x.stack (some (O.length+1,0)):=Row.mk0 (fun _=>rfl) (by rw [get_k]; rfl)
     obtain ⟨r',g1,hin⟩:=l104a (b:=b) (cc:=none) (x56:=x56) (x57:=x57) (x58:=x58) (x124:=.slice (some (p,o)) L.length cc) (x125:=.int .i64 L.length) (x126:=.int .i64 i) hrow (by omega) fss x.stack.length 0 (r - 1 - x.locals.length - x.stack.length) w (by simp) ⟨by omega,by omega⟩
     simp only [bf] at hin
     obtain ⟨e,s',O',w',q1,q2,q3,ih⟩:=l104m (x56:=x56) (x57:=x57) (x58:=x58) (cc:=cc) hR hL hok hf hb j (i+1) r' (O++[.cells 1 [],.cells 1 (x.stack.flatMap strC)]) w (by omega) ⟨g1.hi,by have:=g1.lo; omega⟩ hw (hO.trans (Pre.app _ _))
     refine ⟨e,s',O',w',q1,q2,q3,fun k=>?_⟩
     have ih:=ih k
     rw [e2,ha] at ih
     rw [bh,ha]
     generalize ACode.loop code104L1=L' at ih ⊢
     simp only [c1,bf,Int.sub_zero] at hv hin ⊢
     simp (disch:=omega) [-sget,sgetN,sgetH,sgetT,-rowOf,rowOf0,code104L1,hp,hv,c0,c2,hs1,dz,dx,get_k,get_k0,set_k,set_k0,e9 hxo.lu,e9 hxo.su,hin,ih,ids_strC]
   ·by_cases c2:x.stack.length=0
    ·have hrow:Row (O++[.cells 1 [],.cells 1 (x.locals.flatMap strC)]) 1 strC x.locals (some (O.length+1,0)):=Row.mk0 (fun _=>rfl) (by rw [get_k]; rfl)
     obtain ⟨r',g1,hin⟩:=l104a (b:=b) (cc:=none) (x56:=x56) (x57:=x57) (x58:=x58) (x124:=.slice (some (p,o)) L.length cc) (x125:=.int .i64 L.length) (x126:=.int .i64 i) hrow (by omega) fls x.locals.length 0 (r - 1 - x.locals.length - x.stack.length) w (by simp) ⟨by omega,by omega⟩
     simp only [bf] at hin
     obtain ⟨e,s',O',w',q1,q2,q3,ih⟩:=l104m (x56:=x56) (x57:=x57) (x58:=x58) (cc:=cc) hR hL hok hf hb j (i+1) r' (O++[.cells 1 [],.cells 1 (x.locals.flatMap strC)]) w (by omega) ⟨g1.hi,by have:=g1.lo; omega⟩ hw (hO.trans (Pre.app _ _))
     refine ⟨e,s',O',w',q1,q2,q3,fun k=>?_⟩
     have ih:=ih k
     rw [e2,ha] at ih
     rw [bh,ha]
     generalize ACode.loop code104L1=L' at ih ⊢
     have hz:=fun w=>rowOfC (e:=1) (n:=x.locals.length) (h:=⟨O++[.cells 1 [],.cells 1 (x.locals.flatMap strC)],b,w⟩) (i:=O.length+1) (c:=none) (by rw [get_k]; rfl) flatL
     simp only [c2,bf,Int.sub_zero] at hv hin ⊢
     simp (disch:=omega) [-sget,sgetN,sgetH,sgetT,-rowOf,rowOf0,hz,code104L1,hp,hv,c0,c1,hl1,dz,dx,get_k,get_k0,set_k,set_k0,e9 hxo.lu,e9 hxo.su,hin,ih,ids_strC]
    ·have hrow:Row (O++[.cells 1 [],.dead,.cells 1 ((x.locals++x.stack).flatMap strC)]) 1 strC (x.locals++x.stack) (some (O.length+2,0)):=Row.mk0 (fun _=>rfl) (by rw [get_k]; rfl)
     obtain ⟨r',g1,hin⟩:=l104a (b:=b) (cc:=none) (x56:=x56) (x57:=x57) (x58:=x58) (x124:=.slice (some (p,o)) L.length cc) (x125:=.int .i64 L.length) (x126:=.int .i64 i) hrow (by simp; omega) (fun t ht=>by
      rcases ba.1 ht with ht | ht
      ·exact fls t ht
      ·exact fss t ht) (x.locals++x.stack).length 0 (r - 1 - x.locals.length - x.stack.length) (min w (O.length+1)) (by simp) ⟨by omega,by omega⟩
     simp only [bf] at hin
     obtain ⟨e,s',O',w',q1,q2,q3,ih⟩:=l104m (x56:=x56) (x57:=x57) (x58:=x58) (cc:=cc) hR hL hok hf hb j (i+1) r' (O++[.cells 1 [],.dead,.cells 1 ((x.locals++x.stack).flatMap strC)]) (min w (O.length+1)) (by omega) ⟨g1.hi,by have:=g1.lo; omega⟩ (by omega) (hO.trans (Pre.app _ _))
     refine ⟨e,s',O',w',q1,q2,q3,fun k=>?_⟩
     have ih:=ih k
     rw [e2,ha] at ih
     rw [bh,ha]
     generalize ACode.loop code104L1=L' at ih ⊢
     have hz:=fun w=>rowOfC (e:=1) (n:=x.locals.length) (h:=⟨O++[.cells 1 [],.cells 1 (x.locals.flatMap strC)],b,w⟩) (i:=O.length+1) (c:=none) (by rw [get_k]; rfl) flatL
     rw [List.flatMap_append] at hin ih
     rw [bg,Int.natCast_add] at hin
     simp (disch:=omega) [-sget,sgetN,sgetH,sgetT,-rowOf,rowOf0,hz,hl2,code104L1,hp,hv,c0,c1,c2,hl1,dz,dx,get_k,get_k0,set_k,set_k0,e9 hxo.lu,e9 hxo.su,hin,ih,ids_strC]
end
end Go.Abs.AbsHier

namespace Go.Abs.AbsHier
open Go.Abs.AbsDesc
variable {os O H:List AObj} {b w:Nat}
theorem tdiv_50 {n:Nat} (hn:n≤reachB*4):∃ q:Int,(n:Int).tdiv 50=q∧0≤q∧q≤281474976702464:=by
 have hn':n≤562949953404928:=hn
 refine ⟨_,rfl,?_,?_⟩
 ·exact Int.tdiv_nonneg (by omega) (by omega)
 ·rw [Int.tdiv_eq_ediv_of_nonneg (by omega)]
  omega
section
attribute [-simp] getElem?_pos getElem?_neg List.all_eq_true
attribute [local simp] gz gs nltT nltF iltT iltF ileT nleT ef
theorem l104f {L:List FieldU} {aa:Option (Nat × Nat)} {cc:Option Nat} {x1:List AVal} (hR:Row H 3 FieldU.cells L aa) (hL:L.length≤reachB) (hs:∀ t ∈ L,t.fits) :
  ∀ (j i:Nat) (r:Int) (w:Nat),i+j=L.length→Left j r →
  ∃ r',Went j r r'∧∀ (k:AExit→St→Option (AVal × Heap)),
  xK T (.loop code104L5) ⟨[(1,.var x1),(3,.val (.int .i64 r)),(37,.val (.slice aa L.length cc)),(38,.val (.int .i64 L.length)),(39,.val (.int .i64 i))],⟨H,b,w⟩⟩ (k:=⟨k⟩) =
   k (.exit 0) ⟨[(1,.var x1),(3,.val (.int .i64 r'))],⟨H,b,w⟩⟩
 | 0,i,r,w,hi,hr=>by
  refine ⟨r,hr.zero,fun k=>?_⟩
  rw [bh]
  simp (disch:=omega) [code104L5]
 | j+1,i,r,w,hi,hr=>by
  obtain ⟨t,hx⟩:∃ t,L[i]? = some t:=⟨_,ag (by omega)⟩
  obtain ⟨p,o,cs,ha,hp,hpl,hcs,hv⟩:=fh hR hx
  obtain ⟨f1,f2⟩:=hs t (aq hx)
  obtain ⟨q,hq,hq0,hq1⟩:=tdiv_50 (n:=t.name.length+t.desc.length) (by omega)
  simp only [Int.natCast_add] at hq
  have hb:reachB=140737488351232:=rfl
  have g0:0≤1+q:=by omega
  have g1:1+q≤562949953404928:=by omega
  obtain ⟨r',h1,ih⟩:=l104f (x1:=x1) (cc:=cc) hR hL hs j (i+1) (r - (1+q)) w (by omega) (hr.next g0 g1)
  refine ⟨r',h1.next g0 g1,fun k=>?_⟩
  have r1:=hr.hi
  have r2:=hr.lo
  have ih:=ih k
  have e2:((i+1:Nat):Int)=(i:Int)+1:=by omega
  have e3:r - (1+q)=r - 1 - q:=by omega
  rw [e2,e3,ha] at ih
  rw [bh,ha]
  unfold FieldU.cells at hv
  generalize ACode.loop code104L5=L' at ih ⊢
  simp (disch:=omega) [code104L5,hp,hv,hq,ih]
theorem l104M {L:List MethU} {aa:Option (Nat × Nat)} {cc:Option Nat} (hR:Row os 8 MethU.cells L aa) (hL:L.length≤reachB) (hok:∀ x ∈ L,x.ok os) (hf:∀ x ∈ L,x.fits) (hb:b≤os.length) :
  ∀ (j i:Nat) (r:Int) (O:List AObj) (w:Nat),i+j=L.length→Left 1000 r→os.length≤w→Pre os O →
  ∃ e s' O' w',os.length≤w'∧Pre os O'∧((e = .ret∧s'=[(2,.val (.bool false))])∨(e = .exit 2∧∃ r',s'=[(3,.val (.int .i64 r'))]))∧∀ (k:AExit→St→Option (AVal × Heap)),
  xK T (.loop code104L4) ⟨[(3,.val (.int .i64 r)),(56,.val (.slice aa L.length cc)),(57,.val (.int .i64 L.length)),(58,.val (.int .i64 i))],⟨O,b,w⟩⟩ (k:=⟨k⟩) =
   k e ⟨s',⟨O',b,w'⟩⟩
 | 0,i,r,O,w,hi,hr,hw,hO=>by
  refine ⟨.exit 2,_,O,w,hw,hO,.inr ⟨rfl,r,rfl⟩,fun k=>?_⟩
  rw [bh]
  simp (disch:=omega) [code104L4]
 | j+1,i,r,O,w,hi,hr,hw,hO=>by
  obtain ⟨x,hx⟩:∃ x,L[i]? = some x:=⟨_,ag (by omega)⟩
  obtain ⟨p,o,cs,ha,hp,hpl,hcs,hv⟩:=fh (hO.row hR) hx
  have hxm:=aq hx
  have hxo:=(hok x hxm).pre hO
  have hxf:=hf x hxm
  have hrb:reachB=140737488351232:=rfl
  have hOl:=hO.len
  have r1:=hr.hi
  have r2:=hr.lo
  have e2:((i+1:Nat):Int)=(i:Int)+1:=by omega
  have f1:=hxf.name
  have f2:=hxf.desc
  have f3:=hxf.c
  have f4:=hxf.t
  have f5:=hxf.x
  obtain ⟨q,hq,hq0,hq1⟩:=tdiv_50 (n:=x.name.length+x.desc.length) (by omega)
  simp only [Int.natCast_add] at hq
  unfold MethU.cells at hv
  by_cases c0:r - 1 - x.code.length - x.traps.length - q < 0
  ·refine ⟨.ret,_,O,w,hw,hO,.inl ⟨rfl,rfl⟩,fun k=>?_⟩
   rw [bh,ha]
   simp (disch:=omega) [code104L4,hp,hv,hq,c0]
  ·obtain ⟨ra,ga,ha1⟩:=l104c (b:=b) (cc:=x.cc) (x7:=x.cells) (x56:=.slice (some (p,o)) L.length cc) (x57:=.int .i64 L.length) (x58:=.int .i64 i) hxo.c (by omega) hxf.cs x.code.length 0 (r - 1 - x.code.length - x.traps.length - q) w (by simp) ⟨by omega,by omega⟩
   have ga1:=ga.lo
   have ga2:=ga.hi
   obtain ⟨rb,gb,hb1⟩:=l104t (b:=b) (cc:=x.tc) (x7:=x.cells) (x56:=.slice (some (p,o)) L.length cc) (x57:=.int .i64 L.length) (x58:=.int .i64 i) hxo.t (by omega) hxf.ts x.traps.length 0 ra w (by simp) ⟨by omega,by omega⟩
   have gb1:=gb.lo
   have gb2:=gb.hi
   obtain ⟨e,s',O1,w1,q1,q2,q3,hc1⟩:=l104m (cc:=x.xc) (x56:=.slice (some (p,o)) L.length cc) (x57:=.int .i64 L.length) (x58:=.int .i64 i) (hok x hxm).x f5 (hok x hxm).xok hxf.xs hb x.maps.length 0 rb O w (by simp) ⟨by omega,by omega⟩ hw hO
   simp only [bf,MethU.cells] at ha1 hb1 hc1
   rcases q3 with ⟨rfl,rfl⟩ | ⟨rfl,rc,gc,rfl⟩
   ·refine ⟨.ret,_,O1,w1,q1,q2,.inl ⟨rfl,rfl⟩,fun k=>?_⟩
    rw [bh,ha]
    simp (disch:=omega) [code104L4,hp,hv,hq,c0,ha1,hb1,hc1]
   ·by_cases c1:rc < 0
    ·refine ⟨.ret,_,O1,w1,q1,q2,.inl ⟨rfl,rfl⟩,fun k=>?_⟩
     rw [bh,ha]
     simp (disch:=omega) [code104L4,hp,hv,hq,c0,ha1,hb1,hc1,c1]
    ·obtain ⟨e,s',O2,w2,p1,p2,p3,ih⟩:=l104M (cc:=cc) hR hL hok hf hb j (i+1) rc O1 w1 (by omega) gc q1 q2
     refine ⟨e,s',O2,w2,p1,p2,p3,fun k=>?_⟩
     have ih:=ih k
     rw [e2,ha] at ih
     rw [bh,ha]
     generalize ACode.loop code104L4=L' at ih ⊢
     simp (disch:=omega) [code104L4,hp,hv,hq,c0,ha1,hb1,hc1,c1,ih]
theorem s104 {u:UnitU} (hu:u.ok O) (hf:u.fits) (hb:b≤O.length):∃ r:Bool,xCall T 104 [.agg u.cells] ⟨O,b,w⟩=some (.bool r,⟨O,b,w⟩):=by
 have hcu:u.cells=[.str u.name,.str u.super,.slice u.fa u.fields.length u.fc,.slice u.ma u.meths.length u.mc]:=rfl
 have hrb:reachB=140737488351232:=rfl
 have f1:=hf.name
 have f2:=hf.super
 have f3:=hf.f
 have f4:=hf.m
 by_cases c1:(70:Int) < u.fields.length
 ·refine ⟨false,?_⟩
  rw [hcu]
  simp (disch:=omega) [a6 t104,code104,c1]
 ·by_cases c2:(40:Int) < u.meths.length
  ·refine ⟨false,?_⟩
   rw [hcu]
   simp (disch:=omega) [a6 t104,code104,c1,c2]
  ·by_cases c3:(300:Int) < u.name.length+u.super.length
   ·refine ⟨false,?_⟩
    rw [hcu]
    simp (disch:=omega) [a6 t104,code104,c1,c2,c3]
   ·obtain ⟨ra,ga,ha⟩:=l104f (b:=b) (cc:=u.fc) (x1:=u.cells) hu.f f3 hf.fs u.fields.length 0 600 O.length (by simp) ⟨by omega,by omega⟩
    have g1:=ga.lo
    have g2:=ga.hi
    obtain ⟨e,s',O1,w1,q1,q2,q3,hm⟩:=l104M (b:=b) (cc:=u.mc) hu.m f4 hu.mok hf.ms hb u.meths.length 0 ra O O.length (by simp) ⟨by omega,by omega⟩ (aj _) (Pre.refl _)
    simp only [bf] at ha hm
    rw [hcu] at ha ⊢
    rcases q3 with ⟨rfl,rfl⟩ | ⟨rfl,rc,rfl⟩
    ·refine ⟨false,?_⟩
     simp (disch:=omega) [a6 t104,code104,c1,c2,c3,ha,hm]
    ·refine ⟨decide (0≤rc),?_⟩
     simp (disch:=omega) [a6 t104,code104,c1,c2,c3,ha,hm]
end
end Go.Abs.AbsHier

namespace Go.Abs.AbsFlow
open Go.Abs.AbsDesc Go.Abs.AbsHier
open Go.Abs.AbsOrd hiding T sub
variable {os O:List AObj} {b w:Nat}
section
attribute [-simp] getElem?_pos getElem?_neg List.all_eq_true
attribute [local simp] gz gs nltT nltF iltT iltF ileT nleT ef
theorem s75 {m:MethU} (hm:m.ok O) (hf:m.fits) (hb:b≤O.length) (w:Nat):∃ r:Bool,xCall T 75 [.agg m.cells] ⟨O,b,w⟩=some (.bool r,⟨O,b,w⟩)∧(r=true→m.code.length≤200∧m.traps.length≤30):=by
 have hcm:m.cells=[.bool m.st,.str m.name,.str m.desc,.int .i64 m.stack,.int .i64 m.locals,.slice m.ca m.code.length m.cc,.slice m.ta m.traps.length m.tc,.slice m.xa m.maps.length m.xc]:=rfl
 by_cases c1:m.code.length≤200
 ·have c1':(m.code.length:Int)≤200:=by omega
  by_cases c2:m.traps.length≤30
  ·have c2':(m.traps.length:Int)≤30:=by omega
   have hp:Pre O (O++[.cells 8 m.cells]):=Pre.app _ _
   have hk:(O++[AObj.cells 8 m.cells])[O.length]? = some (.cells 8 m.cells):=by rw [get_k0]; rfl
   have hm1:=MethU.ok.pre hp hm
   have hu:UnitU.ok (O++[.cells 8 m.cells]) ⟨[],[],[],none,some 0,[m],some (O.length,0),some 1⟩:=by
    refine ⟨by simp,by simp,⟨fun h=>absurd rfl h⟩,by simp,(fun i o e=>by cases e),(fun x hx=>by cases hx),?_,(by show 1≤9223372036854775807; decide),(fun i o e=>by cases e; simp),fun x hx=>?_⟩
    ·exact Row.mk0 (fun _=>rfl) (by rw [hk]; simp)
    ·rw [bv.1 hx]; exact hm1
   have hfu:UnitU.fits ⟨[],[],[],none,some 0,[m],some (O.length,0),some 1⟩:=by
    refine ⟨by simp,by simp,by simp,(fun x hx=>by cases hx),by simp [reachB],(fun x hx=>?_),⟨(fun k e=>by simp),(fun k e=>by cases e; simp)⟩⟩
    rw [bv.1 hx]; exact hf
   obtain ⟨r,hr⟩:=AbsHier.s104 (b:=b) (w:=O.length) hu hfu (by simp; omega)
   have hr:=xCall_sub subT hr
   have hcu:UnitU.cells ⟨[],[],[],none,some 0,[m],some (O.length,0),some 1⟩=[.str [],.str [],.slice none 0 (some 0),.slice (some (O.length,0)) 1 (some 1)]:=rfl
   rw [hcu,hcm] at hr
   refine ⟨r,?_,fun _=>⟨c1,c2⟩⟩
   cases r <;> simp (disch:=omega) [a6 t75,code75,hcm,c1',c2',hr]
  ·have c2':¬ (m.traps.length:Int)≤30:=by omega
   exact ⟨false,by simp (disch:=omega) [a6 t75,code75,hcm,c1',c2'],fun h=>by cases h⟩
 ·have c1':¬ (m.code.length:Int)≤200:=by omega
  exact ⟨false,by simp (disch:=omega) [a6 t75,code75,hcm,c1'],fun h=>by cases h⟩
end
def good (m:MethU) (i:Nat) (p:Int):Prop:=0≤p∧p < m.code.length∧(p=(i:Int)+1∨hasMap m p=true)
section
attribute [-simp] getElem?_pos getElem?_neg List.all_eq_true
attribute [local simp] gz gs nltT nltF iltT iltF ileT nleT ef
theorem l72a {m:MethU} {L:List Int} {a:Option (Nat × Nat)} {c:Option Nat} {i:Nat} {x21 x22 x23:AVal} (hm:m.ok O) (hf:m.fits) (hb:b≤O.length) (hi:i≤1000) (hn:L.length≤10) (hL:Row O 1 intC L a) (hg:∀ p ∈ L,good m i p):∀ (j q:Nat) (w:Nat),q+j=L.length→∀ (k:AExit→St→Option (AVal × Heap)),
  xK T (.loop code72L0) ⟨[(1,.var m.cells),(3,.val (.int .i64 i)),(21,.val x21),(22,.val x22),(23,.val x23),(40,.val (.slice a L.length c)),(41,.val (.int .i64 L.length)),(42,.val (.int .i64 q))],⟨O,b,w⟩⟩ (k:=⟨k⟩) =
   k (.exit 2) ⟨[(1,.var m.cells),(21,.val x21),(22,.val x22),(23,.val x23)],⟨O,b,w⟩⟩
 | 0,q,w,hq,k=>by
  rw [bh]
  simp (disch:=omega) [code72L0]
 | j+1,q,w,hq,k=>by
  have hcm:m.cells=[.bool m.st,.str m.name,.str m.desc,.int .i64 m.stack,.int .i64 m.locals,.slice m.ca m.code.length m.cc,.slice m.ta m.traps.length m.tc,.slice m.xa m.maps.length m.xc]:=rfl
  obtain ⟨x,hx⟩:∃ x,L[q]? = some x:=⟨_,ag (by omega)⟩
  obtain ⟨p,o,cs,ha,hp,hv⟩:=int_at hL hx
  obtain ⟨g1,g2,g3⟩:=hg x (aq hx)
  have ih:=l72a (c:=c) (x21:=x21) (x22:=x22) (x23:=x23) hm hf hb hi hn hL hg j (q+1) w (by omega) k
  have e2:((q+1:Nat):Int)=(q:Int)+1:=by omega
  rw [e2] at ih
  have d1:¬ x < 0:=by omega
  have d2:¬ (m.code.length:Int)≤x:=by omega
  subst ha
  rw [bh]
  rcases s71 (i:=x) hm hf hb w with ⟨e,y,hy,_,h71⟩ | ⟨e,h71⟩
  ·have hcy:y.cells=[.int .i64 y.at',.slice y.la y.locals.length y.lc,.slice y.sa y.stack.length y.sc]:=rfl
   rw [hcy,hcm] at h71
   rw [hcm] at ih ⊢
   generalize ACode.loop code72L0=LL at ih ⊢
   by_cases d3:x=(i:Int)+1
   ·subst d3
    simp (disch:=omega) [code72L0,hp,hv,h71,d1,d2,ih]
   ·simp (disch:=omega) [code72L0,hp,hv,h71,d1,d2,d3,ih]
  ·have d3:x=(i:Int)+1:=g3.resolve_right fun q=>by rw [e] at q; cases q
   rw [hcm] at h71 ih ⊢
   generalize ACode.loop code72L0=LL at ih ⊢
   subst d3
   simp (disch:=omega) [code72L0,hp,hv,h71,d1,d2,ih]
end
theorem needL_mem {n:Nat} {x:InsU}:∀ {L:List InsU} {i:Nat},x ∈ L→formN x.op=7→x.n ∈ needL n i L
 | y :: r,i,h,hf=>by
  simp only [needL,ba]
  rcases bt.1 h with rfl | h
  ·exact .inl (by unfold needB; rw [if_pos hf]; simp)
  ·exact .inr (.inr (needL_mem h hf))
theorem nexts_good {m:MethU} (hc:checkM m=0) {i:Nat} {x:InsU} (hx:m.code[i]? = some x):(∀ p ∈ nextsL m i x,good m i p)∧(endsC x.op=false→nextsL m i x≠[]):=by
 have hil:=ah hx
 unfold checkM at hc
 split at hc
 ·cases hc
 split at hc
 ·cases hc
 split at hc
 ·cases hc
 split at hc
 ·cases hc
 rename_i y hy
 split at hc
 ·cases hc
 rename_i he
 split at hc
 ·cases hc
 split at hc
 ·cases hc
 rename_i hr
 split at hc
 ·cases hc
 rename_i hnd
 have hr:rangesOk m=true:=by simpa using hr
 have hnd:(needs m).all (hasMap m)=true:=by simpa using hnd
 have he:endsC y.op=true:=by simpa using he
 have hE:∀ p ∈ outE m.code.length i x,good m i p:=fun p hp=>by
  unfold outE at hp
  split at hp
  ·rename_i h
   have:=bv.1 hp
   subst this
   refine ⟨by omega,by omega,.inl (by omega)⟩
  ·cases hp
 have hB:∀ p ∈ outB m x,good m i p:=fun p hp=>by
  unfold outB at hp
  split at hp
  ·rename_i h
   have:=bv.1 hp
   subst this
   have h2:=h.2
   unfold inM inI at h2
   simp only [ap,decide_eq_true_eq] at h2
   refine ⟨h2.1,by omega,.inr ?_⟩
   rw [al] at hnd
   exact hnd _ (cg _ (needL_mem (aq hx) h.1))
  ·cases hp
 have hS:∀ (l:List Int) (p:Int),p ∈ srt2 l→p ∈ l:=fun l p hp=>by
  unfold srt2 at hp
  split at hp
  ·rename_i x y
   split at hp
   ·simp at hp ⊢; rcases hp with h | h <;> simp [h]
   ·split at hp
    ·simp at hp; simp [hp]
    ·exact hp
  ·exact hp
 constructor
 ·intro p hp
  rcases ba.1 (hS _ p hp) with h | h
  ·exact hE p h
  ·exact hB p h
 ·intro h0
  have hlt:i+1 < m.code.length:=by
   rcases am (i+1) m.code.length with h | h
   ·exact h
   ·have:i=m.code.length - 1:=by omega
    rw [List.getLast?_eq_getElem?,← this,hx] at hy
    cases hy
    rw [h0] at he; cases he
  have hEe:outE m.code.length i x=[((i+1:Nat):Int)]:=by unfold outE; rw [if_pos ⟨h0,hlt⟩]
  unfold nextsL
  rw [hEe]
  unfold outB
  split
  ·simp only [fe,List.nil_append,srt2]
   split
   ·simp
   ·split <;> simp
  ·simp [srt2]
end Go.Abs.AbsFlow

namespace Go.Abs.AbsFlow
open Go.Abs.AbsDesc Go.Abs.AbsHier
open Go.Abs.AbsOrd hiding T sub
variable {os O:List AObj} {b w:Nat}
theorem nexts_few {m:MethU} {i:Nat} {x:InsU}:(nextsL m i x).length≤2:=by
 have h1:(outE m.code.length i x).length≤1:=by unfold outE; split <;> simp
 have h2:(outB m x).length≤1:=by unfold outB; split <;> simp
 have h3:(outE m.code.length i x++outB m x).length≤2:=by rw [bg]; omega
 unfold nextsL
 generalize outE m.code.length i x++outB m x=l at h3
 unfold srt2
 split
 ·split
  ·simp
  ·split <;> simp
 ·exact h3
section
attribute [-simp] getElem?_pos getElem?_neg List.all_eq_true
attribute [local simp] gz gs nltT nltF iltT iltF ileT nleT ef
theorem l72b {m:MethU} (hm:m.ok O) (hf:m.fits) (ho:∀ x ∈ m.code,0≤x.op∧x.op < 256) (hb:b≤O.length) (hn:m.code.length≤1000) (hc:checkM m=0):∀ (j i w:Nat) (P:List AObj),i+j=m.code.length→Pre O P→O.length≤w →
  ∃ P',∃ w':Nat,Pre O P'∧O.length≤w'∧∀ (k:AExit→St→Option (AVal × Heap)),
  xK T (.loop code72L1) ⟨[(1,.var m.cells),(21,.val (.slice m.ca m.code.length m.cc)),(22,.val (.int .i64 m.code.length)),(23,.val (.int .i64 i))],⟨P,b,w⟩⟩ (k:=⟨k⟩)=k (.exit 0) ⟨[],⟨P',b,w'⟩⟩
 | 0,i,w,P,hi,hp,hw=>by
  refine ⟨P,w,hp,hw,fun k=>?_⟩
  rw [bh]
  simp (disch:=omega) [code72L1]
 | j+1,i,w,P,hi,hp,hw=>by
  have hcm:m.cells=[.bool m.st,.str m.name,.str m.desc,.int .i64 m.stack,.int .i64 m.locals,.slice m.ca m.code.length m.cc,.slice m.ta m.traps.length m.tc,.slice m.xa m.maps.length m.xc]:=rfl
  obtain ⟨x,hx⟩:∃ x,m.code[i]? = some x:=⟨_,ag (by omega)⟩
  have hm1:=MethU.ok.pre hp hm
  have hpl:=hp.len
  obtain ⟨P1,a1,c1,w1,e74,p1,v1,r1⟩:=s74 (O:=P) (b:=b) (w:=w) (n0:=O.length) hm1 ho (by omega) hn hx hpl hw
  have hm2:=MethU.ok.pre p1 hm1
  have hl1:=p1.len
  obtain ⟨hg,hne⟩:=nexts_good hc hx
  have hfew:=nexts_few (m:=m) (i:=i) (x:=x)
  have k1:=fun x21 x22 x23 w k=>l72a (O:=P1) (b:=b) (c:=c1) (x21:=x21) (x22:=x22) (x23:=x23) hm2 hf (by omega) (show i≤1000 by omega) (by omega) r1 hg (nextsL m i x).length 0 w (by omega) k
  simp only [bf] at k1
  obtain ⟨P',w',i1,i2,i3⟩:=l72b hm hf ho hb hn hc j (i+1) w1 P1 (by omega) (hp.trans p1) v1
  refine ⟨P',w',i1,i2,fun k=>?_⟩
  have ih:=i3 k
  have e2:((i+1:Nat):Int)=(i:Int)+1:=by omega
  rw [e2] at ih
  obtain ⟨p,o,cs,ha,hpp,hppl,hcs,hv⟩:=fh hm1.c hx
  have hcx:x.cells=[.int .u8 x.op,.int .i64 x.n,.int .i64 x.m,.str x.cls,.str x.name,.str x.desc,.str x.text]:=rfl
  rw [hcx] at hv
  have h73:=fun h=>s73 (c:=x.op) (h:=h)
  rw [ha] at hcm ih ⊢
  rw [hcm] at e74 k1 ih ⊢
  rw [bh]
  generalize ACode.loop code72L1=LL at ih ⊢
  by_cases h0:nextsL m i x=[]
  ·have he:endsC x.op=true:=by
    rcases Bool.eq_false_or_eq_true (endsC x.op) with h | h
    ·exact h
    ·exact absurd h0 (hne h)
   rw [he] at h73
   have hz:(nextsL m i x).length=0:=by rw [h0]; rfl
   rw [hz] at e74 k1
   simp only [bf] at k1
   simp (disch:=omega) [code72L1,hpp,hv,e74,h73,k1,ih]
  ·have hz:¬ ((nextsL m i x).length:Int)=0:=by
    intro e
    exact h0 (a9 (by omega))
   simp (disch:=omega) [code72L1,hpp,hv,e74,h0,hz,k1,ih]
end
theorem s77 {h:Heap}:xCall T 77 [] h=some (.bool true,h):=closed_run (f:=code77) t77 rfl 60 rfl rfl (h':=⟨[],0,0⟩) (by kernel_rfl) h
section
attribute [-simp] getElem?_pos getElem?_neg List.all_eq_true
attribute [local simp] gz gs nltT nltF iltT iltF ileT nleT ef
theorem s72 {m:MethU} (hm:m.ok O) (hf:m.fits) (ho:∀ x ∈ m.code,0≤x.op∧x.op < 256) (hb:b≤O.length):xCall T 72 [.agg m.cells] ⟨O,b,w⟩=some (.bool true,⟨O,b,w⟩):=by
 have hcm:m.cells=[.bool m.st,.str m.name,.str m.desc,.int .i64 m.stack,.int .i64 m.locals,.slice m.ca m.code.length m.cc,.slice m.ta m.traps.length m.tc,.slice m.xa m.maps.length m.xc]:=rfl
 have h77:=fun h=>s77 (h:=h)
 obtain ⟨r,h75,hr⟩:=s75 hm hf hb O.length
 cases r with
 | false =>
  rw [hcm] at h75
  simp (disch:=omega) [a6 t72,code72,hcm,h77,h75]
 | true =>
  obtain ⟨n1,n2⟩:=hr rfl
  have h76:=s76 (b:=b) (w:=O.length) hm hf ho hb (by omega) (by omega)
  by_cases hc:checkM m=0
  ·obtain ⟨P',w',p1,v1,k1⟩:=l72b hm hf ho hb (by omega) hc m.code.length 0 O.length O (by omega) (Pre.refl _) (aj _)
   simp only [bf] at k1
   rw [hc] at h76
   rw [hcm] at h75 h76 k1
   have hq:¬ w' < O.length:=by omega
   simp (disch:=omega) [a6 t72,code72,hcm,h77,h75,h76,k1,hq]
  ·rw [hcm] at h75 h76
   simp (disch:=omega) [a6 t72,code72,hcm,h77,h75,h76,hc]
end
end Go.Abs.AbsFlow

namespace Go.Abs
variable {os:List AObj} {b w:Nat} {d:Dat} {cs:List AVal}
theorem has_ins2 (h:Has ⟨os,b,w⟩ shIns d cs):∃ x:InsU,cs=x.cells∧x.fits∧0≤x.op∧x.op < 256:=by
 obtain ⟨l,rfl,h⟩:=h.struct
 obtain ⟨_,_,_,_,rfl,rfl,h1,h⟩:=h.cons
 obtain ⟨_,_,_,_,rfl,rfl,h2,h⟩:=h.cons
 obtain ⟨_,_,_,_,rfl,rfl,h3,h⟩:=h.cons
 obtain ⟨_,_,_,_,rfl,rfl,h4,h⟩:=h.cons
 obtain ⟨_,_,_,_,rfl,rfl,h5,h⟩:=h.cons
 obtain ⟨_,_,_,_,rfl,rfl,h6,h⟩:=h.cons
 obtain ⟨_,_,_,_,rfl,rfl,h7,h⟩:=h.cons
 obtain ⟨rfl,rfl⟩:=h.nil
 obtain ⟨op,_,rfl,ho⟩:=h1.int
 obtain ⟨n,_,rfl,_⟩:=h2.int
 obtain ⟨m,_,rfl,_⟩:=h3.int
 obtain ⟨c,_,rfl,hc⟩:=h4.str
 obtain ⟨nm,_,rfl,hn⟩:=h5.str
 obtain ⟨e,_,rfl,he⟩:=h6.str
 obtain ⟨t,_,rfl,ht⟩:=h7.str
 have h0:(0:Int)≤op:=ho.1
 have h1:op≤255:=ho.2
 exact ⟨⟨op,n,m,c,nm,e,t⟩,rfl,⟨hc,hn,he,ht⟩,h0,by show op < 256; omega⟩
theorem has_meth2 (hb:b≤os.length) (h:Has ⟨os,b,w⟩ shMeth d cs):∃ x:MethU,cs=x.cells∧x.ok os∧x.fits∧∀ y ∈ x.code,0≤y.op∧y.op < 256:=by
 obtain ⟨l,rfl,h⟩:=h.struct
 obtain ⟨_,_,_,_,rfl,rfl,h1,h⟩:=h.cons
 obtain ⟨_,_,_,_,rfl,rfl,h2,h⟩:=h.cons
 obtain ⟨_,_,_,_,rfl,rfl,h3,h⟩:=h.cons
 obtain ⟨_,_,_,_,rfl,rfl,h4,h⟩:=h.cons
 obtain ⟨_,_,_,_,rfl,rfl,h5,h⟩:=h.cons
 obtain ⟨_,_,_,_,rfl,rfl,h6,h⟩:=h.cons
 obtain ⟨_,_,_,_,rfl,rfl,h7,h⟩:=h.cons
 obtain ⟨_,_,_,_,rfl,rfl,h8,h⟩:=h.cons
 obtain ⟨rfl,rfl⟩:=h.nil
 obtain ⟨st,_,rfl⟩:=h1.bool
 obtain ⟨n,_,rfl,hn⟩:=h2.str
 obtain ⟨e,_,rfl,he⟩:=h3.str
 obtain ⟨p,_,rfl,_⟩:=h4.int
 obtain ⟨q,_,rfl,_⟩:=h5.int
 obtain ⟨ca,C,cc,rfl,hC,hCn,hCs,hCu,_⟩:=h6.row (ok:=fun x:InsU=>x.fits∧0≤x.op∧x.op < 256) fun d c h=>has_ins2 h
 obtain ⟨ta,T,tc,rfl,hT,hTn,hTs,hTu,_⟩:=h7.row fun d c h=>has_trap h
 obtain ⟨xa,X,xc,rfl,hX,hXn,hXs,hXu,_⟩:=h8.row (ok:=fun x:MapU=>x.ok os∧x.fits) fun d c h=>has_map hb h
 have hCs':∀ x ∈ C,x.fits:=fun x hx=>(hCs x hx).1
 exact ⟨⟨st,n,e,p,q,C,ca,cc,T,ta,tc,X,xa,xc⟩,rfl,
  ⟨gu hn,gu he,hC,gu hCn,under_of hCu hb,fun x hx=>⟨gu (hCs' x hx).1,gu (hCs' x hx).2.1,gu (hCs' x hx).2.2.1,gu (hCs' x hx).2.2.2⟩,hT,gu hTn,under_of hTu hb,fun x hx=>gu (hTs x hx),hX,gu hXn,under_of hXu hb,fun x hx=>(hXs x hx).1⟩,
  ⟨hn,he,hCn,hCs',hTn,hTs,hXn,fun x hx=>(hXs x hx).2⟩,fun y hy=>(hCs y hy).2⟩
end Go.Abs

namespace Go.Abs
def AOper.isLoc (o:AOper):Bool:=match o.op with
 | .lalloc _ | .lbox _ | .ext (.hstore _) _=>true
 | _=>false
def locsOf:Nat→List AOper→List Nat
 | _,[]=>[]
 | i,o :: r=>if o.isLoc then i :: locsOf (i+1) r else locsOf (i+1) r
def ACode.hint:ACode→Hint
 | .skip | .exit _ | .ret | .next _ _=>.leaf
 | .region gs=>.reg (gs.map fun g=>(g.quiet,g.ops.length)) (locsOf 0 (gs.flatMap Seg.ops))
 | .seq (.next _ _) _=>.next
 | .seq a b=>.seq a.hint b.hint
 | .cond (.const (.str [])) .skip .skip=>.stuck
 | .cond _ a b=>.cond a.hint b.hint
 | .block _ c=>.block c.hint
 | .loop c=>.loop c.hint
 | .live l c=>.live l c.hint
 | .after c l=>.after c.hint l
 | .rangeFunc _ g caps _ a b=>.rangeFunc g caps a.hint b.hint
theorem ow {E:Env} {T:Nat→Option AFunc} {f g:Nat} {fn:Func} {c:AFunc} {b:Bool} {hint:Hint} (h3:cFunc E b hint fn=some c) (h1:E.P.funcs[f]? = some fn) (h2:T g=some c) (h4:RndOK E c.body.rounds):FnOK E T f g:=.inr (.inl ⟨_,_,_,_,h1,h2,h3,h4⟩)
end Go.Abs
