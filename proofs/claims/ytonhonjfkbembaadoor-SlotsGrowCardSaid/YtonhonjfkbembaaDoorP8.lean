/-
  Texts joined.
-/
import Derived.Test.YtonhonjfkbembaaDoorP0
import Derived.Test.YtonhonjfkbembaaDoorP7
import Derived.Test.YtonhonjfkbembaaDoorP6
set_option linter.unusedVariables false
set_option linter.unusedSimpArgs false
set_option maxRecDepth 100000
namespace Go.Abs.AbsHier
open Go.Abs.AbsDesc
variable {os O:List AObj} {b w:Nat} {N:Nat} {S:List (Str × Str)} {F M:List (Key × Mem)} {V:List (Key × Bool)}
theorem World.setF (h:World O N S F M V) (F':List (Key × Mem)):World (O.set (N+2) (mObj keyF memF F')) N S F' M V:=by
 have hl:=h.lt
 constructor
 ·rw [ai (by omega)]; exact h.w0
 ·rw [ai (by omega)]; exact h.m1
 ·rw [d7,if_pos rfl,if_pos (by omega)]
 ·rw [ai (by omega)]; exact h.m3
 ·rw [ai (by omega)]; exact h.m4
theorem World.setM (h:World O N S F M V) (M':List (Key × Mem)):World (O.set (N+3) (mObj keyF memF M')) N S F M' V:=by
 have hl:=h.lt
 constructor
 ·rw [ai (by omega)]; exact h.w0
 ·rw [ai (by omega)]; exact h.m1
 ·rw [ai (by omega)]; exact h.m2
 ·rw [d7,if_pos rfl,if_pos (by omega)]
 ·rw [ai (by omega)]; exact h.m4
def fieldOk (S:List (Str × Str)) (A:List (Str × Bool)) (f:FieldU):Bool:=isName f.name && isTy f.desc && thereS S f.desc && !(getE A f.name).getD false
def fieldsS (S:List (Str × Str)):List (Str × Bool)→List FieldU→Bool
 | _,[]=>true
 | A,f :: r=>fieldOk S A f && fieldsS S (A++[(f.name,true)]) r
def fieldE (c:Str) (f:FieldU):Key × Mem:=((c,f.name,f.desc),⟨c,f.st⟩)
theorem l99 {u:UnitU} (hu:u.ok os) (hp:Pre os O) (hN:os.length≤N) (h:World O N S F M V) (hb:b≤N):∀ (j i:Nat) (F':List (Key × Mem)) (A:List (Str × Bool)) (w:Nat),i+j=u.fields.length→N+2≤w →
  (∀ x ∈ F',x.1.1=u.name→(getE A x.1.2.1).isSome=true)→(∀ x ∈ A,x.2=true) →
  ∃ O' w' e s',N+2≤w'∧(if fieldsS S A (u.fields.drop i) then e = .exit 0∧s'=[]∧(w'≤N+2∨(u.fields.drop i=[]∧w'=w))∧∃ X,O'=O.set (N+2) (mObj keyF memF (F'++(u.fields.drop i).map (fieldE u.name)))++X else e = .ret∧s'=[(4,.val (.bool false))]) ∧
   ∀ (k:AExit→St→Option (AVal × Heap)),
   xK T (.loop code99L0) ⟨[(0,.val (.ptr (some (N,0)))),(3,.var u.cells),(5,.val (.map (some O.length))),(10,.val (.slice u.fa u.fields.length u.fc)),(11,.val (.int .i64 u.fields.length)),(12,.val (.int .i64 i))],
    ⟨O.set (N+2) (mObj keyF memF F')++[mObj .str .bool A],b,w⟩⟩ (k:=⟨k⟩)=k e ⟨s',⟨O',b,w'⟩⟩
 | 0,i,F',A,w,hi,hw,hF,hA=>by
  refine ⟨O.set (N+2) (mObj keyF memF F')++[mObj .str .bool A],w,.exit 0,[],hw,?_,fun k=>?_⟩
  ·rw [bq (by omega)]
   simp only [fieldsS,if_true,gq,cz]
   exact ⟨trivial,trivial,.inr ⟨trivial,trivial⟩,_,rfl⟩
  ·rw [bl]
   simp (disch:=omega) [-getElem?_pos,-getElem?_neg,code99L0,iltF]
 | j+1,i,F',A,w,hi,hw,hF,hA=>by
  obtain ⟨f,hf⟩:∃ f,u.fields[i]? = some f:=⟨_,ag (by omega)⟩
  obtain ⟨p,o,cs,ha,hpp,hpl,hcs,ht⟩:=g7 hu.f hf
  have hfn:u.fields.length≤9223372036854775807:=hu.fn
  obtain ⟨hn1,hn2⟩:=hu.fok f (au hf)
  have hd:u.fields.drop i=f :: u.fields.drop (i+1):=by
   have:=aj hf
   rw [ag this] at hf
   rw [dq this,b9 hf]
  have hl:=h.lt
  have hW:=(h.setF F').app [mObj .str .bool A]
  have hpO:(O.set (N+2) (mObj keyF memF F')++[mObj .str .bool A])[p]? = some (.cells 3 cs):=by
   rw [ah (by simp; omega),ai (by omega)]; exact hp _ _ hpp
  have hAl:(O.set (N+2) (mObj keyF memF F')++[mObj .str .bool A])[O.length]? = some (mObj .str .bool A):=by
   rw [aq (by simp)]; simp
  have hbO:b≤(O.set (N+2) (mObj keyF memF F')++[mObj .str .bool A]).length:=by simp; omega
  have h181:=fun w=>s181 (O:=O.set (N+2) (mObj keyF memF F')++[mObj .str .bool A]) (b:=b) (w:=w) (s:=f.name) hbO
  have h27:=fun w=>s27 (os:=O.set (N+2) (mObj keyF memF F')++[mObj .str .bool A]) (b:=b) (w:=w) (s:=f.desc) hn2 hbO
  have h103:=fun w=>s103 (b:=b) (w:=w) hW (t:=f.desc) hn2
  have hlk:=fun w=>lookup_v (b:=b) (w:=w) (kn:=.one .s) (zero:=.bool false) keyStr hAl (k:=f.name) rfl
  have hlv:((getE A f.name).map AVal.bool).getD (.bool false) = .bool ((getE A f.name).getD false):=by cases getE A f.name <;> rfl
  rw [hlv] at hlk
  have hm1:=hW.w0
  have hc0:f.cells=[.bool f.st,.str f.name,.str f.desc]:=rfl
  rw [hc0] at ht
  by_cases c:fieldOk S A f=true
  ·have hc:=c
   unfold fieldOk at hc
   simp only [aw,eg] at hc
   obtain ⟨⟨⟨c1,c2⟩,c3⟩,c4⟩:=hc
   have hgA:getE A f.name=none:=by
    cases hg:getE A f.name with
    | none=>rfl
    | some v =>
     have:=hA _ (getE_mem hg)
     simp only at this
     rw [hg,this] at c4; cases c4
   have hgF:getE F' (u.name,f.name,f.desc)=none:=by
    cases hg:getE F' (u.name,f.name,f.desc) with
    | none=>rfl
    | some v =>
     have:=hF _ (getE_mem hg) rfl
     simp only at this
     rw [hgA] at this; cases this
   have hup1:=fun w=>upd_new (b:=b) (w:=w) (kn:=.one .s) keyStr hAl (k:=f.name) true rfl (by omega) hgA
   have hs1:(O.set (N+2) (mObj keyF memF F')++[mObj .str .bool A]).set O.length (mObj .str .bool (A++[(f.name,true)]))=O.set (N+2) (mObj keyF memF F')++[mObj .str .bool (A++[(f.name,true)])]:=by
    rw [List.set_append_right _ _ (by simp)]; simp
   simp only [hs1] at hup1
   have hW2:=(h.setF F').app [mObj .str .bool (A++[(f.name,true)])]
   have hup2:=fun w=>upd_new (b:=b) (w:=w) (kn:=.agg [.s,.s,.s]) keyKey hW2.m2 (k:=(u.name,f.name,f.desc)) ⟨u.name,f.st⟩ rfl (by omega) hgF
   have hs2:(O.set (N+2) (mObj keyF memF F')++[mObj .str .bool (A++[(f.name,true)])]).set (N+2) (mObj keyF memF (F'++[((u.name,f.name,f.desc),⟨u.name,f.st⟩)]))=O.set (N+2) (mObj keyF memF (F'++[fieldE u.name f]))++[mObj .str .bool (A++[(f.name,true)])]:=by
    rw [List.set_append_left _ _ (by simp; omega),gr]; rfl
   simp only [hs2,keyF,memF] at hup2
   have hm2:=hW2.w0
   obtain ⟨O',w',e,s',r1,r2,ih⟩:=l99 hu hp hN h hb j (i+1) (F'++[fieldE u.name f]) (A++[(f.name,true)]) (min (min w O.length) (N+2)) (by omega) (by omega) (fun x hx hn=>by
     rcases bg.1 hx with hx | hx
     ·rw [jl]
      have:=hF x hx hn
      cases hg:getE A x.1.2.1 with
      | none=>rw [hg] at this; cases this
      | some v=>rfl
     ·rw [b0] at hx
      subst hx
      rw [jl]
      simp only [fieldE,hgA,Option.none_or,getE,if_true]
      rfl) (fun x hx=>by
     rcases bg.1 hx with hx | hx
     ·exact hA x hx
     ·rw [b0] at hx; subst hx; rfl)
   refine ⟨O',w',e,s',r1,?_,fun k=>?_⟩
   ·rw [hd]
    simp only [fieldsS,c,gn]
    rw [bo]
    rw [ba,eh] at r2
    split at r2
    ·rename_i hff
     obtain ⟨q1,q2,q3,q4⟩:=r2
     rw [if_pos hff]
     refine ⟨q1,q2,.inl ?_,q4⟩
     rcases q3 with q3 | ⟨_,q3⟩ <;> omega
    ·rename_i hff
     rw [if_neg hff]; exact r2
   have ih:=ih k
   have e2:((i+1:Nat):Int)=(i:Int)+1:=by omega
   rw [e2] at ih
   rw [bl,← ih]
   generalize ACode.loop code99L0=L
   generalize O.set (N+2) (mObj keyF memF F')++[mObj .str .bool A]=H at hpO hAl hW hbO h181 h27 h103 hlk hup1 hm1 hs1 ⊢
   generalize O.set (N+2) (mObj keyF memF F')++[mObj .str .bool (A++[(f.name,true)])]=H2 at hup1 hW2 hup2 hs1 hs2 hm2 ⊢
   generalize O.set (N+2) (mObj keyF memF (F'++[fieldE u.name f]))++[mObj .str .bool (A++[(f.name,true)])]=H3 at hup2 hs2 ⊢
   simp (disch:=omega) [-getElem?_pos,-getElem?_neg,-evExt,gz,gs,code99L0,h181,h27,h103,hlk,nltT,nltF,iltT,ileT,nleT,dh,hb,hpO,ht,ha,c1,c2,c3,c4,hup1,hup2,hm1,hm2,keyF,memF,UnitU.cells]
  ·have hfl:fieldsS S A (u.fields.drop i)=false:=by rw [hd]; simp only [fieldsS,Bool.and_eq_false_iff]; left; simpa using c
   rw [hfl]
   refine ⟨O.set (N+2) (mObj keyF memF F')++[mObj .str .bool A],w,.ret,[(4,.val (.bool false))],hw,by simp,fun k=>?_⟩
   rw [bl]
   generalize ACode.loop code99L0=L
   generalize O.set (N+2) (mObj keyF memF F')++[mObj .str .bool A]=H at hpO hAl hW hbO h181 h27 h103 hlk hm1 ⊢
   unfold fieldOk at c
   cases c1:isName f.name with
   | false=>simp (disch:=omega) [-getElem?_pos,-getElem?_neg,-evExt,gz,gs,code99L0,h181,h27,h103,hlk,nltT,nltF,iltT,ileT,nleT,dh,hb,hpO,ht,ha,c1,UnitU.cells]
   | true =>
    cases c2:isTy f.desc with
    | false=>simp (disch:=omega) [-getElem?_pos,-getElem?_neg,-evExt,gz,gs,code99L0,h181,h27,h103,hlk,nltT,nltF,iltT,ileT,nleT,dh,hb,hpO,ht,ha,c1,c2,UnitU.cells]
    | true =>
     cases c3:thereS S f.desc with
     | false=>simp (disch:=omega) [-getElem?_pos,-getElem?_neg,-evExt,gz,gs,code99L0,h181,h27,h103,hlk,nltT,nltF,iltT,ileT,nleT,dh,hb,hpO,ht,ha,c1,c2,c3,UnitU.cells]
     | true =>
      cases c4:(getE A f.name).getD false with
      | false=>rw [c1,c2,c3,c4] at c; exact absurd rfl c
      | true=>simp (disch:=omega) [-getElem?_pos,-getElem?_neg,-evExt,gz,gs,code99L0,h181,h27,h103,hlk,nltT,nltF,iltT,ileT,nleT,dh,hb,hpO,ht,ha,c1,c2,c3,c4,UnitU.cells]
theorem mObj_set (h:World O N S F M V):O.set (N+2) (mObj keyF memF F)=O:=by
 have:=h.lt
 refine eu fun i=>?_
 by_cases e:N+2=i
 ·subst e; rw [d7,if_pos rfl,if_pos (by omega),h.m2]
 ·rw [ai e]
section
attribute [-simp] getElem?_pos getElem?_neg
attribute [local simp] gz gs
theorem s99 {u:UnitU} (hu:u.ok os) (hp:Pre os O) (hN:os.length≤N) (h:World O N S F M V) (hb:b≤N) (hF:∀ x ∈ F,x.1.1≠u.name) :
  ∃ O' w',min w (N+2)≤w'∧(fieldsS S [] u.fields=true→∃ X,O'=O.set (N+2) (mObj keyF memF (F++u.fields.map (fieldE u.name)))++X) ∧
   xCall T 99 [.ptr (some (N,0)),.agg u.cells] ⟨O,b,w⟩=some (.bool (fieldsS S [] u.fields),⟨O',b,w'⟩):=by
 have hl:=h.lt
 obtain ⟨O',w',e,s',r1,r2,hk⟩:=l99 hu hp hN h hb u.fields.length 0 F [] O.length (by omega) (by omega) (fun x hx hn=>absurd hn (hF x hx)) (fun _ h=>by cases h)
 rw [mObj_set h] at hk
 have hm0:mObj AVal.str AVal.bool [] = .map [] 0:=rfl
 simp only [bf,d8,hm0] at hk r2
 by_cases c:fieldsS S [] u.fields=true
 ·rw [if_pos c] at r2
  obtain ⟨rfl,rfl,q3,X,q4⟩:=r2
  rw [c]
  rcases q3 with q3 | ⟨q3,q5⟩
  ·refine ⟨O',min w w',by omega,fun _=>⟨X,q4⟩,?_⟩
   unfold UnitU.cells at hk ⊢
   simp (disch:=omega) [cd t99,code99,hk,nltT]
  ·refine ⟨O,w,by omega,fun _=>⟨[],by rw [q3,gq,cz,cz,mObj_set h]⟩,?_⟩
   unfold UnitU.cells at hk ⊢
   simp (disch:=omega) [cd t99,code99,hk,nltF]
 ·rw [if_neg c] at r2
  obtain ⟨rfl,rfl⟩:=r2
  have c':fieldsS S [] u.fields=false:=by simpa using c
  rw [c']
  refine ⟨if w' < O.length then O' else O,if w' < O.length then min w w' else w,by split <;> omega,by simp,?_⟩
  unfold UnitU.cells at hk ⊢
  simp (disch:=omega) [cd t99,code99,hk]
  split <;> rfl
end
end Go.Abs.AbsHier

namespace Go.Abs.AbsHier
open Go.Abs.AbsDesc
variable {os O:List AObj} {b w:Nat} {N:Nat} {S:List (Str × Str)} {F M:List (Key × Mem)} {V:List (Key × Bool)}
theorem methL_len {s:Str} {A:List Str} {r:Str} (h:methL s=some (A,r)):A.length≤16∧r.length≤s.length∧∀ t ∈ A,t.length≤s.length:=by
 unfold methL at h
 split at h
 ·split at h
  ·rename_i A' r' hm
   split at h
   ·cases h
    obtain ⟨h1,h2,h3⟩:=methA_len hm
    simp only [List.length_tail] at h2 h3
    exact ⟨h1,by simp only [List.length_tail]; omega,fun t ht=>by have:=h3 t ht; omega⟩
   ·cases h
  ·cases h
 ·cases h
section
attribute [-simp] getElem?_pos getElem?_neg
theorem l182 {H:List AObj} {L:List Str} {a:Option (Nat × Nat)} {c:Option Nat} {m:MethU} (h:World H N S F M V) (hR:Row H 1 strC L a) (hL:L.length≤9223372036854775807) (ht:∀ t ∈ L,t.length≤9223372036854775807) :
  ∀ (j i:Nat) (w:Nat),i+j=L.length→∀ (k:AExit→St→Option (AVal × Heap)),
  xK T (.loop code182L1) ⟨[(0,.val (.ptr (some (N,0)))),(3,.var m.cells),(30,.val (.slice a L.length c)),(31,.val (.int .i64 L.length)),(32,.val (.int .i64 i))],⟨H,b,w⟩⟩ (k:=⟨k⟩) =
   if (L.drop i).all (thereS S) then k (.exit 0) ⟨[(0,.val (.ptr (some (N,0)))),(3,.var m.cells)],⟨H,b,w⟩⟩ else k .ret ⟨[(4,.val (.bool false))],⟨H,b,w⟩⟩
 | 0,i,w,hi,k=>by
  rw [bl,bq (by omega)]
  simp (disch:=omega) [code182L1,iltF]
 | j+1,i,w,hi,k=>by
  obtain ⟨t,hx⟩:∃ t,L[i]? = some t:=⟨_,ag (by omega)⟩
  obtain ⟨p,o,cs,rfl,hp,hpl,hcs,hv⟩:=g7 hR hx
  have hg:cs[o+i]? = some (.str t):=by
   have:(List.take 1 (List.drop (o+i*1) cs))[0]? = some (.str t):=by rw [hv]; rfl
   simpa using this
  have hd:L.drop i=t :: L.drop (i+1):=by
   have:=aj hx
   rw [ag this] at hx
   rw [dq this,b9 hx]
  have h103:=fun w=>s103 (b:=b) (w:=w) h (t:=t) (ht t (au hx))
  have ih:=l182 (m:=m) (c:=c) h hR hL ht j (i+1) w (by omega) k
  have e2:((i+1:Nat):Int)=(i:Int)+1:=by omega
  rw [e2] at ih
  rw [bl,hd]
  simp only [eo]
  generalize ACode.loop code182L1=L' at ih ⊢
  rcases ep (thereS S t) with c1 | c1
  ·simp (disch:=omega) [gz,gs,code182L1,h103,iltT,ileT,nltT,nleT,dh,hp,hg,c1,ih]
  ·simp (disch:=omega) [gz,gs,code182L1,h103,iltT,ileT,nltT,nleT,dh,hp,hg,c1]
end
def trapOk (S:List (Str × Str)) (t:TrapU):Bool:=decide (t.cls=[]) || (getE S t.cls).isSome
section
attribute [-simp] getElem?_pos getElem?_neg
theorem l182t {H:List AObj} {L:List TrapU} {a:Option (Nat × Nat)} {c:Option Nat} (h:World H N S F M V) (hR:Row H 4 TrapU.cells L a) (hL:L.length≤9223372036854775807) :
  ∀ (j i:Nat) (w:Nat),i+j=L.length→∀ (k:AExit→St→Option (AVal × Heap)),
  xK T (.loop code182L0) ⟨[(0,.val (.ptr (some (N,0)))),(42,.val (.slice a L.length c)),(43,.val (.int .i64 L.length)),(44,.val (.int .i64 i))],⟨H,b,w⟩⟩ (k:=⟨k⟩) =
   if (L.drop i).all (trapOk S) then k (.exit 2) ⟨[],⟨H,b,w⟩⟩ else k .ret ⟨[(4,.val (.bool false))],⟨H,b,w⟩⟩
 | 0,i,w,hi,k=>by
  rw [bl,bq (by omega)]
  simp (disch:=omega) [code182L0,iltF]
 | j+1,i,w,hi,k=>by
  obtain ⟨t,hx⟩:∃ t,L[i]? = some t:=⟨_,ag (by omega)⟩
  obtain ⟨p,o,cs,rfl,hp,hpl,hcs,hv⟩:=g7 hR hx
  have hd:L.drop i=t :: L.drop (i+1):=by
   have:=aj hx
   rw [ag this] at hx
   rw [dq this,b9 hx]
  have h54:=fun w=>s54 (b:=b) (w:=w) h (c:=t.cls)
  have ih:=l182t (c:=c) h hR hL j (i+1) w (by omega) k
  have e2:((i+1:Nat):Int)=(i:Int)+1:=by omega
  rw [e2] at ih
  rw [bl,hd]
  simp only [eo]
  generalize ACode.loop code182L0=L' at ih ⊢
  unfold TrapU.cells at hv
  have ho:trapOk S t=(decide (t.cls=[]) || (getE S t.cls).isSome):=rfl
  by_cases c0:t.cls=[]
  ·have ho:trapOk S t=true:=by rw [ho,c0]; rfl
   simp (disch:=omega) [-List.all_eq_true,gz,gs,code182L0,iltT,ileT,nltT,nleT,dh,hp,hv,c0,ho,ih]
  ·obtain ⟨x,c1⟩ | c1:(∃ x,getE S t.cls=some x)∨getE S t.cls=none:=by cases getE S t.cls <;> simp
   ·have ho:trapOk S t=true:=by rw [ho,c1]; simp
    simp (disch:=omega) [-List.all_eq_true,gz,gs,code182L0,h54,iltT,ileT,nltT,nleT,dh,hp,hv,c0,c1,ho,ih]
   ·have ho:trapOk S t=false:=by rw [ho,c1]; simp [c0]
    simp (disch:=omega) [-List.all_eq_true,gz,gs,code182L0,h54,iltT,ileT,nltT,nleT,dh,hp,hv,c0,c1,ho]
end
def rightS (S:List (Str × Str)) (m:MethU):Bool:=match methL m.desc with
 | some (A,r)=>isName m.name && ((A++[r]).all (thereS S) && m.traps.all (trapOk S))
 | none=>false
section
attribute [-simp] getElem?_pos getElem?_neg
attribute [local simp] gz gs
theorem s182 {m:MethU} (hm:m.ok O) (h:World O N S F M V) (hb:b≤O.length):xCall T 182 [.ptr (some (N,0)),.agg m.cells] ⟨O,b,w⟩=some (.bool (rightS S m),⟨O,b,w⟩):=by
 have hmd:m.desc.length≤9223372036854775807:=hm.desc
 have h38:=fun w=>s38 (os:=O) (b:=b) (w:=w) (s:=m.desc) hmd hb
 have hml:m.traps.length≤9223372036854775807:=hm.tn
 unfold rightS
 cases hq:methL m.desc with
 | none =>
  rw [hq] at h38
  simp only [methV,methO] at h38
  unfold MethU.cells
  simp (disch:=omega) [cd t182,code182,h38]
 | some q =>
  obtain ⟨A,r⟩:=q
  obtain ⟨q1,q2,q3⟩:=methL_len hq
  have h181:=fun w X (hX:b≤(O++X).length)=>s181 (O:=O++X) (b:=b) (w:=w) (s:=m.name) hX
  simp only
  cases A with
  | nil =>
   rw [hq] at h38
   simp only [methV,methO] at h38
   have h181:=fun w=>s181 (O:=O) (b:=b) (w:=w) (s:=m.name) hb
   have hl1:=fun w=>l182 (b:=b) (m:=m) (c:=none) (H:=O++[.cells 1 [.str r],.cells 1 [.str r]]) (L:=[r]) (a:=some (O.length+1,0)) (h.app _)
    ⟨fun _=>⟨_,_,_,rfl,by rw [eb]; rfl,fun j x hx=>by
     cases j with
     | zero=>simp at hx; subst hx; simp [strC]
     | succ j=>simp at hx⟩⟩ (by simp) (fun t ht=>by simp at ht; subst ht; omega) 1 0 w rfl
   have hl2:=fun w=>l182t (b:=b) (c:=m.tc) (H:=O++[.cells 1 [.str r],.cells 1 [.str r]]) (a:=m.ta) (h.app _) ((hm.pre (Pre.app _ _)).t) hml m.traps.length 0 w (by omega)
   simp only [bf,d8,kx,az,co,bt,Int.natCast_one] at hl1 hl2
   simp only [c9]
   unfold MethU.cells at hl1 ⊢
   cases c0:isName m.name with
   | false=>simp (disch:=omega) [-List.all_cons,-List.all_append,-List.all_eq_true,cd t182,code182,h38,h181,eb,fk,ie,gp,hb,c0,]
   | true =>
    cases c1:([r]:List Str).all (thereS S) with
    | false =>
     simp only [c1,av,if_false] at hl1
     simp (disch:=omega) [-List.all_cons,-List.all_append,-List.all_eq_true,cd t182,code182,h38,h181,eb,fk,ie,gp,hb,c0,c1,hl1,]
    | true =>
     simp only [c1,if_true] at hl1
     cases c2:m.traps.all (trapOk S) with
     | false =>
      simp only [c2,av,if_false] at hl2
      simp (disch:=omega) [-List.all_cons,-List.all_append,-List.all_eq_true,cd t182,code182,h38,h181,eb,fk,ie,gp,hb,c0,c1,c2,hl1,hl2,]
     | true =>
      simp only [c2,if_true] at hl2
      simp (disch:=omega) [-List.all_cons,-List.all_append,-List.all_eq_true,cd t182,code182,h38,h181,eb,fk,ie,gp,hb,c0,c1,c2,hl1,hl2,]
  | cons a A =>
   rw [hq] at h38
   simp only [methV,methO] at h38
   have h181:=fun w=>s181 (O:=O++[.cells 1 ((a :: A).map AVal.str)]) (b:=b) (w:=w) (s:=m.name) (by simp; omega)
   have hAl:A.length+1≤16:=by simpa using q1
   have hl1:=fun w=>l182 (b:=b) (m:=m) (c:=none) (H:=O++[.dead,.cells 1 [.str r],.cells 1 ((a :: A).map AVal.str++[.str r])]) (L:=a :: A++[r]) (a:=some (O.length+2,0)) (h.app _)
    (Row.mk0 (fun _=>rfl) (by rw [eb,ix,flat_strs]; rfl)) (by simp; omega) (fun t ht=>by
     rcases bg.1 ht with ht | ht
     ·have:=q3 t ht; omega
     ·simp at ht; subst ht; omega) (A.length+2) 0 w (by simp)
   have hl2:=fun w=>l182t (b:=b) (c:=m.tc) (H:=O++[.dead,.cells 1 [.str r],.cells 1 ((a :: A).map AVal.str++[.str r])]) (a:=m.ta) (h.app _) ((hm.pre (Pre.app _ _)).t) hml m.traps.length 0 w (by omega)
   simp only [bf,d8,bc,az,co,cf,Nat.reduceAdd] at hl1 hl2
   have hC:((a :: A).map AVal.str).length=A.length+1:=by simp
   have hT:((a :: A).map AVal.str).take (A.length+1)=(a :: A).map AVal.str:=dx (by simp)
   have z1:(A.length+2)*16≤140737488355328:=by omega
   have z2:A.length≤9223372036854775805:=by omega
   have hi2:((A.length+2:Nat):Int)=(A.length:Int)+2:=by omega
   rw [hi2] at hl1
   generalize (a :: A).map AVal.str=C at h38 h181 hl1 hl2 hC hT
   generalize a :: A++[r]=L at hl1 ⊢
   unfold MethU.cells at hl1 ⊢
   cases c0:isName m.name with
   | false=>simp (disch:=omega) [-List.all_cons,-List.all_append,-List.all_eq_true,cd t182,code182,h38,h181,eb,fk,ie,gp,hb,c0,hAl,hC,hT,z1,z2,nltT,nltF,cf]
   | true =>
    cases c1:L.all (thereS S) with
    | false =>
     simp only [c1,av,if_false] at hl1
     simp (disch:=omega) [-List.all_cons,-List.all_append,-List.all_eq_true,cd t182,code182,h38,h181,eb,fk,ie,gp,hb,c0,c1,hl1,hAl,hC,hT,z1,z2,nltT,nltF,cf]
    | true =>
     simp only [c1,if_true] at hl1
     cases c2:m.traps.all (trapOk S) with
     | false =>
      simp only [c2,av,if_false] at hl2
      simp (disch:=omega) [-List.all_cons,-List.all_append,-List.all_eq_true,cd t182,code182,h38,h181,eb,fk,ie,gp,hb,c0,c1,c2,hl1,hl2,hAl,hC,hT,z1,z2,nltT,nltF,cf]
     | true =>
      simp only [c2,if_true] at hl2
      simp (disch:=omega) [-List.all_cons,-List.all_append,-List.all_eq_true,cd t182,code182,h38,h181,eb,fk,ie,gp,hb,c0,c1,c2,hl1,hl2,hAl,hC,hT,z1,z2,nltT,nltF,cf]
end
end Go.Abs.AbsHier

namespace Go.Abs.AbsHier
open Go.Abs.AbsDesc
variable {os O:List AObj} {b w:Nat} {N:Nat} {S:List (Str × Str)} {F M:List (Key × Mem)} {V:List (Key × Bool)}
def methE (c:Str) (m:MethU):Key × Mem:=((c,m.name,m.desc),⟨c,m.st⟩)
def methOk (S:List (Str × Str)) (M:List (Key × Mem)) (c:Str) (m:MethU):Bool:=!(getE M (c,m.name,m.desc)).isSome && rightS S m
def methsS (S:List (Str × Str)) (c:Str):List (Key × Mem)→List MethU→Bool
 | _,[]=>true
 | M,m :: r=>methOk S M c m && methsS S c (M++[methE c m]) r
section
attribute [-simp] getElem?_pos getElem?_neg
theorem l100 {u:UnitU} (hu:u.ok os) (hp:Pre os O) (hN:os.length≤N) (h:World O N S F M V) (hb:b≤N):∀ (j i:Nat) (M':List (Key × Mem)) (w:Nat),i+j=u.meths.length→N+3≤w →
  ∃ M2 w' e s',N+3≤w'∧(if methsS S u.name M' (u.meths.drop i) then e = .exit 0∧s'=[]∧(w'≤N+3∨(u.meths.drop i=[]∧w'=w))∧M2=M'++(u.meths.drop i).map (methE u.name) else e = .ret∧s'=[(4,.val (.bool false))]) ∧
   ∀ (k:AExit→St→Option (AVal × Heap)),
   xK T (.loop code100L0) ⟨[(0,.val (.ptr (some (N,0)))),(3,.var u.cells),(11,.val (.slice u.ma u.meths.length u.mc)),(12,.val (.int .i64 u.meths.length)),(13,.val (.int .i64 i))],
    ⟨O.set (N+3) (mObj keyF memF M'),b,w⟩⟩ (k:=⟨k⟩)=k e ⟨s',⟨O.set (N+3) (mObj keyF memF M2),b,w'⟩⟩
 | 0,i,M',w,hi,hw=>by
  refine ⟨M',w,.exit 0,[],hw,?_,fun k=>?_⟩
  ·rw [bq (by omega)]
   simp only [methsS,if_true,gq,cz]
   exact ⟨trivial,trivial,.inr ⟨trivial,trivial⟩,trivial⟩
  ·rw [bl]
   simp (disch:=omega) [code100L0,iltF]
 | j+1,i,M',w,hi,hw=>by
  obtain ⟨m,hm⟩:∃ m,u.meths[i]? = some m:=⟨_,ag (by omega)⟩
  obtain ⟨p,o,cs,ha,hpp,hpl,hcs,ht⟩:=g7 hu.m hm
  have hmn:u.meths.length≤9223372036854775807:=hu.mn
  have hd:u.meths.drop i=m :: u.meths.drop (i+1):=by
   have:=aj hm
   rw [ag this] at hm
   rw [dq this,b9 hm]
  have hl:=h.lt
  have hW:=h.setM M'
  have hpO:(O.set (N+3) (mObj keyF memF M'))[p]? = some (.cells 8 cs):=by
   rw [ai (by omega)]; exact hp _ _ hpp
  have hbO:b≤(O.set (N+3) (mObj keyF memF M')).length:=by simp; omega
  have hmo:m.ok (O.set (N+3) (mObj keyF memF M')):=(hu.mok m (au hm)).pre (hp.set _ (by omega))
  have h182:=fun w=>s182 (b:=b) (w:=w) hmo hW hbO
  have hlk:=fun w=>lookup_ok (b:=b) (w:=w) (kn:=.agg [.s,.s,.s]) (zero:=.agg [.str [],.bool false]) keyKey hW.m3 (k:=(u.name,m.name,m.desc)) rfl
  have hm1:=hW.w0
  have hml:m.cells.length=8:=rfl
  have hup2:=fun w hg=>upd_new (b:=b) (w:=w) (kn:=.agg [.s,.s,.s]) keyKey hW.m3 (k:=(u.name,m.name,m.desc)) ⟨u.name,m.st⟩ rfl (by omega) hg
  have hs2:(O.set (N+3) (mObj keyF memF M')).set (N+3) (mObj keyF memF (M'++[((u.name,m.name,m.desc),⟨u.name,m.st⟩)]))=O.set (N+3) (mObj keyF memF (M'++[methE u.name m])):=by
   rw [gr]; rfl
  simp only [hs2,keyF,memF] at hup2
  simp only [keyF] at hlk
  have hcm:m.cells=[.bool m.st,.str m.name,.str m.desc,.int .i64 m.stack,.int .i64 m.locals,.slice m.ca m.code.length m.cc,.slice m.ta m.traps.length m.tc,.slice m.xa m.maps.length m.xc]:=rfl
  obtain ⟨y,hg⟩ | hg:(∃ y,getE M' (u.name,m.name,m.desc)=some y)∨getE M' (u.name,m.name,m.desc)=none:=by cases getE M' (u.name,m.name,m.desc) <;> simp
  ·rw [hg] at hlk
   simp only [bi,da,kw,memF] at hlk
   have hfl:methsS S u.name M' (u.meths.drop i)=false:=by rw [hd]; simp [methsS,methOk,hg]
   rw [hfl]
   refine ⟨M',w,.ret,[(4,.val (.bool false))],hw,by simp,fun k=>?_⟩
   rw [bl]
   generalize ACode.loop code100L0=L
   generalize O.set (N+3) (mObj keyF memF M')=H at hpO hW hbO h182 hlk hm1 ⊢
   rw [hcm] at h182 ht
   simp (disch:=omega) [-evExt,gz,gs,code100L0,hlk,nltT,nltF,iltT,ileT,nleT,dh,hb,hpO,ht,ha,hm1,UnitU.cells]
  ·rw [hg] at hlk
   have hup2:=fun w=>hup2 w hg
   simp only [Option.map_none,ki,jm] at hlk
   rcases ep (rightS S m) with c | c
   ·obtain ⟨M2,w',e,s',r1,r2,ih⟩:=l100 hu hp hN h hb j (i+1) (M'++[methE u.name m]) (min w (N+3)) (by omega) (by omega)
    refine ⟨M2,w',e,s',r1,?_,fun k=>?_⟩
    ·rw [hd]
     have c1:methOk S M' u.name m=true:=by simp [methOk,hg,c]
     simp only [methsS,c1,gn]
     rw [bo]
     rw [ba,eh] at r2
     split at r2
     ·rename_i hff
      obtain ⟨q1,q2,q3,q4⟩:=r2
      rw [if_pos hff]
      refine ⟨q1,q2,.inl ?_,q4⟩
      rcases q3 with q3 | ⟨_,q3⟩ <;> omega
     ·rename_i hff
      rw [if_neg hff]; exact r2
    have ih:=ih k
    have e2:((i+1:Nat):Int)=(i:Int)+1:=by omega
    rw [e2] at ih
    rw [bl,← ih]
    generalize ACode.loop code100L0=L
    generalize O.set (N+3) (mObj keyF memF M')=H at hpO hW hbO h182 hlk hm1 hup2 hs2 ⊢
    generalize O.set (N+3) (mObj keyF memF (M'++[methE u.name m]))=H2 at hup2 hs2 ⊢
    rw [hcm] at h182 ht
    simp (disch:=omega) [-evExt,gz,gs,code100L0,h182,hlk,hup2,c,nltT,nltF,iltT,ileT,nleT,dh,hb,hpO,ht,ha,hm1,UnitU.cells]
   ·have hfl:methsS S u.name M' (u.meths.drop i)=false:=by rw [hd]; simp [methsS,methOk,c]
    rw [hfl]
    refine ⟨M',w,.ret,[(4,.val (.bool false))],hw,by simp,fun k=>?_⟩
    rw [bl]
    generalize ACode.loop code100L0=L
    generalize O.set (N+3) (mObj keyF memF M')=H at hpO hW hbO h182 hlk hm1 ⊢
    rw [hcm] at h182 ht
    simp (disch:=omega) [-evExt,gz,gs,code100L0,h182,hlk,nltT,nltF,iltT,ileT,nleT,dh,hb,hpO,ht,ha,hm1,c,UnitU.cells]
end
theorem mObj_set3 (h:World O N S F M V):O.set (N+3) (mObj keyF memF M)=O:=by
 have:=h.lt
 refine eu fun i=>?_
 by_cases e:N+3=i
 ·subst e; rw [d7,if_pos rfl,if_pos (by omega),h.m3]
 ·rw [ai e]
section
attribute [-simp] getElem?_pos getElem?_neg
attribute [local simp] gz gs
theorem s100 {u:UnitU} (hu:u.ok os) (hp:Pre os O) (hN:os.length≤N) (h:World O N S F M V) (hb:b≤N) :
  ∃ O' w',min w (N+3)≤w'∧(methsS S u.name M u.meths=true→O'=O.set (N+3) (mObj keyF memF (M++u.meths.map (methE u.name)))) ∧
   xCall T 100 [.ptr (some (N,0)),.agg u.cells] ⟨O,b,w⟩=some (.bool (methsS S u.name M u.meths),⟨O',b,w'⟩):=by
 have hl:=h.lt
 obtain ⟨M2,w',e,s',r1,r2,hk⟩:=l100 hu hp hN h hb u.meths.length 0 M O.length (by omega) (by omega)
 rw [mObj_set3 h] at hk
 simp only [bf,d8] at hk r2
 by_cases c:methsS S u.name M u.meths=true
 ·rw [if_pos c] at r2
  obtain ⟨rfl,rfl,q3,q4⟩:=r2
  rw [c]
  rcases q3 with q3 | ⟨q3,q5⟩
  ·refine ⟨O.set (N+3) (mObj keyF memF M2),min w w',by omega,fun _=>by rw [q4],?_⟩
   unfold UnitU.cells at hk ⊢
   simp (disch:=omega) [cd t100,code100,hk,nltT]
  ·refine ⟨O,w,by omega,fun _=>by rw [q3,gq,cz,mObj_set3 h],?_⟩
   unfold UnitU.cells at hk ⊢
   simp (disch:=omega) [cd t100,code100,hk,nltF]
 ·rw [if_neg c] at r2
  obtain ⟨rfl,rfl⟩:=r2
  have c':methsS S u.name M u.meths=false:=by simpa using c
  rw [c']
  generalize O.set (N+3) (mObj keyF memF M2)=O2 at hk
  refine ⟨if w' < O.length then O2 else O,if w' < O.length then min w w' else w,by split <;> omega,by simp,?_⟩
  unfold UnitU.cells at hk ⊢
  simp (disch:=omega) [cd t100,code100,hk]
  split <;> rfl
end
end Go.Abs.AbsHier

namespace Go.Abs.AbsHier
open Go.Abs.AbsDesc
variable {os O:List AObj} {b w:Nat} {N:Nat}
def sysT:Str:=[115,121,115]
def throwT:Str:=[84,104,114,111,119,97,98,108,101]
def faultsL:List Str:=[[78,117,108,108,70,97,117,108,116],[66,111,117,110,100,115,70,97,117,108,116],[77,97,116,104,70,97,117,108,116],[67,97,115,116,70,97,117,108,116],[83,105,122,101,70,97,117,108,116],[83,116,111,114,101,70,97,117,108,116]]
def natL:List (Str × Str):=[([112,114,105,110,116],[40,73,41,86]),([112,114,105,110,116,76,111,110,103],[40,74,41,86]),([112,114,105,110,116,84,101,120,116],[40,91,66,41,86]),([97,100,100],[40,91,66,41,73]),
 ([103,101,116],[40,73,41,91,66]),([115,101,116],[40,73,91,66,41,86]),([100,101,108],[40,73,41,86]),([99,111,117,110,116],[40,41,73])]
def builtS:List (Str × Str):=[(objectT,[]),(throwT,objectT),(sysT,objectT)]++faultsL.map fun n=>(n,throwT)
def builtM:List (Key × Mem):=natL.map fun x=>((sysT,x.1,x.2),⟨sysT,true⟩)
def builtV:List (Key × Bool):=natL.map fun x=>((sysT,x.1,x.2),true)
theorem s179 {h:Heap}:xCall T 179 [] h=some (.agg (natL.flatMap fun x=>[.str x.1,.str x.2]),h):=by
 obtain ⟨os,b,w⟩:=h
 simp [cd t179,code179,natL]
def S0:List (Str × Str):=[(objectT,[]),(throwT,objectT),(sysT,objectT)]
def fE (n:Str):Str × Str:=(n,throwT)
def nE (x:Str × Str):Key × Mem:=((sysT,x.1,x.2),⟨sysT,true⟩)
def vE (x:Str × Str):Key × Bool:=((sysT,x.1,x.2),true)
def bO (os:List AObj) (S:List (Str × Str)) (M:List (Key × Mem)) (V:List (Key × Bool)):List AObj :=
 os++[mObj .str .str S,mObj keyF memF [],mObj keyF memF M,mObj keyF .bool V,.cells 4 [.map (some os.length),.map (some (os.length+1)),.map (some (os.length+2)),.map (some (os.length+3))]]
theorem faults_new:∀ i,i < 6→getE (S0++(faultsL.take i).map fE) (faultsL.getD i [])=none:=by decide +kernel
theorem nats_newM:∀ i,i < 8→getE ((natL.take i).map nE) (sysT,(natL.getD i ([],[])).1,(natL.getD i ([],[])).2)=none:=by decide +kernel
theorem nats_newV:∀ i,i < 8→getE ((natL.take i).map vE) (sysT,(natL.getD i ([],[])).1,(natL.getD i ([],[])).2)=none:=by decide +kernel
theorem take_next {α:Type} {L:List α} {i:Nat} {x:α} (h:L[i]? = some x):L.take (i+1)=L.take i++[x]:=by
 rw [List.take_add_one,h]; rfl
theorem bO_upS {S:List (Str × Str)} {M:List (Key × Mem)} {V:List (Key × Bool)} {x y:Str} (hb:b≤os.length) (hg:getE S x=none) :
  evExt (.mapupd (.one .s)) [.map (some os.length),.str x,.str y] ⟨bO os S M V,b,w⟩=some (.tuple [],⟨bO os (S++[(x,y)]) M V,b,min w os.length⟩):=by
 have:=upd_new (os:=bO os S M V) (b:=b) (w:=w) (r:=os.length) (A:=S) (vf:=AVal.str) (kn:=.one .s) keyStr (by unfold bO; rw [fk]; rfl) (k:=x) y rfl hb hg
 rw [this]
 unfold bO
 rw [gp]; rfl
theorem bO_upM {S:List (Str × Str)} {M:List (Key × Mem)} {V:List (Key × Bool)} {x:Str × Str} (hb:b≤os.length) (hg:getE M (sysT,x.1,x.2)=none) :
  evExt (.mapupd (.agg [.s,.s,.s])) [.map (some (os.length+2)),.agg [.str sysT,.str x.1,.str x.2],.agg [.str sysT,.bool true]] ⟨bO os S M V,b,w⟩=some (.tuple [],⟨bO os S (M++[nE x]) V,b,min w (os.length+2)⟩):=by
 have:=upd_new (os:=bO os S M V) (b:=b) (w:=w) (r:=os.length+2) (A:=M) (vf:=memF) (kn:=.agg [.s,.s,.s]) keyKey (by unfold bO; rw [eb]; rfl) (k:=(sysT,x.1,x.2)) ⟨sysT,true⟩ rfl (by omega) hg
 rw [show AVal.agg [.str sysT,.str x.1,.str x.2]=keyF (sysT,x.1,x.2) from rfl,show AVal.agg [.str sysT,.bool true]=memF ⟨sysT,true⟩ from rfl,this]
 unfold bO
 rw [ie]; rfl
theorem bO_upV {S:List (Str × Str)} {M:List (Key × Mem)} {V:List (Key × Bool)} {x:Str × Str} (hb:b≤os.length) (hg:getE V (sysT,x.1,x.2)=none) :
  evExt (.mapupd (.agg [.s,.s,.s])) [.map (some (os.length+3)),.agg [.str sysT,.str x.1,.str x.2],.bool true] ⟨bO os S M V,b,w⟩=some (.tuple [],⟨bO os S M (V++[vE x]),b,min w (os.length+3)⟩):=by
 have:=upd_new (os:=bO os S M V) (b:=b) (w:=w) (r:=os.length+3) (A:=V) (vf:=AVal.bool) (kn:=.agg [.s,.s,.s]) keyKey (by unfold bO; rw [eb]; rfl) (k:=(sysT,x.1,x.2)) true rfl (by omega) hg
 rw [show AVal.agg [.str sysT,.str x.1,.str x.2]=keyF (sysT,x.1,x.2) from rfl,this]
 unfold bO
 rw [ie]; rfl
theorem bO_w {S:List (Str × Str)} {M:List (Key × Mem)} {V:List (Key × Bool)}:(bO os S M V)[os.length+4]? = some (.cells 4 [.map (some os.length),.map (some (os.length+1)),.map (some (os.length+2)),.map (some (os.length+3))]):=by
 unfold bO; rw [eb]; rfl
section
attribute [-simp] getElem?_pos getElem?_neg
theorem l284a (hb:b≤os.length):∀ (j i:Nat) (w:Nat),i+j=6→os.length≤w→∃ w',os.length≤w'∧∀ (k:AExit→St→Option (AVal × Heap)),
  xK T (.loop code284L1) ⟨[(1,.val (.ptr (some (os.length+4,0)))),(14,.val (.agg (faultsL.map AVal.str))),(15,.val (.int .i64 i))],⟨bO os (S0++(faultsL.take i).map fE) [] [],b,w⟩⟩ (k:=⟨k⟩) =
   k (.exit 0) ⟨[(1,.val (.ptr (some (os.length+4,0))))],⟨bO os (S0++faultsL.map fE) [] [],b,w'⟩⟩
 | 0,i,w,hi,hw=>by
  refine ⟨w,hw,fun k=>?_⟩
  have:i=6:=by omega
  subst this
  rw [bl,dx (by decide)]
  simp (disch:=omega) [code284L1,iltF]
 | j+1,i,w,hi,hw=>by
  obtain ⟨x,hx⟩:∃ x,faultsL[i]? = some x:=⟨_,ag (show i < faultsL.length by rw [show faultsL.length=6 from rfl]; omega)⟩
  have hn:=faults_new i (by omega)
  rw [er,hx,da] at hn
  have hup:=fun w=>bO_upS (w:=w) (M:=[]) (V:=[]) (y:=throwT) hb hn
  have ht:=take_next hx
  have e3:S0++(faultsL.take i).map fE++[(x,throwT)]=S0++(faultsL.take (i+1)).map fE:=by rw [ht,fj,ba]; rfl
  rw [e3] at hup
  unfold throwT at hup
  obtain ⟨w',hw',ih⟩:=l284a hb j (i+1) (min w os.length) (by omega) (by omega)
  refine ⟨w',hw',fun k=>?_⟩
  have ih:=ih k
  have e2:((i+1:Nat):Int)=(i:Int)+1:=by omega
  rw [e2] at ih
  have hwo:=bO_w (os:=os) (S:=S0++(faultsL.take i).map fE) (M:=[]) (V:=[])
  have hxs:(faultsL.map AVal.str)[i]? = some (.str x):=by rw [cq,hx]; rfl
  rw [bl,← ih]
  generalize ACode.loop code284L1=L
  generalize faultsL.map AVal.str=fs at hxs ⊢
  generalize bO os (S0++(faultsL.take i).map fE) [] []=H at hup hwo ⊢
  generalize bO os (S0++(faultsL.take (i+1)).map fE) [] []=H2 at hup ⊢
  simp (disch:=omega) [-evExt,gz,gs,code284L1,hup,hwo,hxs,iltT,ileT,nltT,nltF,nleT,dh]
theorem l284b {S:List (Str × Str)} (hb:b≤os.length):∀ (j i:Nat) (w:Nat),i+j=8→os.length≤w→∃ w',os.length≤w'∧∀ (k:AExit→St→Option (AVal × Heap)),
  xK T (.loop code284L0) ⟨[(1,.val (.ptr (some (os.length+4,0)))),(24,.val (.agg (natL.flatMap fun x=>[.str x.1,.str x.2]))),(25,.val (.int .i64 i))],⟨bO os S ((natL.take i).map nE) ((natL.take i).map vE),b,w⟩⟩ (k:=⟨k⟩) =
   k (.exit 2) ⟨[(1,.val (.ptr (some (os.length+4,0))))],⟨bO os S (natL.map nE) (natL.map vE),b,w'⟩⟩
 | 0,i,w,hi,hw=>by
  refine ⟨w,hw,fun k=>?_⟩
  have:i=8:=by omega
  subst this
  rw [bl,dx (by decide)]
  simp (disch:=omega) [code284L0,iltF]
 | j+1,i,w,hi,hw=>by
  obtain ⟨x,hx⟩:∃ x,natL[i]? = some x:=⟨_,ag (show i < natL.length by rw [show natL.length=8 from rfl]; omega)⟩
  have hn:=nats_newM i (by omega)
  rw [er,hx,da] at hn
  have hn2:=nats_newV i (by omega)
  rw [er,hx,da] at hn2
  have hup:=fun w=>bO_upM (w:=w) (S:=S) (V:=(natL.take i).map vE) hb hn
  have hup2:=fun w=>bO_upV (w:=w) (S:=S) (M:=(natL.take (i+1)).map nE) hb hn2
  have ht:=take_next hx
  have e3:(natL.take i).map nE++[nE x]=(natL.take (i+1)).map nE:=by rw [ht,fj]; rfl
  have e4:(natL.take i).map vE++[vE x]=(natL.take (i+1)).map vE:=by rw [ht,fj]; rfl
  rw [e3] at hup
  rw [e4] at hup2
  unfold sysT at hup hup2
  obtain ⟨w',hw',ih⟩:=l284b (S:=S) hb j (i+1) (min (min w (os.length+2)) (os.length+3)) (by omega) (by omega)
  refine ⟨w',hw',fun k=>?_⟩
  have ih:=ih k
  have e2:((i+1:Nat):Int)=(i:Int)+1:=by omega
  rw [e2] at ih
  have hwo:=bO_w (os:=os) (S:=S) (M:=(natL.take i).map nE) (V:=(natL.take i).map vE)
  have hwo2:=bO_w (os:=os) (S:=S) (M:=(natL.take (i+1)).map nE) (V:=(natL.take i).map vE)
  obtain ⟨hx1,hx2⟩:=flat_at (fun x:Str × Str=>[AVal.str x.1,AVal.str x.2]) 2 (fun _=>rfl) natL i x hx
  have hln:(natL.flatMap fun x:Str × Str=>[AVal.str x.1,AVal.str x.2]).length=16:=rfl
  rw [bl,← ih]
  generalize ACode.loop code284L0=L
  generalize (natL.flatMap fun x:Str × Str=>[AVal.str x.1,AVal.str x.2])=fs at hx1 hx2 hln ⊢
  generalize bO os S ((natL.take i).map nE) ((natL.take i).map vE)=H at hup hwo ⊢
  generalize bO os S ((natL.take (i+1)).map nE) ((natL.take i).map vE)=H2 at hup hup2 hwo2 ⊢
  generalize bO os S ((natL.take (i+1)).map nE) ((natL.take (i+1)).map vE)=H3 at hup2 ⊢
  simp (disch:=omega) [-evExt,gz,gs,code284L0,hup,hup2,hwo,hwo2,hx2,iltT,ileT,nltT,nltF,nleT,dh]
end
theorem ents_ids {κ ν:Type} {kf:κ→AVal} {vf:ν→AVal} (hk:∀ k,(kf k).ids=[]) (hv:∀ v,(vf v).ids=[]):∀ (A:List (κ × ν)) (i:Nat),((ents kf vf i A).flatMap fun (k,v,_)=>k.ids++v.ids)=[]
 | [],_=>rfl
 | x :: A,i=>by simp only [ents,bu,hk,hv,ents_ids hk hv A (i+1),cz]
theorem ents_ren {κ ν:Type} {kf:κ→AVal} {vf:ν→AVal} {f:Nat→Nat} (hk:∀ k,(kf k).ren f=kf k) (hv:∀ v,(vf v).ren f=vf v):∀ (A:List (κ × ν)) (i:Nat),((ents kf vf i A).map fun (k,v,b)=>(k.ren f,v.ren f,b))=ents kf vf i A
 | [],_=>rfl
 | x :: A,i=>by simp only [ents,bo,hk,hv,ents_ren hk hv A (i+1)]
theorem mObj_ids {κ ν:Type} {kf:κ→AVal} {vf:ν→AVal} (hk:∀ k,(kf k).ids=[]) (hv:∀ v,(vf v).ids=[]) (A:List (κ × ν)):(mObj kf vf A).ids=[]:=by
 simp only [mObj,AObj.ids]; exact ents_ids hk hv A 0
theorem mObj_ren {κ ν:Type} {kf:κ→AVal} {vf:ν→AVal} {f:Nat→Nat} (hk:∀ k,(kf k).ren f=kf k) (hv:∀ v,(vf v).ren f=vf v) (A:List (κ × ν)):(mObj kf vf A).ren f=mObj kf vf A:=by
 simp only [mObj,AObj.ren,ents_ren hk hv A 0]
theorem idsS (A:List (Str × Str)):(mObj AVal.str AVal.str A).ids=[]:=mObj_ids (fun _=>rfl) (fun _=>rfl) A
theorem idsM (A:List (Key × Mem)):(mObj keyF memF A).ids=[]:=mObj_ids (fun _=>rfl) (fun _=>rfl) A
theorem idsV (A:List (Key × Bool)):(mObj keyF AVal.bool A).ids=[]:=mObj_ids (fun _=>rfl) (fun _=>rfl) A
theorem renS (f:Nat→Nat) (A:List (Str × Str)):(mObj AVal.str AVal.str A).ren f=mObj AVal.str AVal.str A:=mObj_ren (fun _=>rfl) (fun _=>rfl) A
theorem renM (f:Nat→Nat) (A:List (Key × Mem)):(mObj keyF memF A).ren f=mObj keyF memF A:=mObj_ren (fun _=>rfl) (fun _=>rfl) A
theorem renV (f:Nat→Nat) (A:List (Key × Bool)):(mObj keyF AVal.bool A).ren f=mObj keyF AVal.bool A:=mObj_ren (fun _=>rfl) (fun _=>rfl) A
def wO (os:List AObj) (S:List (Str × Str)) (F M:List (Key × Mem)) (V:List (Key × Bool)):List AObj :=
 os++[.cells 4 [.map (some (os.length+1)),.map (some (os.length+2)),.map (some (os.length+3)),.map (some (os.length+4))],mObj .str .str S,mObj keyF memF F,mObj keyF memF M,mObj keyF .bool V]
theorem wO_world (os:List AObj) (S:List (Str × Str)) (F M:List (Key × Mem)) (V:List (Key × Bool)):World (wO os S F M V) os.length S F M V:=by
 unfold wO
 constructor
 ·rw [fk]; rfl
 ·rw [eb]; rfl
 ·rw [eb]; rfl
 ·rw [eb]; rfl
 ·rw [eb]; rfl
section
attribute [-simp] getElem?_pos getElem?_neg
theorem built_fin {S:List (Str × Str)} {M:List (Key × Mem)} {V:List (Key × Bool)} {w2:Nat} (hw:os.length≤w2) :
  finish ⟨os,b,w⟩ (.ptr (some (os.length+4,0))) ⟨bO os S M V,b,w2⟩=(.ptr (some (os.length,0)),⟨wO os S [] M V,b,w⟩):=by
 have g4:=bO_w (os:=os) (S:=S) (M:=M) (V:=V)
 have g0:(bO os S M V)[os.length]? = some (mObj .str .str S):=by unfold bO; rw [fk]; rfl
 have g1:(bO os S M V)[os.length+1]? = some (mObj keyF memF []):=by unfold bO; rw [eb]; rfl
 have g2:(bO os S M V)[os.length+2]? = some (mObj keyF memF M):=by unfold bO; rw [eb]; rfl
 have g3:(bO os S M V)[os.length+3]? = some (mObj keyF .bool V):=by unfold bO; rw [eb]; rfl
 have idsC:∀ e cs,(AObj.cells e cs).ids=AVal.idsL cs:=fun _ _=>rfl
 have renC:∀ (f:Nat→Nat) e cs,(AObj.cells e cs).ren f = .cells e (AVal.renL f cs):=fun _ _ _=>rfl
 have hr:reach ⟨bO os S M V,b,w2⟩ os.length 1000 [os.length+4] []=[os.length+4,os.length,os.length+1,os.length+2,os.length+3]:=by
  simp (disch:=omega) [-AObj.ids,jr,reach_done,nltF,g0,g1,g2,g3,g4,idsS,idsM,idsV,idsC]
 have hv:AVal.under os.length (.ptr (some (os.length+4,0)))=false:=by simp [AVal.under]
 have hw2:(⟨os,b,w⟩:Heap).size≤(⟨bO os S M V,b,w2⟩:Heap).wmin:=hw
 refine (finish_keep hw2 hv hr fun i hi=>?_).trans ?_
 ·simp (disch:=omega) only [AVal.ids,bu,List.flatMap_nil,bo,Heap.get,g0,g1,g2,g3,g4,idsS,idsM,idsV,idsC,bi,da,db,c9,cz,AVal.idsL,cr,kh,or_false] at hi ⊢
  omega
 ·simp (disch:=omega) [-AObj.ids,-AObj.ren,nltF,g0,g1,g2,g3,g4,renS,renM,renV,renC,wO]
end
theorem s284 (hb:b≤os.length):xCall T 284 [] ⟨os,b,w⟩=some (.ptr (some (os.length,0)),⟨wO os builtS [] builtM builtV,b,w⟩):=by
 obtain ⟨w1,hw1,hk1⟩:=l284a (os:=os) hb 6 0 os.length rfl (ak _)
 have e1:S0++faultsL.map fE=builtS:=rfl
 rw [e1] at hk1
 obtain ⟨w2,hw2,hk2⟩:=l284b (os:=os) (S:=builtS) hb 8 0 w1 rfl hw1
 simp only [bf,List.take_zero,gq,cz] at hk1 hk2
 have g0:(bO os builtS (natL.map nE) (natL.map vE))=bO os builtS builtM builtV:=rfl
 rw [g0] at hk2
 have hfin:=built_fin (b:=b) (w:=w) (S:=builtS) (M:=builtM) (V:=builtV) hw2
 have h179:=fun h=>s179 (h:=h)
 generalize hH1:bO os builtS [] []=H1 at hk1 hk2
 generalize (natL.flatMap fun x:Str × Str=>[AVal.str x.1,AVal.str x.2])=fs at hk2 h179
 have hS0:bO os S0 [] []=os++[.map [(.str [79,98,106,101,99,116],.str [],0),(.str [84,104,114,111,119,97,98,108,101],.str [79,98,106,101,99,116],1),(.str [115,121,115],.str [79,98,106,101,99,116],2)] 3,.map [] 0,.map [] 0,.map [] 0,
  .cells 4 [.map (some os.length),.map (some (os.length+1)),.map (some (os.length+2)),.map (some (os.length+3))]]:=rfl
 have hfl:faultsL.map AVal.str=[.str [78,117,108,108,70,97,117,108,116],.str [66,111,117,110,100,115,70,97,117,108,116],.str [77,97,116,104,70,97,117,108,116],.str [67,97,115,116,70,97,117,108,116],.str [83,105,122,101,70,97,117,108,116],.str [83,116,111,114,101,70,97,117,108,116]]:=rfl
 rw [hS0,hfl] at hk1
 simp (disch:=omega) [-getElem?_pos,-getElem?_neg,-finish,gz,gs,cd t284,code284,hk1,hk2,hfin,h179,eb,fk,ie,gp,hb,findA,akey,akey1,isKey,CK.is,cf]
end Go.Abs.AbsHier

namespace Go.Abs.AbsHier
open Go.Abs.AbsDesc
variable {os O:List AObj} {b w:Nat} {N:Nat} {S:List (Str × Str)} {F M:List (Key × Mem)} {V:List (Key × Bool)}
theorem idsC (e:Nat) (cs:List AVal):(AObj.cells e cs).ids=AVal.idsL cs:=rfl
theorem renC (f:Nat→Nat) (e:Nat) (cs:List AVal):(AObj.cells e cs).ren f = .cells e (AVal.renL f cs):=rfl
section
attribute [-simp] getElem?_pos getElem?_neg
theorem world_fin (h:World O os.length S F M V) (w0:Nat) {w2:Nat} (hw:os.length≤w2) :
  finish ⟨os,b,w0⟩ (.tuple [.ptr (some (os.length,0)),.int .i64 0]) ⟨O,b,w2⟩=(.tuple [.ptr (some (os.length,0)),.int .i64 0],⟨wO os S F M V,b,w0⟩):=by
 have g0:=h.w0
 have g1:=h.m1
 have g2:=h.m2
 have g3:=h.m3
 have g4:=h.m4
 have hr:reach ⟨O,b,w2⟩ os.length 1000 [os.length] []=[os.length,os.length+1,os.length+2,os.length+3,os.length+4]:=by
  simp (disch:=omega) [-AObj.ids,jr,reach_done,nltF,g0,g1,g2,g3,g4,idsS,idsM,idsV,idsC]
 have hv:AVal.under os.length (.tuple [.ptr (some (os.length,0)),.int .i64 0])=false:=by simp [AVal.under]
 have hw2:(⟨os,b,w0⟩:Heap).size≤(⟨O,b,w2⟩:Heap).wmin:=hw
 refine (finish_keep hw2 hv hr fun i hi=>?_).trans ?_
 ·simp (disch:=omega) only [AVal.ids,bu,List.flatMap_nil,bo,Heap.get,g0,g1,g2,g3,g4,idsS,idsM,idsV,idsC,bi,da,db,c9,cz,AVal.idsL,cr,kh,or_false] at hi ⊢
  omega
 ·simp (disch:=omega) [-AObj.ids,-AObj.ren,nltF,g0,g1,g2,g3,g4,renS,renM,renV,renC,wO]
end
def superOk (S:List (Str × Str)) (u:UnitU):Bool:=!(getE S u.name).isSome && isClass u.name && !decide (u.super=sysT)
def supersS:List (Str × Str)→List UnitU→Option (List (Str × Str))
 | S,[]=>some S
 | S,u :: r=>if superOk S u then supersS (S++[(u.name,u.super)]) r else none
theorem wO_upS {x y:Str} (hb:b≤os.length) (hg:getE S x=none) :
  evExt (.mapupd (.one .s)) [.map (some (os.length+1)),.str x,.str y] ⟨wO os S F M V,b,w⟩=some (.tuple [],⟨wO os (S++[(x,y)]) F M V,b,min w (os.length+1)⟩):=by
 have:=upd_new (os:=wO os S F M V) (b:=b) (w:=w) (r:=os.length+1) (A:=S) (vf:=AVal.str) (kn:=.one .s) keyStr (wO_world os S F M V).m1 (k:=x) y rfl (by omega) hg
 rw [this]
 unfold wO
 rw [ie]; rfl
theorem wO_pre (os:List AObj) (S:List (Str × Str)) (F M:List (Key × Mem)) (V:List (Key × Bool)):Pre os (wO os S F M V):=Pre.app _ _
section
attribute [-simp] getElem?_pos getElem?_neg
theorem l49a {l:List UnitU} {a:Option (Nat × Nat)} {c:Option Nat} (hR:Row os 4 UnitU.cells l a) (hl:l.length≤32) (hb:b≤os.length):∀ (j i:Nat) (S:List (Str × Str)) (w:Nat),i+j=l.length→os.length≤w →
  ∃ S' w' e s',os.length≤w'∧(match supersS S (l.drop i) with
   | some S2=>S'=S2∧e = .exit 0∧s'=[(0,.val (.slice a l.length c)),(4,.val (.ptr (some (os.length,0))))]
   | none=>e = .ret∧s'=[(2,.val (.ptr none)),(3,.val (.int .i64 15))])∧∀ (k:AExit→St→Option (AVal × Heap)),
   xK T (.loop code49L2) ⟨[(0,.val (.slice a l.length c)),(4,.val (.ptr (some (os.length,0)))),(15,.val (.slice a l.length c)),(16,.val (.int .i64 l.length)),(17,.val (.int .i64 i))],⟨wO os S F M V,b,w⟩⟩ (k:=⟨k⟩) =
   k e ⟨s',⟨wO os S' F M V,b,w'⟩⟩
 | 0,i,S,w,hi,hw=>by
  refine ⟨S,w,.exit 0,[(0,.val (.slice a l.length c)),(4,.val (.ptr (some (os.length,0))))],hw,?_,fun k=>?_⟩
  ·rw [bq (by omega)]
   exact ⟨rfl,rfl,rfl⟩
  ·rw [bl]
   simp (disch:=omega) [code49L2,iltF]
 | j+1,i,S,w,hi,hw=>by
  obtain ⟨u,hu⟩:∃ u,l[i]? = some u:=⟨_,ag (by omega)⟩
  obtain ⟨p,o,cs,rfl,hpp,hpl,hcs,ht⟩:=g7 hR hu
  have hd:l.drop i=u :: l.drop (i+1):=by
   have:=aj hu
   rw [ag this] at hu
   rw [dq this,b9 hu]
  have hW:=wO_world os S F M V
  have hpO:=wO_pre os S F M V _ _ hpp
  have hbO:b≤(wO os S F M V).length:=by simp [wO]; omega
  have h54:=fun w=>s54 (b:=b) (w:=w) hW (c:=u.name)
  have h25:=fun w=>s25 (os:=wO os S F M V) (b:=b) (w:=w) (s:=u.name) hbO
  have hup:=fun w hg=>wO_upS (S:=S) (F:=F) (M:=M) (V:=V) (w:=w) (x:=u.name) (y:=u.super) hb hg
  have hw0:=hW.w0
  have hcu:u.cells=[.str u.name,.str u.super,.slice u.fa u.fields.length u.fc,.slice u.ma u.meths.length u.mc]:=rfl
  rw [hcu] at ht
  rw [hd]
  rcases ep (superOk S u) with c0 | c0
  ·have hc:=c0
   unfold superOk sysT at hc
   simp only [aw,eg,decide_eq_false_iff_not] at hc
   obtain ⟨⟨c1,c2⟩,c3⟩:=hc
   have hg:getE S u.name=none:=by simpa using c1
   have hup:=fun w=>hup w hg
   obtain ⟨S',w',e,s',r1,r2,ih⟩:=l49a (c:=c) hR hl hb j (i+1) (S++[(u.name,u.super)]) (min w (os.length+1)) (by omega) (by omega)
   refine ⟨S',w',e,s',r1,by simp only [supersS,c0,if_true]; exact r2,fun k=>?_⟩
   have ih:=ih k
   have e2:((i+1:Nat):Int)=(i:Int)+1:=by omega
   rw [e2] at ih
   rw [bl,← ih]
   generalize ACode.loop code49L2=L
   generalize wO os (S++[(u.name,u.super)]) F M V=H2 at hup ⊢
   generalize wO os S F M V=H at hpO h54 h25 hup hw0 ⊢
   simp (disch:=omega) [-evExt,gz,gs,code49L2,h54,h25,hup,hw0,nltT,nltF,iltT,ileT,nleT,dh,hpO,ht,hg,c2,c3]
  ·refine ⟨S,w,.ret,[(2,.val (.ptr none)),(3,.val (.int .i64 15))],hw,by simp only [supersS,c0]; exact ⟨trivial,trivial⟩,fun k=>?_⟩
   unfold superOk sysT at c0
   rw [bl]
   generalize ACode.loop code49L2=L
   generalize wO os S F M V=H at hpO h54 h25 hw0 ⊢
   cases c1:(getE S u.name).isSome with
   | true=>simp (disch:=omega) [-evExt,gz,gs,code49L2,h54,h25,hw0,nltT,nltF,iltT,ileT,nleT,dh,hpO,ht,c1]
   | false =>
    cases c2:isClass u.name with
    | false=>simp (disch:=omega) [-evExt,gz,gs,code49L2,h54,h25,hw0,nltT,nltF,iltT,ileT,nleT,dh,hpO,ht,c1,c2]
    | true =>
     by_cases c3:u.super=[115,121,115]
     ·simp (disch:=omega) [-evExt,gz,gs,code49L2,h54,h25,hw0,nltT,nltF,iltT,ileT,nleT,dh,hpO,ht,c1,c2,c3]
     ·rw [c1,c2,decide_eq_false c3] at c0; cases c0
end
def unitOk (S:List (Str × Str)) (M:List (Key × Mem)) (u:UnitU):Bool:=endsS S u.name && fieldsS S [] u.fields && methsS S u.name M u.meths
def membersS (S:List (Str × Str)):List (Key × Mem)→List (Key × Mem)→List UnitU→Option (List (Key × Mem) × List (Key × Mem))
 | F,M,[]=>some (F,M)
 | F,M,u :: r=>if unitOk S M u then membersS S (F++u.fields.map (fieldE u.name)) (M++u.meths.map (methE u.name)) r else none
section
attribute [-simp] getElem?_pos getElem?_neg
theorem l49b {l:List UnitU} {a:Option (Nat × Nat)} {c:Option Nat} (hR:Row os 4 UnitU.cells l a) (hok:∀ u ∈ l,u.ok os) (hl:l.length≤32) (hb:b≤os.length) (hS:S.length≤9223372036854775807) (hnd:(l.map UnitU.name).Nodup) :
  ∀ (j i:Nat) (O:List AObj) (F M:List (Key × Mem)) (w:Nat),i+j=l.length→os.length≤w→World O os.length S F M V→Pre os O→(∀ x ∈ F,∀ u ∈ l.drop i,x.1.1≠u.name) →
  ∃ O' w' e s',os.length≤w'∧(match membersS S F M (l.drop i) with
   | some q=>World O' os.length S q.1 q.2 V∧Pre os O'∧e = .exit 2∧s'=[(0,.val (.slice a l.length c)),(4,.val (.ptr (some (os.length,0))))]
   | none=>e = .ret∧s'=[(2,.val (.ptr none)),(3,.val (.int .i64 15))])∧∀ (k:AExit→St→Option (AVal × Heap)),
   xK T (.loop code49L1) ⟨[(0,.val (.slice a l.length c)),(4,.val (.ptr (some (os.length,0)))),(45,.val (.slice a l.length c)),(46,.val (.int .i64 l.length)),(47,.val (.int .i64 i))],⟨O,b,w⟩⟩ (k:=⟨k⟩) =
   k e ⟨s',⟨O',b,w'⟩⟩
 | 0,i,O,F,M,w,hi,hw,h,hp,hF=>by
  refine ⟨O,w,.exit 2,[(0,.val (.slice a l.length c)),(4,.val (.ptr (some (os.length,0))))],hw,?_,fun k=>?_⟩
  ·rw [bq (by omega)]
   exact ⟨h,hp,rfl,rfl⟩
  ·rw [bl]
   simp (disch:=omega) [code49L1,iltF]
 | j+1,i,O,F,M,w,hi,hw,h,hp,hF=>by
  obtain ⟨u,hu⟩:∃ u,l[i]? = some u:=⟨_,ag (by omega)⟩
  obtain ⟨p,o,cs,rfl,hpp,hpl,hcs,ht⟩:=g7 hR hu
  have huo:=hok u (au hu)
  have hd:l.drop i=u :: l.drop (i+1):=by
   have:=aj hu
   rw [ag this] at hu
   rw [dq this,b9 hu]
  have hlt:=h.lt
  have hpO:=hp _ _ hpp
  have h98:=fun w=>s98 (b:=b) (w:=w) h (by omega) hS (c:=u.name)
  obtain ⟨O1,w1,hw1,h99a,h99⟩:=s99 (w:=w) huo hp (ak _) h hb (fun x hx=>hF x hx u (by rw [hd]; exact a8 ..))
  have hcu:u.cells=[.str u.name,.str u.super,.slice u.fa u.fields.length u.fc,.slice u.ma u.meths.length u.mc]:=rfl
  rw [hcu] at ht h99
  rw [hd]
  rcases ep (endsS S u.name) with c1 | c1
  ·rcases ep (fieldsS S [] u.fields) with c2 | c2
   ·obtain ⟨X,rfl⟩:=h99a c2
    have h1:=(h.setF (F++u.fields.map (fieldE u.name))).app X
    have hp1:Pre os (O.set (os.length+2) (mObj keyF memF (F++u.fields.map (fieldE u.name)))++X):=(hp.set _ (by omega)).trans (Pre.app _ _)
    obtain ⟨O2,w2,hw2,h100a,h100⟩:=s100 (w:=w1) huo hp1 (ak _) h1 hb
    rw [hcu] at h100
    rcases ep (methsS S u.name M u.meths) with c3 | c3
    ·have e3:=h100a c3
     have h2:=h1.setM (M++u.meths.map (methE u.name))
     have hp2:Pre os O2:=by rw [e3]; exact hp1.set _ (by omega)
     rw [← e3] at h2
     obtain ⟨O',w',e,s',r1,r2,ih⟩:=l49b (c:=c) hR hok hl hb hS hnd j (i+1) O2 (F++u.fields.map (fieldE u.name)) (M++u.meths.map (methE u.name)) w2 (by omega) (by omega) h2 hp2 (fun x hx v hv=>by
      rcases bg.1 hx with hx | hx
      ·exact hF x hx v (by rw [hd]; exact bh _ hv)
      ·obtain ⟨f,hf,rfl⟩:=dw.1 hx
       intro e
       have hnd2:((l.drop i).map UnitU.name).Nodup:=by rw [List.map_drop]; exact hnd.sublist (List.drop_sublist _ _)
       rw [hd,bo,je] at hnd2
       exact hnd2.1 (by rw [show u.name=v.name from e]; exact iy hv))
     have c4:unitOk S M u=true:=by simp [unitOk,c1,c2,c3]
     refine ⟨O',w',e,s',r1,by simp only [membersS,c4,if_true]; exact r2,fun k=>?_⟩
     have ih:=ih k
     have e2:((i+1:Nat):Int)=(i:Int)+1:=by omega
     rw [e2] at ih
     rw [bl,← ih]
     generalize ACode.loop code49L1=L
     generalize O.set (os.length+2) (mObj keyF memF (F++u.fields.map (fieldE u.name)))++X=H1 at h99 h100
     simp (disch:=omega) [-evExt,gz,gs,code49L1,h98,nltT,nltF,iltT,ileT,nleT,dh,hpO,ht,h99,h100,c1,c2,c3]
    ·have c4:unitOk S M u=false:=by simp [unitOk,c3]
     refine ⟨O2,w2,.ret,[(2,.val (.ptr none)),(3,.val (.int .i64 15))],by omega,by simp only [membersS,c4]; exact ⟨trivial,trivial⟩,fun k=>?_⟩
     rw [bl]
     generalize ACode.loop code49L1=L
     generalize O.set (os.length+2) (mObj keyF memF (F++u.fields.map (fieldE u.name)))++X=H1 at h99 h100
     simp (disch:=omega) [-evExt,gz,gs,code49L1,h98,nltT,nltF,iltT,ileT,nleT,dh,hpO,ht,h99,h100,c1,c2,c3]
   ·have c4:unitOk S M u=false:=by simp [unitOk,c2]
    refine ⟨O1,w1,.ret,[(2,.val (.ptr none)),(3,.val (.int .i64 15))],by omega,by simp only [membersS,c4]; exact ⟨trivial,trivial⟩,fun k=>?_⟩
    rw [bl]
    generalize ACode.loop code49L1=L
    simp (disch:=omega) [-evExt,gz,gs,code49L1,h98,nltT,nltF,iltT,ileT,nleT,dh,hpO,ht,h99,c1,c2]
  ·have c4:unitOk S M u=false:=by simp [unitOk,c1]
   refine ⟨O,w,.ret,[(2,.val (.ptr none)),(3,.val (.int .i64 15))],hw,by simp only [membersS,c4]; exact ⟨trivial,trivial⟩,fun k=>?_⟩
   rw [bl]
   generalize ACode.loop code49L1=L
   simp (disch:=omega) [-evExt,gz,gs,code49L1,h98,nltT,nltF,iltT,ileT,nleT,dh,hpO,ht,c1]
end
end Go.Abs.AbsHier

namespace Go.Abs.AbsHier
open Go.Abs.AbsDesc
variable {os O:List AObj} {b w:Nat} {N:Nat} {S:List (Str × Str)} {F M:List (Key × Mem)} {V:List (Key × Bool)}
section
attribute [-simp] getElem?_pos getElem?_neg
theorem l49c {l:List UnitU} {a:Option (Nat × Nat)} {c:Option Nat} (hR:Row os 4 UnitU.cells l a) (hok:∀ u ∈ l,u.ok os) (hl:l.length≤32) (hb:b≤os.length) (hS:S.length≤9223372036854775807)
  (h:World O os.length S F M V) (hp:Pre os O):∀ (j i:Nat) (w:Nat),i+j=l.length→∀ (k:AExit→St→Option (AVal × Heap)),
   xK T (.loop code49L0) ⟨[(4,.val (.ptr (some (os.length,0)))),(69,.val (.slice a l.length c)),(70,.val (.int .i64 l.length)),(71,.val (.int .i64 i))],⟨O,b,w⟩⟩ (k:=⟨k⟩) =
   if (l.drop i).all (overS S M) then k (.exit 4) ⟨[(4,.val (.ptr (some (os.length,0))))],⟨O,b,w⟩⟩ else k .ret ⟨[(2,.val (.ptr none)),(3,.val (.int .i64 15))],⟨O,b,w⟩⟩
 | 0,i,w,hi,k=>by
  rw [bl,bq (by omega)]
  simp (disch:=omega) [code49L0,iltF]
 | j+1,i,w,hi,k=>by
  obtain ⟨u,hu⟩:∃ u,l[i]? = some u:=⟨_,ag (by omega)⟩
  obtain ⟨p,o,cs,rfl,hpp,hpl,hcs,ht⟩:=g7 hR hu
  have huo:=hok u (au hu)
  have hd:l.drop i=u :: l.drop (i+1):=by
   have:=aj hu
   rw [ag this] at hu
   rw [dq this,b9 hu]
  have hlt:=h.lt
  have hpO:=hp _ _ hpp
  have h97:=fun w=>s97 (w:=w) (b:=b) (huo.pre hp) h (by omega) hS
  have hcu:u.cells=[.str u.name,.str u.super,.slice u.fa u.fields.length u.fc,.slice u.ma u.meths.length u.mc]:=rfl
  rw [hcu] at ht h97
  have ih:=l49c (c:=c) hR hok hl hb hS h hp j (i+1) w (by omega) k
  have e2:((i+1:Nat):Int)=(i:Int)+1:=by omega
  rw [e2] at ih
  rw [bl,hd]
  simp only [eo]
  generalize ACode.loop code49L0=L at ih ⊢
  rcases ep (overS S M u) with c1 | c1
  ·simp (disch:=omega) [-List.all_eq_true,gz,gs,code49L0,h97,nltT,nltF,iltT,ileT,nleT,dh,hpO,ht,c1,ih]
  ·simp (disch:=omega) [-List.all_eq_true,gz,gs,code49L0,h97,nltT,nltF,iltT,ileT,nleT,dh,hpO,ht,c1]
end
def supE (u:UnitU):Str × Str:=(u.name,u.super)
theorem supersS_eq:∀ {l:List UnitU} {S S2:List (Str × Str)},supersS S l=some S2→S2=S++l.map supE∧(l.map UnitU.name).Nodup∧∀ u ∈ l,getE S u.name=none∧isClass u.name=true∧u.super≠sysT
 | [],S,S2,h=>by simp only [supersS] at h; cases h; simp
 | u :: l,S,S2,h=>by
  simp only [supersS] at h
  split at h
  case isFalse=>cases h
  rename_i hu
  obtain ⟨h1,h2,h3⟩:=supersS_eq h
  unfold superOk at hu
  simp only [aw,eg,decide_eq_false_iff_not] at hu
  obtain ⟨⟨c1,c2⟩,c3⟩:=hu
  have hg:getE S u.name=none:=by simpa using c1
  refine ⟨by rw [h1,ba]; rfl,?_,fun v hv=>?_⟩
  ·rw [bo,je]
   refine ⟨fun hm=>?_,h2⟩
   obtain ⟨v,hv,e⟩:=dw.1 hm
   have:=(h3 v hv).1
   rw [jl,e,hg] at this
   simp [getE] at this
  ·rcases cr.1 hv with rfl | hv
   ·exact ⟨hg,c2,c3⟩
   ·obtain ⟨d1,d2,d3⟩:=h3 v hv
    rw [jl] at d1
    refine ⟨?_,d2,d3⟩
    cases hq:getE S v.name with
    | none=>rfl
    | some y=>rw [hq] at d1; cases d1
def worldS (l:List UnitU):Option (List (Str × Str) × List (Key × Mem) × List (Key × Mem)) :=
 if l.length≤32 then match supersS builtS l with
  | some S=>match membersS S [] builtM l with
   | some q=>if l.all (overS S q.2) then some (S,q.1,q.2) else none
   | none=>none
  | none=>none
 else none
def newV (N:Nat):Option (List (Str × Str) × List (Key × Mem) × List (Key × Mem))→AVal
 | none=>.tuple [.ptr none,.int .i64 15]
 | some _=>.tuple [.ptr (some (N,0)),.int .i64 0]
def newO (os:List AObj):Option (List (Str × Str) × List (Key × Mem) × List (Key × Mem))→List AObj
 | none=>os
 | some q=>wO os q.1 q.2.1 q.2.2 builtV
theorem fin_none {h0 h:Heap} (hw:h0.size≤h.wmin):finish h0 (.tuple [.ptr none,.int .i64 15]) h=(.tuple [.ptr none,.int .i64 15],h0):=by
 unfold finish
 rw [if_neg (by omega)]
 simp [AVal.under,AVal.unders]
section
attribute [-simp] getElem?_pos getElem?_neg
attribute [local simp] gz gs
theorem s49 {l:List UnitU} {a:Option (Nat × Nat)} {c:Option Nat} (hR:Row os 4 UnitU.cells l a) (hok:∀ u ∈ l,u.ok os) (hn:l.length≤9223372036854775807) (hb:b≤os.length) :
  xCall T 49 [.slice a l.length c] ⟨os,b,w⟩=some (newV os.length (worldS l),⟨newO os (worldS l),b,w⟩):=by
 have h284:=fun w=>s284 (os:=os) (b:=b) (w:=w) hb
 have hlen:(wO os builtS [] builtM builtV).length=os.length+5:=by simp [wO]
 unfold worldS
 by_cases hl:l.length≤32
 ·rw [if_pos hl]
  have hli:¬ ((32:Int) < l.length):=by omega
  obtain ⟨S1,w1,e1,s1,p1,p2,p3⟩:=l49a (F:=[]) (M:=builtM) (V:=builtV) (c:=c) hR hl hb l.length 0 builtS os.length (by omega) (ak _)
  simp only [bf,d8] at p2 p3
  cases hs:supersS builtS l with
  | none =>
   rw [hs] at p2
   simp only at p2
   obtain ⟨rfl,rfl⟩:=p2
   have hf:=fun X=>fin_none (h0:=⟨os,b,w⟩) (h:=⟨X,b,w1⟩) p1
   simp (disch:=omega) [-finish,cd t49,code49,h284,p3,hl,hli,hf,newV,newO]
  | some S2 =>
   rw [hs] at p2
   simp only at p2
   obtain ⟨rfl,rfl,rfl⟩:=p2
   obtain ⟨q1,q2,q3⟩:=supersS_eq hs
   have hSl:S1.length≤9223372036854775807:=by rw [q1]; simp [builtS,faultsL]; omega
   obtain ⟨O2,w2,e2,s2,r1,r2,r3⟩:=l49b (V:=builtV) (c:=c) hR hok hl hb hSl q2 l.length 0 (wO os S1 [] builtM builtV) [] builtM w1 (by omega) p1 (wO_world _ _ _ _ _) (wO_pre _ _ _ _ _) (fun _ h=>by cases h)
   simp only [bf,d8] at r2 r3
   simp only
   cases hm:membersS S1 [] builtM l with
   | none =>
    rw [hm] at r2
    simp only at r2
    obtain ⟨rfl,rfl⟩:=r2
    have hf:=fun X=>fin_none (h0:=⟨os,b,w⟩) (h:=⟨X,b,w2⟩) r1
    simp (disch:=omega) [-finish,cd t49,code49,h284,p3,r3,hl,hli,hf,newV,newO]
   | some q =>
    obtain ⟨F2,M2⟩:=q
    rw [hm] at r2
    simp only at r2
    obtain ⟨hW,hP,rfl,rfl⟩:=r2
    have h3:=fun w=>l49c (b:=b) (c:=c) hR hok hl hb hSl hW hP l.length 0 w (by omega)
    simp only [bf,d8] at h3
    simp only
    rcases ep (l.all (overS S1 M2)) with c0 | c0
    ·rw [c0] at h3 ⊢
     simp only [if_true] at h3 ⊢
     have hf:=world_fin (b:=b) hW w r1
     simp (disch:=omega) [-finish,cd t49,code49,h284,p3,r3,h3,hl,hli,hf,newV,newO]
    ·rw [c0] at h3 ⊢
     simp only [av,if_false] at h3 ⊢
     have hf:=fun X=>fin_none (h0:=⟨os,b,w⟩) (h:=⟨X,b,w2⟩) r1
     simp (disch:=omega) [-finish,cd t49,code49,h284,p3,r3,h3,hl,hli,hf,newV,newO]
 ·rw [if_neg hl]
  have hli:(32:Int) < l.length:=by omega
  simp (disch:=omega) [cd t49,code49,h284,hl,hli,newV,newO]
end
end Go.Abs.AbsHier

namespace Go.Abs.AbsHier
open Go.Abs.AbsDesc
variable {os O:List AObj} {b w:Nat}
def findU (W:List UnitU) (n:Str):Option UnitU:=W.find? fun u=>decide (u.name=n)
theorem findU_mem {W:List UnitU} {n:Str} {u:UnitU} (h:findU W n=some u):u ∈ W∧u.name=n:=by
 unfold findU at h
 exact ⟨List.mem_of_find?_eq_some h,by simpa using List.find?_some h⟩
def thereU (W:List UnitU) (t:Str):Bool:=match classOf (bare t) with
 | some c=>(findU W c).isSome
 | none=>true
end Go.Abs.AbsHier

namespace Go.Abs.AbsHier
open Go.Abs.AbsDesc
variable {os O:List AObj} {b w:Nat}
def goL (W:List UnitU):Nat→Option UnitU→List UnitU
 | 0,_=>[]
 | _+1,none=>[]
 | k+1,some v=>v :: goL W k (findU W v.super)
def lineU (W:List UnitU) (k:Nat) (n:Str):List UnitU:=goL W k (findU W n)
theorem ids_slice {n m:Nat} {a:Option (Nat × Nat)} {c:Option Nat} (h:under n a):∀ i ∈ (AVal.slice a m c).ids,i < n:=by
 cases a with
 | none=>simp [AVal.ids]
 | some p=>obtain ⟨j,o⟩:=p; simp only [AVal.ids,b0]; rintro i rfl; exact h _ _ rfl
theorem goL_len (W:List UnitU):∀ (j:Nat) (u:Option UnitU),(goL W j u).length≤j
 | 0,_=>ak _
 | _+1,none=>by simp [goL]
 | j+1,some v=>by
  have:=goL_len W j (findU W v.super)
  simp only [goL,az]; omega
end Go.Abs.AbsHier

namespace Go.Abs
def FieldU.fits (x:FieldU):Prop:=x.name.length≤reachB∧x.desc.length≤reachB
def InsU.fits (x:InsU):Prop:=x.cls.length≤reachB∧x.name.length≤reachB∧x.desc.length≤reachB∧x.text.length≤reachB
def TrapU.fits (x:TrapU):Prop:=x.cls.length≤reachB
structure MapU.fits (x:MapU):Prop where
 l:x.locals.length≤reachB
 s:x.stack.length≤reachB
 ls:∀ t ∈ x.locals,t.length≤reachB
 ss:∀ t ∈ x.stack,t.length≤reachB
structure MethU.fits (m:MethU):Prop where
 name:m.name.length≤reachB
 desc:m.desc.length≤reachB
 c:m.code.length≤reachB
 cs:∀ x ∈ m.code,x.fits
 t:m.traps.length≤reachB
 ts:∀ x ∈ m.traps,x.fits
 x:m.maps.length≤reachB
 xs:∀ x ∈ m.maps,x.fits
structure UnitU.cap (u:UnitU):Prop where
 f:∀ k,u.fc=some k→u.fields.length≤k
 m:∀ k,u.mc=some k→u.meths.length≤k
structure UnitU.fits (u:UnitU):Prop where
 name:u.name.length≤reachB
 super:u.super.length≤reachB
 f:u.fields.length≤reachB
 fs:∀ x ∈ u.fields,x.fits
 m:u.meths.length≤reachB
 ms:∀ x ∈ u.meths,x.fits
 cap:u.cap
section
variable {os:List AObj} {b w:Nat} {d:Dat} {cs:List AVal}
theorem has_strC (h:Has ⟨os,b,w⟩ .str d cs):∃ x:Str,cs=strC x∧x.length≤reachB:=by
 obtain ⟨s,_,rfl,hs⟩:=h.str
 exact ⟨s,rfl,hs⟩
theorem has_field (h:Has ⟨os,b,w⟩ shField d cs):∃ x:FieldU,cs=x.cells∧x.fits:=by
 obtain ⟨l,rfl,h⟩:=h.struct
 obtain ⟨_,_,_,_,rfl,rfl,h1,h⟩:=h.cons
 obtain ⟨_,_,_,_,rfl,rfl,h2,h⟩:=h.cons
 obtain ⟨_,_,_,_,rfl,rfl,h3,h⟩:=h.cons
 obtain ⟨rfl,rfl⟩:=h.nil
 obtain ⟨st,_,rfl⟩:=h1.bool
 obtain ⟨n,_,rfl,hn⟩:=h2.str
 obtain ⟨e,_,rfl,he⟩:=h3.str
 exact ⟨⟨st,n,e⟩,rfl,hn,he⟩
theorem has_ins (h:Has ⟨os,b,w⟩ shIns d cs):∃ x:InsU,cs=x.cells∧x.fits:=by
 obtain ⟨l,rfl,h⟩:=h.struct
 obtain ⟨_,_,_,_,rfl,rfl,h1,h⟩:=h.cons
 obtain ⟨_,_,_,_,rfl,rfl,h2,h⟩:=h.cons
 obtain ⟨_,_,_,_,rfl,rfl,h3,h⟩:=h.cons
 obtain ⟨_,_,_,_,rfl,rfl,h4,h⟩:=h.cons
 obtain ⟨_,_,_,_,rfl,rfl,h5,h⟩:=h.cons
 obtain ⟨_,_,_,_,rfl,rfl,h6,h⟩:=h.cons
 obtain ⟨_,_,_,_,rfl,rfl,h7,h⟩:=h.cons
 obtain ⟨rfl,rfl⟩:=h.nil
 obtain ⟨op,_,rfl,_⟩:=h1.int
 obtain ⟨n,_,rfl,_⟩:=h2.int
 obtain ⟨m,_,rfl,_⟩:=h3.int
 obtain ⟨c,_,rfl,hc⟩:=h4.str
 obtain ⟨nm,_,rfl,hn⟩:=h5.str
 obtain ⟨e,_,rfl,he⟩:=h6.str
 obtain ⟨t,_,rfl,ht⟩:=h7.str
 exact ⟨⟨op,n,m,c,nm,e,t⟩,rfl,hc,hn,he,ht⟩
theorem has_trap (h:Has ⟨os,b,w⟩ shTrap d cs):∃ x:TrapU,cs=x.cells∧x.fits:=by
 obtain ⟨l,rfl,h⟩:=h.struct
 obtain ⟨_,_,_,_,rfl,rfl,h1,h⟩:=h.cons
 obtain ⟨_,_,_,_,rfl,rfl,h2,h⟩:=h.cons
 obtain ⟨_,_,_,_,rfl,rfl,h3,h⟩:=h.cons
 obtain ⟨_,_,_,_,rfl,rfl,h4,h⟩:=h.cons
 obtain ⟨rfl,rfl⟩:=h.nil
 obtain ⟨p,_,rfl,_⟩:=h1.int
 obtain ⟨q,_,rfl,_⟩:=h2.int
 obtain ⟨r,_,rfl,_⟩:=h3.int
 obtain ⟨c,_,rfl,hc⟩:=h4.str
 exact ⟨⟨p,q,r,c⟩,rfl,hc⟩
theorem ia {n:Nat} (h:n≤reachB):n≤big:=by
 have:n≤140737488351232:=h
 show n≤9223372036854775807
 omega
theorem under_of {n m:Nat} {a:Option (Nat × Nat)} (h:∀ i o,a=some (i,o)→i < n) (hm:n≤m):under m a:=fun i o e=>e9 (h i o e) hm
theorem has_map (hb:b≤os.length) (h:Has ⟨os,b,w⟩ shMap d cs):∃ x:MapU,cs=x.cells∧x.ok os∧x.fits:=by
 obtain ⟨l,rfl,h⟩:=h.struct
 obtain ⟨_,_,_,_,rfl,rfl,h1,h⟩:=h.cons
 obtain ⟨_,_,_,_,rfl,rfl,h2,h⟩:=h.cons
 obtain ⟨_,_,_,_,rfl,rfl,h3,h⟩:=h.cons
 obtain ⟨rfl,rfl⟩:=h.nil
 obtain ⟨p,_,rfl,_⟩:=h1.int
 obtain ⟨la,L,lc,rfl,hL,hLn,hLs,hLu,_⟩:=h2.row fun d c h=>has_strC h
 obtain ⟨sa,S,sc,rfl,hS,hSn,hSs,hSu,_⟩:=h3.row fun d c h=>has_strC h
 exact ⟨⟨p,L,la,lc,S,sa,sc⟩,rfl,⟨hL,ia hLn,under_of hLu hb,hS,ia hSn,under_of hSu hb,fun t ht=>by
  rcases bg.1 ht with ht | ht
  ·exact ia (hLs t ht)
  ·exact ia (hSs t ht)⟩,⟨hLn,hSn,hLs,hSs⟩⟩
theorem has_meth (hb:b≤os.length) (h:Has ⟨os,b,w⟩ shMeth d cs):∃ x:MethU,cs=x.cells∧x.ok os∧x.fits:=by
 obtain ⟨l,rfl,h⟩:=h.struct
 obtain ⟨_,_,_,_,rfl,rfl,h1,h⟩:=h.cons
 obtain ⟨_,_,_,_,rfl,rfl,h2,h⟩:=h.cons
 obtain ⟨_,_,_,_,rfl,rfl,h3,h⟩:=h.cons
 obtain ⟨_,_,_,_,rfl,rfl,h4,h⟩:=h.cons
 obtain ⟨_,_,_,_,rfl,rfl,h5,h⟩:=h.cons
 obtain ⟨_,_,_,_,rfl,rfl,h6,h⟩:=h.cons
 obtain ⟨_,_,_,_,rfl,rfl,h7,h⟩:=h.cons
 obtain ⟨_,_,_,_,rfl,rfl,h8,h⟩:=h.cons
 obtain ⟨rfl,rfl⟩:=h.nil
 obtain ⟨st,_,rfl⟩:=h1.bool
 obtain ⟨n,_,rfl,hn⟩:=h2.str
 obtain ⟨e,_,rfl,he⟩:=h3.str
 obtain ⟨p,_,rfl,_⟩:=h4.int
 obtain ⟨q,_,rfl,_⟩:=h5.int
 obtain ⟨ca,C,cc,rfl,hC,hCn,hCs,hCu,_⟩:=h6.row fun d c h=>has_ins h
 obtain ⟨ta,T,tc,rfl,hT,hTn,hTs,hTu,_⟩:=h7.row fun d c h=>has_trap h
 obtain ⟨xa,X,xc,rfl,hX,hXn,hXs,hXu,_⟩:=h8.row (ok:=fun x:MapU=>x.ok os∧x.fits) fun d c h=>has_map hb h
 exact ⟨⟨st,n,e,p,q,C,ca,cc,T,ta,tc,X,xa,xc⟩,rfl,
  ⟨ia hn,ia he,hC,ia hCn,under_of hCu hb,fun x hx=>⟨ia (hCs x hx).1,ia (hCs x hx).2.1,ia (hCs x hx).2.2.1,ia (hCs x hx).2.2.2⟩,hT,ia hTn,under_of hTu hb,fun x hx=>ia (hTs x hx),hX,ia hXn,under_of hXu hb,fun x hx=>(hXs x hx).1⟩,
  ⟨hn,he,hCn,hCs,hTn,hTs,hXn,fun x hx=>(hXs x hx).2⟩⟩
theorem has_cap {e:Sh} {a:Option (Nat × Nat)} {n:Nat} {c:Option Nat} (h:Has ⟨os,b,w⟩ (.slice e) d [.slice a n c]):∀ k,c=some k→n≤k:=by
 intro k hk
 cases d <;> simp only [Has] at h
 ·simp only [List.cons.injEq,AVal.slice.injEq] at h
  omega
 ·obtain ⟨_,_,_,h1,_⟩:=h
  simp only [List.cons.injEq,AVal.slice.injEq] at h1
  obtain ⟨⟨_,_,h3⟩,_⟩:=h1
  rw [h3] at hk; cases hk
theorem has_unit (hb:b≤os.length) (h:Has ⟨os,b,w⟩ shUnit d cs):∃ x:UnitU,cs=x.cells∧x.ok os∧x.fits:=by
 obtain ⟨l,rfl,h⟩:=h.struct
 obtain ⟨_,_,_,_,rfl,rfl,h1,h⟩:=h.cons
 obtain ⟨_,_,_,_,rfl,rfl,h2,h⟩:=h.cons
 obtain ⟨_,_,_,_,rfl,rfl,h3,h⟩:=h.cons
 obtain ⟨_,_,_,_,rfl,rfl,h4,h⟩:=h.cons
 obtain ⟨rfl,rfl⟩:=h.nil
 obtain ⟨n,_,rfl,hn⟩:=h1.str
 obtain ⟨e,_,rfl,he⟩:=h2.str
 obtain ⟨fa,F,fc,rfl,hF,hFn,hFs,hFu,_⟩:=h3.row fun d c h=>has_field h
 obtain ⟨ma,M,mc,rfl,hM,hMn,hMs,hMu,_⟩:=h4.row (ok:=fun x:MethU=>x.ok os∧x.fits) fun d c h=>has_meth hb h
 exact ⟨⟨n,e,F,fa,fc,M,ma,mc⟩,rfl,
  ⟨ia hn,ia he,hF,ia hFn,under_of hFu hb,fun x hx=>⟨ia (hFs x hx).1,ia (hFs x hx).2⟩,hM,ia hMn,under_of hMu hb,fun x hx=>(hMs x hx).1⟩,
  ⟨hn,he,hFn,hFs,hMn,fun x hx=>(hMs x hx).2,has_cap h3,has_cap h4⟩⟩
theorem has_units (hb:b≤os.length) (h:Has ⟨os,b,w⟩ (.slice shUnit) d cs):∃ (a:Option (Nat × Nat)) (L:List UnitU) (c:Option Nat),cs=[.slice a L.length c]∧Row os 4 UnitU.cells L a∧L.length≤reachB∧(∀ x ∈ L,x.ok os∧x.fits)∧under os.length a:=by
 obtain ⟨a,L,c,h1,h2,h3,h4,h5,_⟩:=h.row (ok:=fun x:UnitU=>x.ok os∧x.fits) fun d c h=>has_unit hb h
 exact ⟨a,L,c,h1,h2,h3,h4,under_of h5 hb⟩
end
end Go.Abs

namespace Go.Abs
structure LClsU where
 name:Str
 super:Int
 cells':Int
 refs:List Int
 ra:Option (Nat × Nat)
 rc:Option Nat
 table:List Int
 ta:Option (Nat × Nat)
 tc:Option Nat
structure LMethU where
 cls:Int
 name:Str
 desc:Str
 st:Bool
 slot:Int
 native:Int
structure LayU where
 cs:List LClsU
 ca:Option (Nat × Nat)
 cc:Option Nat
 ms:List LMethU
 ma:Option (Nat × Nat)
 mc:Option Nat
 stat:Int
 refs:List Int
 ra:Option (Nat × Nat)
 rc:Option Nat
def intC (x:Int):List AVal:=[.int .i64 x]
def LClsU.cells (x:LClsU):List AVal:=[.str x.name,.int .i64 x.super,.int .i64 x.cells',.slice x.ra x.refs.length x.rc,.slice x.ta x.table.length x.tc]
def LMethU.cells (x:LMethU):List AVal:=[.int .i64 x.cls,.str x.name,.str x.desc,.bool x.st,.int .i64 x.slot,.int .i64 x.native]
def LayU.cells (x:LayU):List AVal:=[.slice x.ca x.cs.length x.cc,.slice x.ma x.ms.length x.mc,.int .i64 x.stat,.slice x.ra x.refs.length x.rc]
structure LClsU.ok (os:List AObj) (x:LClsU):Prop where
 name:x.name.length≤reachB
 r:Row os 1 intC x.refs x.ra
 rn:x.refs.length≤reachB
 ru:under os.length x.ra
 t:Row os 1 intC x.table x.ta
 tn:x.table.length≤reachB
 tu:under os.length x.ta
structure LMethU.ok (x:LMethU):Prop where
 name:x.name.length≤reachB
 desc:x.desc.length≤reachB
structure LayU.ok (os:List AObj) (x:LayU):Prop where
 c:Row os 5 LClsU.cells x.cs x.ca
 cn:x.cs.length≤reachB
 cu:under os.length x.ca
 cok:∀ y ∈ x.cs,y.ok os
 m:Row os 6 LMethU.cells x.ms x.ma
 mn:x.ms.length≤reachB
 mu:under os.length x.ma
 mok:∀ y ∈ x.ms,y.ok
 r:Row os 1 intC x.refs x.ra
 rn:x.refs.length≤reachB
 ru:under os.length x.ra
section
variable {os:List AObj} {b w:Nat} {d:Dat} {cs:List AVal}
end
end Go.Abs

namespace Go.Abs.AbsSlot
open Go.Abs.Short
-- base: AbsHier
def code56:AFunc:=⟨false,false,3,11,[.tmp 6],
 .seq (R [1,3,5] [o 3 (.lbox (t 0)),o 5 (.box (t 2)),o 6 (.val F)])
 (.seq (R [6] [o 7 (.load (some 4) (t 3)),v 8 1,o 9 (.mkfunc 117 [] [t 5]),o 10 (.callg 118 [t 7,t 8,t 9]),v 6 10])
 (.live [6] (.ret))),none⟩
def code57L0:ACode :=
 .live [3,5,6,25,26,27,77,78,79] (.seq (R [3,5,6,25,26,27,77,78,79,80] [o 80 (.bin .lss (t 79) (t 78))])
 (.seq (.after (.cond (t 80) (.skip) (.live [3,25,26,27] (.exit 2))) [3,5,6,25,26,27,77,78,79])
 (.seq (.after (.block 3 (.seq (R [3,5,6,8,9,25,26,27,77,78,79] [v 81 79,o 82 (.iaddr 1 (t 77) (t 79)),o 83 (.load none (t 82)),v 8 81,v 9 83])
 (.seq (.after (.region [⟨true,[],[o 84 (.faddr (t 3) 1),o 85 (.load none (t 84)),v 86 9,o 87 (.iaddr 6 (t 85) (t 86)),o 88 (.load (some 6) (t 87)),o 89 (.faddr (t 3) 1),o 90 (.load none (t 89)),o 91 (.faddr (t 6) 4),o 92 (.load none (t 91)),v 93 8,o 94 (.iaddr 1 (t 92) (t 93)),o 95 (.load none (t 94)),o 96 (.iaddr 6 (t 90) (t 95)),o 97 (.load (some 6) (t 96)),o 10 (.lalloc [.int .i64 0,.str [],.str [],.bool false,.int .i64 0,.int .i64 0]),o 11 (.lalloc [.int .i64 0,.str [],.str [],.bool false,.int .i64 0,.int .i64 0]),u (.store 6 (t 10) (t 88))]⟩,⟨false,[],[u (.store 6 (t 11) (t 97))]⟩]) [3,5,6,8,10,11,25,26,27,77,78,79])
 (.seq (R [3,5,6,25,26,27,77,78,79,123] [o 98 (.faddr (t 10) 1),o 99 (.load none (t 98)),o 100 (.faddr (t 11) 1),o 101 (.load none (t 100)),o 102 (.bin .neq (t 99) (t 101)),v 103 102,g 104 103 false (.faddr (t 10) 2),g 105 103 false (.load none (t 104)),g 106 103 false (.faddr (t 11) 2),g 107 103 false (.load none (t 106)),g 108 103 false (.bin .neq (t 105) (t 107)),o 109 (.pick (t 103) Y (t 108)),v 110 109,g 111 110 false (.load (some 4) (t 3)),g 112 110 false (.val (t 5)),g 113 110 false (.faddr (t 11) 0),g 114 110 false (.load none (t 113)),g 115 110 false (.callg 56 [t 111,t 112,t 114]),g 116 110 false (.un .not (t 115)),o 117 (.pick (t 110) Y (t 116)),v 118 117,g 119 118 false (.faddr (t 11) 4),g 120 118 false (.load none (t 119)),g 121 118 false (.val (t 8)),g 122 118 false (.bin .neq (t 120) (t 121)),o 123 (.pick (t 118) Y (t 122))])
 (.after (.cond (t 123) (.seq (R [2] [o 2 (.val F)])
 (.live [2] (.ret))) (.skip)) [3,5,6,25,26,27,77,78,79]))))) [3,5,6,25,26,27,77,78,79])
 (R [3,5,6,25,26,27,77,78,79] [o 124 (.bin .add (t 79) (n 1)),v 79 124]))))
def code57L1:ACode :=
 .live [3,25,26,27] (.seq (R [3,25,26,27,28] [o 28 (.bin .lss (t 27) (t 26))])
 (.seq (.after (.cond (t 28) (.skip) (.live [] (.exit 0))) [3,25,26,27])
 (.seq (.after (.block 1 (.seq (R [3,5,6,25,26,27] [v 29 27,o 30 (.iaddr 5 (t 25) (t 27)),o 31 (.load (some 5) (t 30)),o 6 (.lalloc [.str [],.int .i64 0,.int .i64 0,.slice none 0 (some 0),.slice none 0 (some 0)]),v 5 29,u (.store 5 (t 6) (t 31))])
 (.seq (.seq (R [3,5,6,25,26,27,34] [o 32 (.faddr (t 6) 1),o 33 (.load none (t 32)),o 34 (.bin .lss (t 33) (n 0))])
 (.after (.cond (t 34) (.live [3,25,26,27] (.exit 1)) (.skip)) [3,5,6,25,26,27]))
 (.seq (R [3,5,6,7,25,26,27] [o 35 (.faddr (t 3) 0),o 36 (.load none (t 35)),o 37 (.faddr (t 6) 1),o 38 (.load none (t 37)),o 39 (.iaddr 5 (t 36) (t 38)),o 40 (.load (some 5) (t 39)),o 7 (.lalloc [.str [],.int .i64 0,.int .i64 0,.slice none 0 (some 0),.slice none 0 (some 0)]),u (.store 5 (t 7) (t 40))])
 (.seq (.seq (.after (.region [⟨true,[],[o 41 (.faddr (t 6) 2),o 42 (.load none (t 41)),o 43 (.faddr (t 7) 2),o 44 (.load none (t 43))]⟩,⟨false,[],[o 45 (.bin .lss (t 42) (t 44)),v 46 45]⟩,⟨true,[],[g 47 46 false (.faddr (t 6) 3),g 48 46 false (.load none (t 47)),g 49 46 false (.len .sl (t 48)),g 50 46 false (.faddr (t 7) 3),g 51 46 false (.load none (t 50)),g 52 46 false (.len .sl (t 51))]⟩,⟨false,[],[g 53 46 false (.bin .lss (t 49) (t 52)),o 54 (.pick (t 46) Y (t 53)),v 55 54]⟩,⟨true,[],[g 56 55 false (.faddr (t 6) 4),g 57 55 false (.load none (t 56)),g 58 55 false (.len .sl (t 57)),g 59 55 false (.faddr (t 7) 4),g 60 55 false (.load none (t 59)),g 61 55 false (.len .sl (t 60))]⟩,⟨false,[],[g 62 55 false (.bin .lss (t 58) (t 61)),o 63 (.pick (t 55) Y (t 62)),v 64 63]⟩,⟨true,[],[g 65 64 false (.faddr (t 6) 3),g 66 64 false (.load none (t 65)),g 67 64 false (.faddr (t 7) 3),g 68 64 false (.load none (t 67)),g 69 64 false (.len .sl (t 68)),g 70 64 false (.slice (.sl 1) (t 66) none (some (t 69)) none),g 71 64 false (.faddr (t 7) 3),g 72 64 false (.load none (t 71))]⟩,⟨false,[],[g 73 64 false (.callg 58 [t 70,t 72]),g 74 64 false (.un .not (t 73)),o 75 (.pick (t 64) Y (t 74))]⟩]) [3,5,6,7,25,26,27,75])
 (.after (.cond (t 75) (.seq (R [2] [o 2 (.val F)])
 (.live [2] (.ret))) (.skip)) [3,5,6,7,25,26,27]))
 (.seq (R [3,5,6,25,26,27,77,78,79] [o 76 (.faddr (t 7) 4),o 77 (.load none (t 76)),o 78 (.len .sl (t 77)),o 79 (.val (n 0))])
 (.after (.block 2 (.loop code57L0)) [3,25,26,27]))))))) [3,25,26,27])
 (R [3,25,26,27] [o 125 (.bin .add (t 27) (n 1)),v 27 125]))))
def code57:AFunc:=⟨false,false,1,126,[.tmp 2],
 .seq (R [0] [o 2 (.val F)])
 (.seq (.seq (R [0,13] [o 12 (.callg 61 []),o 13 (.un .not (t 12))])
 (.after (.cond (t 13) (.seq (R [2] [o 2 (.val F)])
 (.live [2] (.ret))) (.skip)) [0]))
 (.seq (.seq (R [0,16] [v 14 0,o 15 (.callg 60 [t 14]),o 16 (.un .not (t 15))])
 (.after (.cond (t 16) (.seq (R [2] [o 2 (.val Y)])
 (.live [2] (.ret))) (.skip)) [0]))
 (.seq (R [3,4] [v 18 0,o 19 (.callg 59 [t 18]),v 17 19,o 20 (.extract (t 17) 0),o 21 (.extract (t 17) 1),o 3 (.lalloc [.slice none 0 (some 0),.slice none 0 (some 0),.int .i64 0,.slice none 0 (some 0)]),u (.store 4 (t 3) (t 20)),v 4 21])
 (.seq (.seq (R [3,23] [v 22 4,o 23 (.bin .neq (t 22) (n 0))])
 (.after (.cond (t 23) (.seq (R [2] [o 2 (.val Y)])
 (.live [2] (.ret))) (.skip)) [3]))
 (.seq (.seq (R [3,25,26,27] [o 24 (.faddr (t 3) 0),o 25 (.load none (t 24)),o 26 (.len .sl (t 25)),o 27 (.val (n 0))])
 (.after (.block 0 (.loop code57L1)) []))
 (.seq (R [2] [o 2 (.val Y)])
 (.live [2] (.ret)))))))),none⟩
def code58L0:ACode :=
 .live [0,1,12,13] (.seq (R [0,1,12,13,14] [o 14 (.bin .lss (t 13) (t 12))])
 (.seq (.after (.cond (t 14) (.skip) (.live [] (.exit 0))) [0,1,12,13])
 (.seq (.after (.block 1 (.seq (R [0,1,5,12,13] [v 15 13,v 5 15])
 (.seq (.after (.region [⟨true,[],[v 16 0,v 17 5,o 18 (.iaddr 1 (t 16) (t 17)),o 19 (.load none (t 18)),v 20 1,v 21 5,o 22 (.iaddr 1 (t 20) (t 21)),o 23 (.load none (t 22))]⟩,⟨false,[],[o 24 (.bin .neq (t 19) (t 23))]⟩]) [0,1,12,13,24])
 (.after (.cond (t 24) (.seq (R [4] [o 4 (.val F)])
 (.live [4] (.ret))) (.skip)) [0,1,12,13])))) [0,1,12,13])
 (R [0,1,12,13] [o 25 (.bin .add (t 13) (n 1)),v 13 25]))))
def code58:AFunc:=⟨false,false,2,26,[.tmp 4],
 .seq (R [0,1] [o 4 (.val F)])
 (.seq (.seq (R [0,1,10] [v 6 0,o 7 (.len .sl (t 6)),v 8 1,o 9 (.len .sl (t 8)),o 10 (.bin .neq (t 7) (t 9))])
 (.after (.cond (t 10) (.seq (R [4] [o 4 (.val F)])
 (.live [4] (.ret))) (.skip)) [0,1]))
 (.seq (.seq (R [0,1,12,13] [v 11 0,o 12 (.len .sl (t 11)),o 13 (.val (n 0))])
 (.after (.block 0 (.loop code58L0)) []))
 (.seq (R [4] [o 4 (.val Y)])
 (.live [4] (.ret))))),none⟩
def code59:AFunc:=⟨false,false,1,20,[.cell 2 (some 4),.tmp 3],
 .seq (R [0,2] [o 2 (.lalloc [.slice none 0 (some 0),.slice none 0 (some 0),.int .i64 0,.slice none 0 (some 0)]),o 3 (.val (n 0))])
 (.seq (.seq (R [0,2,5] [v 7 0,o 8 (.callg 49 [t 7]),v 6 8,o 9 (.extract (t 6) 0),o 10 (.extract (t 6) 1),v 4 9,v 5 10])
 (.seq (R [0,2,5,12] [v 11 5,o 12 (.bin .neq (t 11) (n 0))])
 (.after (.cond (t 12) (.seq (R [2,3] [o 13 (.build [.slice none 0 (some 0),.slice none 0 (some 0),.int .i64 0,.slice none 0 (some 0)] []),v 14 5,u (.store 4 (t 2) (t 13)),v 3 14])
 (.live [2,3] (.ret))) (.skip)) [0,2])))
 (.seq (R [2,3] [v 15 0,o 16 (.callg 116 [t 15]),o 17 (.nilcheck (t 16)),o 18 (.faddr (t 17) 0),o 19 (.load (some 4) (t 18)),u (.store 4 (t 2) (t 19)),o 3 (.val (n 0))])
 (.live [2,3] (.ret)))),none⟩
def code60L0:ACode :=
 .live [8,9,10] (.seq (R [8,9,10,11] [o 11 (.bin .lss (t 10) (t 9))])
 (.seq (.after (.cond (t 11) (.skip) (.live [] (.exit 0))) [8,9,10])
 (.seq (.after (.block 1 (.seq (R [4,8,9,10] [o 12 (.iaddr 4 (t 8) (t 10)),o 13 (.load (some 4) (t 12)),o 4 (.lalloc [.str [],.str [],.slice none 0 (some 0),.slice none 0 (some 0)]),u (.store 4 (t 4) (t 13))])
 (.seq (R [8,9,10,16] [o 14 (.load (some 4) (t 4)),o 15 (.callg 104 [t 14]),o 16 (.un .not (t 15))])
 (.after (.cond (t 16) (.seq (R [2] [o 2 (.val F)])
 (.live [2] (.ret))) (.skip)) [8,9,10])))) [8,9,10])
 (R [8,9,10] [o 17 (.bin .add (t 10) (n 1)),v 10 17]))))
def code60:AFunc:=⟨false,false,1,18,[.tmp 2],
 .seq (R [0] [o 2 (.val F)])
 (.seq (.seq (R [0,7] [v 5 0,o 6 (.len .sl (t 5)),o 7 (.bin .gtr (t 6) (n 35))])
 (.after (.cond (t 7) (.seq (R [2] [o 2 (.val F)])
 (.live [2] (.ret))) (.skip)) [0]))
 (.seq (.seq (R [8,9,10] [v 8 0,o 9 (.len .sl (t 8)),o 10 (.val (n 0))])
 (.after (.block 0 (.loop code60L0)) []))
 (.seq (R [2] [o 2 (.val Y)])
 (.live [2] (.ret))))),none⟩
def code61:AFunc:=⟨true,false,0,65,[.tmp 0],
 .seq (R [] [o 0 (.val F)])
 (.seq (R [1,2] [o 10 (.callg 59 [.const (.slice none 0 (some 0))]),v 9 10,o 11 (.extract (t 9) 0),o 12 (.extract (t 9) 1),o 1 (.lalloc [.slice none 0 (some 0),.slice none 0 (some 0),.int .i64 0,.slice none 0 (some 0)]),u (.store 4 (t 1) (t 11)),v 2 12])
 (.seq (R [1,2,4] [o 14 (.build [.str [],.str [],.slice none 0 (some 0),.slice none 0 (some 0)] [(0,1,.const (.str [115,121,115]))]),o 15 (.mkslice 4 1 [.str [],.str [],.slice none 0 (some 0),.slice none 0 (some 0)] [(0,4,t 14)]),o 16 (.callg 59 [t 15]),v 13 16,o 17 (.extract (t 13) 0),o 18 (.extract (t 13) 1),o 3 (.lalloc [.slice none 0 (some 0),.slice none 0 (some 0),.int .i64 0,.slice none 0 (some 0)]),u (.store 4 (t 3) (t 17)),v 4 18])
 (.seq (R [1,2,4,5,6] [o 20 (.load (some 4) (t 1)),o 21 (.callg 68 [t 20,.const (.str [115,121,115])]),v 19 21,o 22 (.extract (t 19) 0),o 23 (.extract (t 19) 1),v 5 22,v 6 23])
 (.seq (R [1,2,4,5,6,7,8] [o 25 (.load (some 4) (t 1)),o 26 (.callg 66 [t 25,.const (.str [115,121,115]),.const (.str [99,111,117,110,116]),.const (.str [40,41,73])]),v 24 26,o 27 (.extract (t 24) 0),o 28 (.extract (t 24) 1),v 7 27,v 8 28])
 (.seq (R [0] [v 29 2,o 30 (.bin .eql (t 29) (n 0)),v 31 30,g 32 31 true (.val (t 4)),g 33 31 true (.bin .eql (t 32) (n 15)),o 34 (.pick (t 31) (t 33) F),v 35 34,g 36 35 true (.faddr (t 1) 0),g 37 35 true (.load none (t 36)),g 38 35 true (.len .sl (t 37)),g 39 35 true (.bin .eql (t 38) (n 9)),o 40 (.pick (t 35) (t 39) F),v 41 40,g 42 41 true (.faddr (t 1) 1),g 43 41 true (.load none (t 42)),g 44 41 true (.len .sl (t 43)),g 45 41 true (.bin .eql (t 44) (n 8)),o 46 (.pick (t 41) (t 45) F),v 47 46,g 48 47 true (.val (t 6)),o 49 (.pick (t 47) (t 48) F),v 50 49,g 51 50 true (.val (t 5)),g 52 50 true (.bin .eql (t 51) (n 2)),o 53 (.pick (t 50) (t 52) F),v 54 53,g 55 54 true (.val (t 8)),o 56 (.pick (t 54) (t 55) F),v 57 56,g 58 57 true (.val (t 7)),g 59 57 true (.bin .eql (t 58) (n 7)),o 60 (.pick (t 57) (t 59) F),v 61 60,g 62 61 true (.load (some 4) (t 1)),g 63 61 true (.callg 56 [t 62,n 3,n 1]),o 64 (.pick (t 61) (t 63) F),v 0 64])
 (.live [0] (.ret))))))),none⟩
def code66:AFunc:=⟨false,false,4,27,[.tmp 8,.tmp 9],
 .seq (R [1,4,6,7] [o 4 (.box (t 0)),o 6 (.box (t 2)),o 7 (.box (t 3)),o 8 (.val (n 0)),o 9 (.val F)])
 (.seq (R [4,6,7,10,11] [o 14 (.load (some 4) (t 4)),v 15 1,o 16 (.callg 68 [t 14,t 15]),v 13 16,o 17 (.extract (t 13) 0),o 18 (.extract (t 13) 1),v 10 17,v 11 18])
 (.seq (.seq (R [4,6,7,10,20] [v 19 11,o 20 (.un .not (t 19))])
 (.after (.cond (t 20) (.seq (R [8,9] [o 8 (.val (n 0)),o 9 (.val F)])
 (.live [8,9] (.ret))) (.skip)) [4,6,7,10]))
 (.seq (R [4,6,7,10,12] [o 12 (.alloc 1 [.int .i64 0]),u (.store 1 (t 12) (n 0))])
 (.seq (R [11,12] [o 21 (.load (some 4) (t 4)),v 22 10,o 23 (.mkfunc 121 [] [t 4,t 6,t 7,t 12]),o 24 (.callg 118 [t 21,t 22,t 23]),v 11 24])
 (.seq (R [8,9] [o 25 (.load none (t 12)),v 26 11,v 8 25,v 9 26])
 (.live [8,9] (.ret))))))),none⟩
def code68:AFunc:=⟨false,false,2,15,[.tmp 4,.tmp 5],
 .seq (R [2,3] [o 2 (.lbox (t 0)),o 3 (.box (t 1)),o 4 (.val (n 0)),o 5 (.val F)])
 (.seq (R [6] [o 7 (.faddr (t 2) 0),o 8 (.load none (t 7)),o 9 (.mkfunc 119 [] [t 3]),o 10 (.callg 120 [t 8,t 9]),v 6 10])
 (.seq (R [4,5] [v 11 6,o 12 (.minmax true [t 11,n 0]),v 13 6,o 14 (.bin .geq (t 13) (n 0)),v 4 12,v 5 14])
 (.live [4,5] (.ret)))),none⟩
def code116L0:ACode :=
 .live [3,5,16,152,153] (.seq (R [3,5,16,152,153,154] [o 154 (.bin .lss (t 153) (t 152))])
 (.seq (.after (.cond (t 154) (.skip) (.live [3] (.exit 6))) [3,5,16,152,153])
 (.seq (.after (.block 7 (.seq (R [3,5,16,17,152,153] [v 155 153,v 17 155])
 (R [3,5,16,152,153] [v 156 3,v 157 17,v 158 5,v 159 16,o 160 (.callg 161 [t 156,t 157,t 158,t 159])]))) [3,5,16,152,153])
 (R [3,5,16,152,153] [o 161 (.bin .add (t 153) (n 1)),v 153 161]))))
def code116L1:ACode :=
 .live [3,4,5,108,109,110] (.seq (R [3,4,5,108,109,110,111] [o 111 (.bin .lss (t 110) (t 109))])
 (.seq (.after (.cond (t 111) (.skip) (.live [3,4,5] (.exit 4))) [3,4,5,108,109,110])
 (.seq (.after (.block 5 (.seq (R [3,4,5,13,108,109,110] [o 112 (.iaddr 4 (t 108) (t 110)),o 113 (.load (some 4) (t 112)),o 13 (.lalloc [.str [],.str [],.slice none 0 (some 0),.slice none 0 (some 0)]),u (.store 4 (t 13) (t 113))])
 (.seq (.after (.region [⟨true,[],[v 115 3,o 116 (.nilcheck (t 115)),o 117 (.faddr (t 116) 4),o 118 (.load none (t 117)),o 119 (.faddr (t 13) 1),o 120 (.load none (t 119))]⟩,⟨false,[],[o 121 (.ext (.lookup (.one .s) (.int .i64 0) true) [t 118,t 120]),v 114 121]⟩,⟨true,[],[o 122 (.extract (t 114) 0),o 123 (.extract (t 114) 1),v 14 122]⟩,⟨false,[],[v 15 123]⟩]) [3,4,5,13,14,15,108,109,110])
 (.seq (.seq (R [3,4,5,13,14,108,109,110,125] [v 124 15,o 125 (.un .not (t 124))])
 (.after (.cond (t 125) (R [3,4,5,13,14,108,109,110] [o 14 (.val (.const (.int .i64 (-1))))]) (.skip)) [3,4,5,13,14,108,109,110]))
 (.after (.region [⟨true,[0,0,2,6,14,30,0,64,0,448,960,2046],[v 126 3,v 127 3,o 128 (.nilcheck (t 127)),o 129 (.faddr (t 128) 0),o 130 (.faddr (t 129) 0),o 131 (.load none (t 130)),o 132 (.faddr (t 13) 0),o 133 (.load none (t 132)),v 134 14,o 135 (.build [.str [],.int .i64 0,.int .i64 0,.slice none 0 (some 0),.slice none 0 (some 0)] [(0,1,t 133),(1,1,t 134)]),o 136 (.mkslice 5 1 [.str [],.int .i64 0,.int .i64 0,.slice none 0 (some 0),.slice none 0 (some 0)] [(0,5,t 135)]),o 137 (.append 5 80 (t 131) (t 136))]⟩,⟨false,[],[o 138 (.nilcheck (t 126)),o 139 (.faddr (t 138) 0),o 140 (.faddr (t 139) 0),u (.store 1 (t 140) (t 137))]⟩]) [3,4,5,108,109,110]))))) [3,4,5,108,109,110])
 (R [3,4,5,108,109,110] [o 141 (.bin .add (t 110) (n 1)),v 110 141]))))
def code116L2:ACode :=
 .live [3,4,5,6,7,8,27,28,68,69,70] (.seq (R [3,4,5,6,7,8,27,28,68,69,70,71] [o 71 (.bin .lss (t 70) (t 69))])
 (.seq (.after (.cond (t 71) (.skip) (.live [3,4,5,6,8,27,28] (.exit 2))) [3,4,5,6,7,8,27,28,68,69,70])
 (.seq (.after (.block 3 (.seq (R [3,4,5,6,7,8,10,27,28,68,69,70] [o 72 (.iaddr 8 (t 68) (t 70)),o 73 (.load (some 8) (t 72)),o 10 (.lalloc [.bool false,.str [],.str [],.int .i64 0,.int .i64 0,.slice none 0 (some 0),.slice none 0 (some 0),.slice none 0 (some 0)]),u (.store 8 (t 10) (t 73))])
 (.seq (R [3,4,5,6,7,8,11,27,28,68,69,70] [v 74 7,o 75 (.faddr (t 10) 1),o 76 (.load none (t 75)),o 77 (.faddr (t 10) 2),o 78 (.load none (t 77)),o 79 (.faddr (t 10) 0),o 80 (.load none (t 79)),o 81 (.build [.int .i64 0,.str [],.str [],.bool false,.int .i64 0,.int .i64 0] [(0,1,t 74),(1,1,t 76),(2,1,t 78),(3,1,t 80),(4,1,.const (.int .i64 (-1))),(5,1,.const (.int .i64 (-1)))]),o 11 (.lalloc [.int .i64 0,.str [],.str [],.bool false,.int .i64 0,.int .i64 0]),u (.store 6 (t 11) (t 81))])
 (.seq (.seq (R [3,4,5,6,7,8,11,27,28,68,69,70,86] [v 82 8,o 83 (.nilcheck (t 82)),o 84 (.faddr (t 83) 0),o 85 (.load none (t 84)),o 86 (.bin .eql (t 85) (.const (.str [115,121,115])))])
 (.after (.cond (t 86) (.seq (R [3,4,5,6,7,8,11,27,28,68,69,70] [v 87 6,o 88 (.faddr (t 11) 5),u (.store 1 (t 88) (t 87))])
 (R [3,4,5,6,7,8,11,27,28,68,69,70] [v 89 6,o 90 (.bin .add (t 89) (n 1)),v 6 90])) (.skip)) [3,4,5,6,7,8,11,27,28,68,69,70]))
 (.after (.region [⟨true,[0,0,2,6,14,30,0,64,254],[v 91 3,v 92 3,o 93 (.nilcheck (t 92)),o 94 (.faddr (t 93) 0),o 95 (.faddr (t 94) 1),o 96 (.load none (t 95)),o 97 (.load (some 6) (t 11)),o 98 (.mkslice 6 1 [.int .i64 0,.str [],.str [],.bool false,.int .i64 0,.int .i64 0] [(0,6,t 97)]),o 99 (.append 6 64 (t 96) (t 98))]⟩,⟨false,[],[o 100 (.nilcheck (t 91)),o 101 (.faddr (t 100) 0),o 102 (.faddr (t 101) 1),u (.store 1 (t 102) (t 99))]⟩]) [3,4,5,6,7,8,27,28,68,69,70]))))) [3,4,5,6,7,8,27,28,68,69,70])
 (R [3,4,5,6,7,8,27,28,68,69,70] [o 103 (.bin .add (t 70) (n 1)),v 70 103]))))
def code116L3:ACode :=
 .live [3,4,5,6,27,28] (.seq (R [3,4,5,6,27,28,29] [o 29 (.bin .lss (t 28) (t 27))])
 (.seq (.after (.cond (t 29) (.skip) (.live [3,4,5] (.exit 0))) [3,4,5,6,27,28])
 (.seq (.after (.block 1 (.seq (R [3,4,5,6,7,27,28] [v 30 28,v 7 30])
 (.seq (R [3,4,5,6,7,8,27,28] [v 31 4,v 32 7,o 33 (.iaddr 4 (t 31) (t 32)),v 8 33])
 (.seq (.after (.region [⟨true,[0,1,3,7,0,16,48,112,0,256,768,1792,0,4096,12288,28672,0,0,65535,327679,917503,1966079,4063231],[v 34 3,o 35 (.nilcheck (t 34)),o 36 (.faddr (t 35) 4),o 37 (.load none (t 36)),v 38 8,o 39 (.nilcheck (t 38)),o 40 (.faddr (t 39) 0),o 41 (.load none (t 40)),v 42 3,o 43 (.nilcheck (t 42)),o 44 (.faddr (t 43) 7),o 45 (.load none (t 44)),v 46 8,o 47 (.nilcheck (t 46)),o 48 (.faddr (t 47) 0),o 49 (.load none (t 48)),v 50 7,v 51 8,o 52 (.ext (.mapentry (.one .s) (.int .i64 0)) [t 37,t 41]),o 53 (.extract (t 52) 1),u (.ext .entrystore [t 37,t 53,t 50]),o 54 (.ext (.mapentry (.one .s) (.ptr none)) [t 45,t 49]),o 55 (.extract (t 54) 1)]⟩,⟨false,[],[u (.ext .entrystore [t 45,t 55,t 51])]⟩]) [3,4,5,6,7,8,27,28])
 (.seq (R [3,4,5,6,7,8,27,28] [v 56 5,v 57 3,o 58 (.nilcheck (t 57)),o 59 (.faddr (t 58) 0),o 60 (.faddr (t 59) 1),o 61 (.load none (t 60)),o 62 (.len .sl (t 61)),o 63 (.mkslice 1 1 [.int .i64 0] [(0,1,t 62)]),o 64 (.append 1 8 (t 56) (t 63)),v 5 64])
 (.seq (.seq (R [3,4,5,6,7,8,27,28,68,69,70] [v 65 8,o 66 (.nilcheck (t 65)),o 67 (.faddr (t 66) 3),o 68 (.load none (t 67)),o 69 (.len .sl (t 68)),o 70 (.val (n 0))])
 (.after (.block 2 (.loop code116L2)) [3,4,5,6,8,27,28]))
 (R [3,4,5,6,27,28] [v 104 3,v 105 8,o 106 (.callg 285 [t 104,t 105])]))))))) [3,4,5,6,27,28])
 (R [3,4,5,6,27,28] [o 107 (.bin .add (t 28) (n 1)),v 28 107]))))
def code116:AFunc:=⟨false,false,1,163,[.tmp 2],
 .seq (R [0] [o 2 (.val (.const (.ptr none)))])
 (.seq (R [0,3] [o 18 (.ext .mkmap []),o 19 (.ext .mkmap []),o 20 (.ext .mkmap []),o 21 (.build [.slice none 0 (some 0),.slice none 0 (some 0),.int .i64 0,.slice none 0 (some 0),.map none,.slice none 0 (some 0),.map none,.map none] [(4,1,t 18),(6,1,t 19),(7,1,t 20)]),o 22 (.box (t 21)),v 3 22])
 (.seq (R [3,4] [o 23 (.callg 189 []),v 24 0,o 25 (.append 4 80 (t 23) (t 24)),v 4 25])
 (.seq (R [3,4,5] [o 5 (.val (.const (.slice none 0 (some 0))))])
 (.seq (R [3,4,5,6] [o 6 (.val (n 0))])
 (.seq (.seq (R [3,4,5,6,27,28] [v 26 4,o 27 (.len .sl (t 26)),o 28 (.val (n 0))])
 (.after (.block 0 (.loop code116L3)) [3,4,5]))
 (.seq (.seq (R [3,4,5,108,109,110] [v 108 4,o 109 (.len .sl (t 108)),o 110 (.val (n 0))])
 (.after (.block 4 (.loop code116L1)) [3,4,5]))
 (.seq (R [3,4,5] [v 142 3,v 143 4,o 144 (.len .sl (t 143)),o 145 (.make 1 8 [.map none] (t 144) (t 144)),o 146 (.nilcheck (t 142)),o 147 (.faddr (t 146) 5),u (.store 1 (t 147) (t 145))])
 (.seq (R [3,4,5,16] [v 148 4,o 149 (.len .sl (t 148)),o 150 (.make 1 1 [.bool false] (t 149) (t 149)),v 16 150])
 (.seq (.seq (R [3,5,16,152,153] [v 151 4,o 152 (.len .sl (t 151)),o 153 (.val (n 0))])
 (.after (.block 6 (.loop code116L0)) [3]))
 (.seq (R [2] [v 162 3,v 2 162])
 (.live [2] (.ret)))))))))))),none⟩
def code117:AFunc:=⟨false,false,2,7,[.tmp 3],
 .seq (R [0,1] [o 3 (.val F)])
 (.seq (R [3] [v 4 0,o 5 (.load none (t 1)),o 6 (.bin .eql (t 4) (t 5)),v 3 6])
 (.live [3] (.ret))),none⟩
def code118L0:ACode :=
 .live [1,2,3,9,10] (.seq (R [1,2,3,9,10,11] [o 11 (.bin .lss (t 10) (t 9))])
 (.seq (.after (.cond (t 11) (.skip) (.live [] (.exit 0))) [1,2,3,9,10])
 (.seq (.after (.block 1 (.seq (.seq (R [1,2,3,9,10,20] [v 12 1,o 13 (.bin .lss (t 12) (n 0)),v 14 13,g 15 14 false (.val (t 1)),g 16 14 false (.faddr (t 3) 0),g 17 14 false (.load none (t 16)),g 18 14 false (.len .sl (t 17)),g 19 14 false (.bin .geq (t 15) (t 18)),o 20 (.pick (t 14) Y (t 19))])
 (.after (.cond (t 20) (.seq (R [6] [o 6 (.val F)])
 (.live [6] (.ret))) (.skip)) [1,2,3,9,10]))
 (.seq (.seq (R [1,2,3,9,10,23] [v 21 2,v 22 1,o 23 (.call (t 21) [t 22])])
 (.after (.cond (t 23) (.seq (R [6] [o 6 (.val Y)])
 (.live [6] (.ret))) (.skip)) [1,2,3,9,10]))
 (R [1,2,3,9,10] [o 24 (.faddr (t 3) 0),o 25 (.load none (t 24)),v 26 1,o 27 (.iaddr 5 (t 25) (t 26)),o 28 (.faddr (t 27) 1),o 29 (.load none (t 28)),v 1 29])))) [1,2,3,9,10])
 (R [1,2,3,9,10] [o 30 (.bin .add (t 10) (n 1)),v 10 30]))))
def code118:AFunc:=⟨false,false,3,31,[.tmp 6],
 .seq (R [1,2,3] [o 3 (.lbox (t 0)),o 6 (.val F)])
 (.seq (.seq (R [1,2,3,9,10] [o 7 (.faddr (t 3) 0),o 8 (.load none (t 7)),o 9 (.len .sl (t 8)),o 10 (.val (n 0))])
 (.after (.block 0 (.loop code118L0)) []))
 (.seq (R [6] [o 6 (.val F)])
 (.live [6] (.ret)))),none⟩
def code119:AFunc:=⟨false,false,2,8,[.tmp 3],
 .seq (R [1,2] [o 2 (.lbox (t 0)),o 3 (.val F)])
 (.seq (R [3] [o 4 (.faddr (t 2) 0),o 5 (.load none (t 4)),o 6 (.load none (t 1)),o 7 (.bin .eql (t 5) (t 6)),v 3 7])
 (.live [3] (.ret))),none⟩
def code120L0:ACode :=
 .live [0,1,7,8] (.seq (R [0,1,7,8,9] [o 9 (.bin .lss (t 8) (t 7))])
 (.seq (.after (.cond (t 9) (.skip) (.live [] (.exit 0))) [0,1,7,8])
 (.seq (.after (.block 1 (.seq (R [0,1,5,7,8] [v 10 8,v 5 10])
 (.seq (R [0,1,5,7,8,16] [v 11 1,v 12 0,v 13 5,o 14 (.iaddr 5 (t 12) (t 13)),o 15 (.load (some 5) (t 14)),o 16 (.call (t 11) [t 15])])
 (.after (.cond (t 16) (.seq (R [4] [v 17 5,v 4 17])
 (.live [4] (.ret))) (.skip)) [0,1,7,8])))) [0,1,7,8])
 (R [0,1,7,8] [o 18 (.bin .add (t 8) (n 1)),v 8 18]))))
def code120:AFunc:=⟨false,false,2,19,[.tmp 4],
 .seq (R [0,1] [o 4 (.val (n 0))])
 (.seq (.seq (R [0,1,7,8] [v 6 0,o 7 (.len .sl (t 6)),o 8 (.val (n 0))])
 (.after (.block 0 (.loop code120L0)) []))
 (.seq (R [4] [o 4 (.val (.const (.int .i64 (-1))))])
 (.live [4] (.ret)))),none⟩
def code121:AFunc:=⟨false,false,5,16,[.tmp 6],
 .seq (R [1,2,3,4,5] [o 5 (.box (t 0)),o 6 (.val F)])
 (.seq (R [4,7] [o 8 (.faddr (t 1) 1),o 9 (.load none (t 8)),o 10 (.mkfunc 162 [] [t 5,t 2,t 3]),o 11 (.callg 163 [t 9,t 10]),v 7 11])
 (.seq (R [7] [v 12 7,o 13 (.minmax true [t 12,n 0]),u (.store 1 (t 4) (t 13))])
 (.seq (R [6] [v 14 7,o 15 (.bin .geq (t 14) (n 0)),v 6 15])
 (.live [6] (.ret))))),none⟩
def code161L0:ACode :=
 .live [0,1,2,8,10,110,111,112] (.seq (R [0,1,2,8,10,110,111,112,113] [o 113 (.bin .lss (t 112) (t 111))])
 (.seq (.after (.cond (t 113) (.skip) (.live [0,1,10] (.exit 2))) [0,1,2,8,10,110,111,112])
 (.seq (.after (.block 3 (.seq (R [0,1,2,8,10,14,15,110,111,112] [v 114 112,o 115 (.iaddr 8 (t 110) (t 112)),o 116 (.load (some 8) (t 115)),o 15 (.lalloc [.bool false,.str [],.str [],.int .i64 0,.int .i64 0,.slice none 0 (some 0),.slice none 0 (some 0),.slice none 0 (some 0)]),v 14 114,u (.store 8 (t 15) (t 116))])
 (.seq (.after (.region [⟨true,[],[v 117 0,o 118 (.nilcheck (t 117)),o 119 (.faddr (t 118) 0),o 120 (.faddr (t 119) 1),o 121 (.load none (t 120)),v 122 2,v 123 1,o 124 (.iaddr 1 (t 122) (t 123)),o 125 (.load none (t 124)),v 126 14,o 127 (.bin .add (t 125) (t 126))]⟩,⟨false,[],[o 128 (.iaddr 6 (t 121) (t 127)),v 16 128]⟩]) [0,1,2,8,10,14,15,16,110,111,112])
 (.seq (.seq (R [0,1,2,8,10,14,15,16,110,111,112,130] [o 129 (.faddr (t 15) 0),o 130 (.load none (t 129))])
 (.after (.cond (t 130) (.live [0,1,2,8,10,110,111,112] (.exit 3)) (.skip)) [0,1,2,8,10,14,15,16,110,111,112]))
 (.seq (R [0,1,2,8,10,14,15,16,17,18,110,111,112] [v 132 10,o 133 (.faddr (t 15) 1),o 134 (.load none (t 133)),o 135 (.faddr (t 15) 2),o 136 (.load none (t 135)),o 137 (.build [.str [],.str []] [(0,1,t 134),(1,1,t 136)]),o 138 (.ext (.lookup (.agg [.s,.s]) (.int .i64 0) true) [t 132,t 137]),v 131 138,o 139 (.extract (t 131) 0),o 140 (.extract (t 131) 1),v 17 139,v 18 140])
 (.seq (.seq (R [0,1,2,8,10,14,15,16,17,110,111,112,142] [v 141 18,o 142 (.un .not (t 141))])
 (.after (.cond (t 142) (.seq (R [0,1,2,8,10,14,15,16,17,110,111,112] [v 143 8,o 144 (.nilcheck (t 143)),o 145 (.faddr (t 144) 4),o 146 (.load none (t 145)),o 147 (.len .sl (t 146)),v 17 147])
 (.seq (R [0,1,2,8,10,14,16,17,110,111,112] [v 148 10,o 149 (.faddr (t 15) 1),o 150 (.load none (t 149)),o 151 (.faddr (t 15) 2),o 152 (.load none (t 151)),o 153 (.build [.str [],.str []] [(0,1,t 150),(1,1,t 152)]),v 154 17,u (.ext (.mapupd (.agg [.s,.s])) [t 148,t 153,t 154])])
 (R [0,1,2,8,10,14,16,17,110,111,112] [v 155 8,v 156 8,o 157 (.nilcheck (t 156)),o 158 (.faddr (t 157) 4),o 159 (.load none (t 158)),o 160 (.mkslice 1 1 [.int .i64 0] [(0,1,n 0)]),o 161 (.append 1 8 (t 159) (t 160)),o 162 (.nilcheck (t 155)),o 163 (.faddr (t 162) 4),u (.store 1 (t 163) (t 161))]))) (.skip)) [0,1,2,8,10,14,16,17,110,111,112]))
 (.seq (.after (.region [⟨true,[],[v 164 8,o 165 (.nilcheck (t 164)),o 166 (.faddr (t 165) 4),o 167 (.load none (t 166)),v 168 17,v 169 2,v 170 1,o 171 (.iaddr 1 (t 169) (t 170)),o 172 (.load none (t 171)),v 173 14,o 174 (.bin .add (t 172) (t 173))]⟩,⟨false,[],[o 175 (.iaddr 1 (t 167) (t 168)),u (.store 1 (t 175) (t 174))]⟩]) [0,1,2,8,10,16,17,110,111,112])
 (R [0,1,2,8,10,110,111,112] [v 176 16,v 177 17,o 178 (.nilcheck (t 176)),o 179 (.faddr (t 178) 4),u (.store 1 (t 179) (t 177))])))))))) [0,1,2,8,10,110,111,112])
 (R [0,1,2,8,10,110,111,112] [o 180 (.bin .add (t 112) (n 1)),v 112 180]))))
def code161L1:ACode :=
 .live [0,1,2,8,9,10,94] (.seq (.after (.seq (.next (some 95) (t 94)) (.region [⟨false,[],[o 96 (.extract (t 95) 0)]⟩])) [0,1,2,8,9,10,94,96])
 (.seq (.after (.cond (t 96) (.skip) (.live [0,1,2,8,9,10] (.exit 0))) [0,1,2,8,9,10,94])
 (.after (.block 1 (.seq (R [0,1,2,8,9,10,12,13,94] [o 97 (.ext .entry [t 94]),o 98 (.extract (t 97) 0),o 99 (.extract (t 97) 1),o 12 (.lalloc [.str [],.str []]),u (.store 2 (t 12) (t 98)),v 13 99])
 (R [0,1,2,8,9,10,94] [v 100 10,o 101 (.load (some 2) (t 12)),v 102 13,u (.ext (.mapupd (.agg [.s,.s])) [t 100,t 101,t 102])]))) [0,1,2,8,9,10,94])))
def code161:AFunc:=⟨false,true,4,188,[],
 .seq (.seq (R [0,1,2,3,22] [v 19 3,v 20 1,o 21 (.iaddr 1 (t 19) (t 20)),o 22 (.load none (t 21))])
 (.after (.cond (t 22) (.live [] (.ret)) (.skip)) [0,1,2,3]))
 (.seq (R [0,1,2,3] [v 23 3,v 24 1,o 25 (.iaddr 1 (t 23) (t 24)),u (.store 1 (t 25) Y)])
 (.seq (R [0,1,2,3,8] [v 26 0,o 27 (.nilcheck (t 26)),o 28 (.faddr (t 27) 0),o 29 (.faddr (t 28) 0),o 30 (.load none (t 29)),v 31 1,o 32 (.iaddr 5 (t 30) (t 31)),v 8 32])
 (.seq (.after (.region [⟨true,[],[v 33 0,o 34 (.nilcheck (t 33)),o 35 (.faddr (t 34) 7),o 36 (.load none (t 35)),v 37 8,o 38 (.nilcheck (t 37)),o 39 (.faddr (t 38) 0),o 40 (.load none (t 39))]⟩,⟨false,[],[o 41 (.ext (.lookup (.one .s) (.ptr none) false) [t 36,t 40]),v 9 41]⟩]) [0,1,2,3,8,9])
 (.seq (R [0,1,2,3,8,9,10] [o 42 (.ext .mkmap []),v 10 42])
 (.seq (.seq (R [0,1,2,3,8,9,10,47] [v 43 8,o 44 (.nilcheck (t 43)),o 45 (.faddr (t 44) 1),o 46 (.load none (t 45)),o 47 (.bin .geq (t 46) (n 0))])
 (.after (.cond (t 47) (.seq (R [0,1,2,8,9,10] [v 48 0,v 49 8,o 50 (.nilcheck (t 49)),o 51 (.faddr (t 50) 1),o 52 (.load none (t 51)),v 53 2,v 54 3,o 55 (.callg 161 [t 48,t 52,t 53,t 54])])
 (.seq (.after (.region [⟨true,[],[v 56 0,o 57 (.nilcheck (t 56)),o 58 (.faddr (t 57) 0),o 59 (.faddr (t 58) 0),o 60 (.load none (t 59)),v 61 8,o 62 (.nilcheck (t 61)),o 63 (.faddr (t 62) 1),o 64 (.load none (t 63)),o 65 (.iaddr 5 (t 60) (t 64)),o 66 (.load (some 5) (t 65)),o 11 (.lalloc [.str [],.int .i64 0,.int .i64 0,.slice none 0 (some 0),.slice none 0 (some 0)])]⟩,⟨false,[],[u (.store 5 (t 11) (t 66))]⟩]) [0,1,2,8,9,10,11])
 (.seq (.after (.region [⟨true,[0,0,0,0,8,0,32,96,0,256,992,2041,4089,8185,16379,32763,65531],[v 67 8,v 68 8,v 69 8,o 70 (.faddr (t 11) 2),o 71 (.load none (t 70)),o 72 (.faddr (t 11) 3),o 73 (.load none (t 72)),o 74 (.callg 211 [t 73]),o 75 (.faddr (t 11) 4),o 76 (.load none (t 75)),o 77 (.callg 211 [t 76]),o 78 (.nilcheck (t 67)),o 79 (.faddr (t 78) 2),u (.ext (.hstore 1) [t 79,t 71]),o 80 (.nilcheck (t 68)),o 81 (.faddr (t 80) 3),u (.ext (.hstore 1) [t 81,t 74])]⟩,⟨false,[],[o 82 (.nilcheck (t 69)),o 83 (.faddr (t 82) 4),u (.store 1 (t 83) (t 77))]⟩]) [0,1,2,8,9,10])
 (.seq (.after (.region [⟨true,[],[v 84 0,o 85 (.nilcheck (t 84)),o 86 (.faddr (t 85) 5),o 87 (.load none (t 86)),v 88 8,o 89 (.nilcheck (t 88)),o 90 (.faddr (t 89) 1),o 91 (.load none (t 90))]⟩,⟨false,[],[o 92 (.iaddr 1 (t 87) (t 91)),o 93 (.load none (t 92)),o 94 (.ext .mkiter [t 93])]⟩]) [0,1,2,8,9,10,94])
 (.after (.block 0 (.loop code161L1)) [0,1,2,8,9,10]))))) (.skip)) [0,1,2,8,9,10]))
 (.seq (R [0,1,2,8,9,10] [v 103 0,v 104 8,v 105 9,o 106 (.callg 286 [t 103,t 104,t 105])])
 (.seq (.seq (R [0,1,2,8,10,110,111,112] [v 107 9,o 108 (.nilcheck (t 107)),o 109 (.faddr (t 108) 3),o 110 (.load none (t 109)),o 111 (.len .sl (t 110)),o 112 (.val (n 0))])
 (.after (.block 2 (.loop code161L0)) [0,1,10]))
 (R [] [v 181 0,o 182 (.nilcheck (t 181)),o 183 (.faddr (t 182) 5),o 184 (.load none (t 183)),v 185 1,v 186 10,o 187 (.iaddr 1 (t 184) (t 185)),u (.store 1 (t 187) (t 186))])))))))),none⟩
def code162:AFunc:=⟨false,false,4,22,[.tmp 5],
 .seq (R [1,2,3,4] [o 4 (.lbox (t 0)),o 5 (.val F)])
 (.seq (R [5] [o 6 (.faddr (t 4) 0),o 7 (.load none (t 6)),o 8 (.load none (t 1)),o 9 (.bin .eql (t 7) (t 8)),v 10 9,g 11 10 true (.faddr (t 4) 1),g 12 10 true (.load none (t 11)),g 13 10 true (.load none (t 2)),g 14 10 true (.bin .eql (t 12) (t 13)),o 15 (.pick (t 10) (t 14) F),v 16 15,g 17 16 true (.faddr (t 4) 2),g 18 16 true (.load none (t 17)),g 19 16 true (.load none (t 3)),g 20 16 true (.bin .eql (t 18) (t 19)),o 21 (.pick (t 16) (t 20) F),v 5 21])
 (.live [5] (.ret))),none⟩
def code163L0:ACode :=
 .live [0,1,7,8] (.seq (R [0,1,7,8,9] [o 9 (.bin .lss (t 8) (t 7))])
 (.seq (.after (.cond (t 9) (.skip) (.live [] (.exit 0))) [0,1,7,8])
 (.seq (.after (.block 1 (.seq (R [0,1,5,7,8] [v 10 8,v 5 10])
 (.seq (R [0,1,5,7,8,16] [v 11 1,v 12 0,v 13 5,o 14 (.iaddr 6 (t 12) (t 13)),o 15 (.load (some 6) (t 14)),o 16 (.call (t 11) [t 15])])
 (.after (.cond (t 16) (.seq (R [4] [v 17 5,v 4 17])
 (.live [4] (.ret))) (.skip)) [0,1,7,8])))) [0,1,7,8])
 (R [0,1,7,8] [o 18 (.bin .add (t 8) (n 1)),v 8 18]))))
def code163:AFunc:=⟨false,false,2,19,[.tmp 4],
 .seq (R [0,1] [o 4 (.val (n 0))])
 (.seq (.seq (R [0,1,7,8] [v 6 0,o 7 (.len .sl (t 6)),o 8 (.val (n 0))])
 (.after (.block 0 (.loop code163L0)) []))
 (.seq (R [4] [o 4 (.val (.const (.int .i64 (-1))))])
 (.live [4] (.ret)))),none⟩
def code189L0:ACode :=
 .live [4,37,38,39] (.seq (R [4,37,38,39,40] [o 40 (.bin .lss (t 39) (t 38))])
 (.seq (.after (.cond (t 40) (.skip) (.live [4] (.exit 2))) [4,37,38,39])
 (.seq (.after (.block 3 (.seq (R [4,6,37,38,39] [o 41 (.iaddr 1 (t 37) (t 39)),o 42 (.load none (t 41)),v 6 42])
 (R [4,37,38,39] [v 43 4,v 44 6,o 45 (.build [.str [],.str [],.slice none 0 (some 0),.slice none 0 (some 0)] [(0,1,t 44),(1,1,.const (.str [84,104,114,111,119,97,98,108,101]))]),o 46 (.mkslice 4 1 [.str [],.str [],.slice none 0 (some 0),.slice none 0 (some 0)] [(0,4,t 45)]),o 47 (.append 4 80 (t 43) (t 46)),v 4 47]))) [4,37,38,39])
 (R [4,37,38,39] [o 48 (.bin .add (t 39) (n 1)),v 39 48]))))
def code189L1:ACode :=
 .live [1,16,17,18] (.seq (R [1,16,17,18,19] [o 19 (.bin .lss (t 18) (t 17))])
 (.seq (.after (.cond (t 19) (.skip) (.live [1] (.exit 0))) [1,16,17,18])
 (.seq (.after (.block 1 (.seq (R [1,3,16,17,18] [o 20 (.iaddr 2 (t 16) (t 18)),o 21 (.load (some 2) (t 20)),o 3 (.lalloc [.str [],.str []]),u (.store 2 (t 3) (t 21))])
 (R [1,16,17,18] [o 22 (.faddr (t 1) 3),o 23 (.load none (t 22)),o 24 (.aaddr 2 1 (t 3) (n 0)),o 25 (.load none (t 24)),o 26 (.aaddr 2 1 (t 3) (n 1)),o 27 (.load none (t 26)),o 28 (.build [.bool false,.str [],.str [],.int .i64 0,.int .i64 0,.slice none 0 (some 0),.slice none 0 (some 0),.slice none 0 (some 0)] [(0,1,.const (.bool true)),(1,1,t 25),(2,1,t 27)]),o 29 (.mkslice 8 1 [.bool false,.str [],.str [],.int .i64 0,.int .i64 0,.slice none 0 (some 0),.slice none 0 (some 0),.slice none 0 (some 0)] [(0,8,t 28)]),o 30 (.append 8 128 (t 23) (t 29)),o 31 (.faddr (t 1) 3),u (.store 1 (t 31) (t 30))]))) [1,16,17,18])
 (R [1,16,17,18] [o 32 (.bin .add (t 18) (n 1)),v 18 32]))))
def code189:AFunc:=⟨false,false,0,50,[.tmp 0],
 .seq (R [] [o 0 (.val (.const (.slice none 0 (some 0))))])
 (.seq (R [1] [o 7 (.build [.str [],.str [],.slice none 0 (some 0),.slice none 0 (some 0)] [(0,1,.const (.str [115,121,115])),(1,1,.const (.str [79,98,106,101,99,116]))]),o 1 (.lalloc [.str [],.str [],.slice none 0 (some 0),.slice none 0 (some 0)]),u (.store 4 (t 1) (t 7))])
 (.seq (.seq (R [1,16,17,18] [o 8 (.build [.str [],.str []] [(0,1,.const (.str [112,114,105,110,116])),(1,1,.const (.str [40,73,41,86]))]),o 9 (.build [.str [],.str []] [(0,1,.const (.str [112,114,105,110,116,76,111,110,103])),(1,1,.const (.str [40,74,41,86]))]),o 10 (.build [.str [],.str []] [(0,1,.const (.str [112,114,105,110,116,84,101,120,116])),(1,1,.const (.str [40,91,66,41,86]))]),o 11 (.build [.str [],.str []] [(0,1,.const (.str [97,100,100])),(1,1,.const (.str [40,91,66,41,73]))]),o 12 (.build [.str [],.str []] [(0,1,.const (.str [103,101,116])),(1,1,.const (.str [40,73,41,91,66]))]),o 13 (.build [.str [],.str []] [(0,1,.const (.str [115,101,116])),(1,1,.const (.str [40,73,91,66,41,86]))]),o 14 (.build [.str [],.str []] [(0,1,.const (.str [100,101,108])),(1,1,.const (.str [40,73,41,86]))]),o 15 (.build [.str [],.str []] [(0,1,.const (.str [99,111,117,110,116])),(1,1,.const (.str [40,41,73]))]),o 16 (.mkslice 2 8 [.str [],.str [],.str [],.str [],.str [],.str [],.str [],.str [],.str [],.str [],.str [],.str [],.str [],.str [],.str [],.str []] [(0,2,t 8),(2,2,t 9),(4,2,t 10),(6,2,t 11),(8,2,t 12),(10,2,t 13),(12,2,t 14),(14,2,t 15)]),o 17 (.len .sl (t 16)),o 18 (.val (n 0))])
 (.after (.block 0 (.loop code189L1)) [1]))
 (.seq (R [4] [o 33 (.build [.str [],.str [],.slice none 0 (some 0),.slice none 0 (some 0)] [(0,1,.const (.str [79,98,106,101,99,116]))]),o 34 (.build [.str [],.str [],.slice none 0 (some 0),.slice none 0 (some 0)] [(0,1,.const (.str [84,104,114,111,119,97,98,108,101])),(1,1,.const (.str [79,98,106,101,99,116]))]),o 35 (.load (some 4) (t 1)),o 36 (.mkslice 4 3 [.str [],.str [],.slice none 0 (some 0),.slice none 0 (some 0),.str [],.str [],.slice none 0 (some 0),.slice none 0 (some 0),.str [],.str [],.slice none 0 (some 0),.slice none 0 (some 0)] [(0,4,t 33),(4,4,t 34),(8,4,t 35)]),v 4 36])
 (.seq (.seq (R [4,37,38,39] [o 37 (.mkslice 1 6 [.str [],.str [],.str [],.str [],.str [],.str []] [(0,1,.const (.str [78,117,108,108,70,97,117,108,116])),(1,1,.const (.str [66,111,117,110,100,115,70,97,117,108,116])),(2,1,.const (.str [77,97,116,104,70,97,117,108,116])),(3,1,.const (.str [67,97,115,116,70,97,117,108,116])),(4,1,.const (.str [83,105,122,101,70,97,117,108,116])),(5,1,.const (.str [83,116,111,114,101,70,97,117,108,116]))]),o 38 (.len .sl (t 37)),o 39 (.val (n 0))])
 (.after (.block 2 (.loop code189L0)) [4]))
 (.seq (R [0] [v 49 4,v 0 49])
 (.live [0] (.ret))))))),none⟩
def code211:AFunc:=⟨false,false,1,8,[.tmp 2],
 .seq (R [0] [o 2 (.val (.const (.slice none 0 (some 0))))])
 (.seq (.seq (R [0,4] [v 3 0,o 4 (.eqnil .slice false (t 3) (.const (.slice none 0 (some 0))))])
 (.after (.cond (t 4) (.seq (R [2] [o 2 (.val (.const (.slice none 0 (some 0))))])
 (.live [2] (.ret))) (.skip)) [0]))
 (.seq (R [2] [o 5 (.mkslice 1 0 [] []),v 6 0,o 7 (.append 1 8 (t 5) (t 6)),v 2 7])
 (.live [2] (.ret)))),none⟩
def code285L0:ACode :=
 .live [0,1,9,10,11] (.seq (R [0,1,9,10,11,12] [o 12 (.bin .lss (t 11) (t 10))])
 (.seq (.after (.cond (t 12) (.skip) (.live [] (.exit 0))) [0,1,9,10,11])
 (.seq (.after (.block 1 (.seq (R [0,1,5,9,10,11] [o 13 (.iaddr 3 (t 9) (t 11)),o 14 (.load (some 3) (t 13)),o 5 (.lalloc [.bool false,.str [],.str []]),u (.store 3 (t 5) (t 14))])
 (.seq (.seq (R [0,1,5,9,10,11,17] [o 15 (.faddr (t 5) 0),o 16 (.load none (t 15)),o 17 (.un .not (t 16))])
 (.after (.cond (t 17) (.live [0,1,9,10,11] (.exit 1)) (.skip)) [0,1,5,9,10,11]))
 (.seq (.seq (R [0,1,5,9,10,11,20] [o 18 (.faddr (t 5) 2),o 19 (.load none (t 18)),o 20 (.callg 30 [t 19])])
 (.after (.cond (t 20) (.after (.region [⟨true,[0,0,2,6,14,30,0,64,192,448,960,1984,4094],[v 21 0,v 22 0,o 23 (.nilcheck (t 22)),o 24 (.faddr (t 23) 0),o 25 (.faddr (t 24) 3),o 26 (.load none (t 25)),v 27 0,o 28 (.nilcheck (t 27)),o 29 (.faddr (t 28) 0),o 30 (.faddr (t 29) 2),o 31 (.load none (t 30)),o 32 (.mkslice 1 1 [.int .i64 0] [(0,1,t 31)]),o 33 (.append 1 8 (t 26) (t 32))]⟩,⟨false,[],[o 34 (.nilcheck (t 21)),o 35 (.faddr (t 34) 0),o 36 (.faddr (t 35) 3),u (.store 1 (t 36) (t 33))]⟩]) [0,1,5,9,10,11]) (.skip)) [0,1,5,9,10,11]))
 (.seq (.after (.region [⟨true,[],[v 37 0,o 38 (.nilcheck (t 37)),o 39 (.faddr (t 38) 6),o 40 (.load none (t 39)),v 41 1,o 42 (.nilcheck (t 41)),o 43 (.faddr (t 42) 0),o 44 (.load none (t 43)),o 45 (.faddr (t 5) 1),o 46 (.load none (t 45)),o 47 (.faddr (t 5) 2),o 48 (.load none (t 47)),o 49 (.build [.str [],.str [],.str []] [(0,1,t 44),(1,1,t 46),(2,1,t 48)]),v 50 0,o 51 (.nilcheck (t 50)),o 52 (.faddr (t 51) 0),o 53 (.faddr (t 52) 2),o 54 (.load none (t 53))]⟩,⟨false,[],[u (.ext (.mapupd (.agg [.s,.s,.s])) [t 40,t 49,t 54])]⟩]) [0,1,9,10,11])
 (R [0,1,9,10,11] [v 55 0,o 56 (.nilcheck (t 55)),o 57 (.faddr (t 56) 0),o 58 (.faddr (t 57) 2),o 59 (.load none (t 58)),o 60 (.bin .add (t 59) (n 1)),o 61 (.nilcheck (t 55)),o 62 (.faddr (t 61) 0),o 63 (.faddr (t 62) 2),u (.store 1 (t 63) (t 60))])))))) [0,1,9,10,11])
 (R [0,1,9,10,11] [o 64 (.bin .add (t 11) (n 1)),v 11 64]))))
def code285:AFunc:=⟨false,false,2,65,[],
 .seq (R [0,1,9,10,11] [v 6 1,o 7 (.nilcheck (t 6)),o 8 (.faddr (t 7) 2),o 9 (.load none (t 8)),o 10 (.len .sl (t 9)),o 11 (.val (n 0))])
 (.after (.block 0 (.loop code285L0)) []),none⟩
def code286L0:ACode :=
 .live [0,1,2,12,13,14] (.seq (R [0,1,2,12,13,14,15] [o 15 (.bin .lss (t 14) (t 13))])
 (.seq (.after (.cond (t 15) (.skip) (.live [] (.exit 0))) [0,1,2,12,13,14])
 (.seq (.after (.block 1 (.seq (R [0,1,2,7,12,13,14] [o 16 (.iaddr 3 (t 12) (t 14)),o 17 (.load (some 3) (t 16)),o 7 (.lalloc [.bool false,.str [],.str []]),u (.store 3 (t 7) (t 17))])
 (.seq (.after (.region [⟨true,[],[v 18 2,o 19 (.nilcheck (t 18)),o 20 (.faddr (t 19) 0),o 21 (.load none (t 20)),o 22 (.faddr (t 7) 1),o 23 (.load none (t 22)),o 24 (.faddr (t 7) 2),o 25 (.load none (t 24)),o 26 (.build [.str [],.str [],.str []] [(0,1,t 21),(1,1,t 23),(2,1,t 25)]),o 8 (.lalloc [.str [],.str [],.str []])]⟩,⟨false,[],[u (.store 3 (t 8) (t 26))]⟩]) [0,1,2,7,8,12,13,14])
 (.seq (.seq (R [0,1,2,7,8,12,13,14,28] [o 27 (.faddr (t 7) 0),o 28 (.load none (t 27))])
 (.after (.cond (t 28) (.live [0,1,2,12,13,14] (.exit 1)) (.skip)) [0,1,2,7,8,12,13,14]))
 (.seq (.seq (R [0,1,2,8,12,13,14,31] [o 29 (.faddr (t 7) 2),o 30 (.load none (t 29)),o 31 (.callg 30 [t 30])])
 (.after (.cond (t 31) (.after (.region [⟨true,[0,0,2,6,14,0,32,96,224,480,1022],[v 32 1,v 33 1,o 34 (.nilcheck (t 33)),o 35 (.faddr (t 34) 3),o 36 (.load none (t 35)),v 37 1,o 38 (.nilcheck (t 37)),o 39 (.faddr (t 38) 2),o 40 (.load none (t 39)),o 41 (.mkslice 1 1 [.int .i64 0] [(0,1,t 40)]),o 42 (.append 1 8 (t 36) (t 41))]⟩,⟨false,[],[o 43 (.nilcheck (t 32)),o 44 (.faddr (t 43) 3),u (.store 1 (t 44) (t 42))]⟩]) [0,1,2,8,12,13,14]) (.skip)) [0,1,2,8,12,13,14]))
 (.seq (.after (.region [⟨true,[],[v 45 0,o 46 (.nilcheck (t 45)),o 47 (.faddr (t 46) 6),o 48 (.load none (t 47)),o 49 (.load (some 3) (t 8)),v 50 1,o 51 (.nilcheck (t 50)),o 52 (.faddr (t 51) 2),o 53 (.load none (t 52))]⟩,⟨false,[],[u (.ext (.mapupd (.agg [.s,.s,.s])) [t 48,t 49,t 53])]⟩]) [0,1,2,12,13,14])
 (R [0,1,2,12,13,14] [v 54 1,o 55 (.nilcheck (t 54)),o 56 (.faddr (t 55) 2),o 57 (.load none (t 56)),o 58 (.bin .add (t 57) (n 1)),o 59 (.nilcheck (t 54)),o 60 (.faddr (t 59) 2),u (.store 1 (t 60) (t 58))]))))))) [0,1,2,12,13,14])
 (R [0,1,2,12,13,14] [o 61 (.bin .add (t 14) (n 1)),v 14 61]))))
def code286:AFunc:=⟨false,false,3,62,[],
 .seq (R [0,1,2,12,13,14] [v 9 2,o 10 (.nilcheck (t 9)),o 11 (.faddr (t 10) 2),o 12 (.load none (t 11)),o 13 (.len .sl (t 12)),o 14 (.val (n 0))])
 (.after (.block 0 (.loop code286L0)) []),none⟩
def T:Nat→Option AFunc:=fun g=>match AbsHier.T g with
 | some f=>some f
 | none=>List.lookup g [(56,code56),(57,code57),(58,code58),(59,code59),(60,code60),(61,code61),(66,code66),(68,code68),(116,code116),(117,code117),(118,code118),(119,code119),(120,code120),(121,code121),(161,code161),(162,code162),(163,code163),(189,code189),(211,code211),(285,code285),(286,code286)]
theorem sub:∀ g f,AbsHier.T g=some f→T g=some f:=fun g f h=>by unfold T; rw [h]
theorem t56:T 56=some code56:=rfl
theorem t57:T 57=some code57:=rfl
theorem t58:T 58=some code58:=rfl
theorem t59:T 59=some code59:=rfl
theorem t60:T 60=some code60:=rfl
theorem t61:T 61=some code61:=rfl
theorem t66:T 66=some code66:=rfl
theorem t68:T 68=some code68:=rfl
theorem t116:T 116=some code116:=rfl
theorem t117:T 117=some code117:=rfl
theorem t118:T 118=some code118:=rfl
theorem t119:T 119=some code119:=rfl
theorem t120:T 120=some code120:=rfl
theorem t121:T 121=some code121:=rfl
theorem t161:T 161=some code161:=rfl
theorem t162:T 162=some code162:=rfl
theorem t163:T 163=some code163:=rfl
theorem t189:T 189=some code189:=rfl
theorem t211:T 211=some code211:=rfl
theorem t285:T 285=some code285:=rfl
theorem t286:T 286=some code286:=rfl
end Go.Abs.AbsSlot

namespace Go.Abs.AbsSlot
open Go.Abs.AbsDesc Go.Abs.AbsHier
variable {os O:List AObj} {b w:Nat}
theorem i7 {cs L:List AVal} {m e k:Nat} (h:List.take e (List.drop m cs)=L) (hk:k < e):cs[m+k]? = L[k]?:=by
 rw [← h,ed hk,dz]
def idxV (r:Option Nat):AVal:=.tuple [.int .i64 (r.getD 0),.bool r.isSome]
def clsI (C:List LClsU) (n:Str):Option Nat:=C.findIdx? fun c=>decide (c.name=n)
section
attribute [-simp] getElem?_pos getElem?_neg List.all_eq_true
attribute [local simp] gz gs nltT nltF iltT iltF ileT nleT dh
theorem s119 {N:Nat} {x:LClsU} {n:Str} (hN:O[N]? = some (.cells 1 [.str n])):xCall T 119 [.agg x.cells,.ptr (some (N,0))] ⟨O,b,w⟩=some (.bool (decide (x.name=n)),⟨O,b,w⟩):=by
 have hcu:x.cells=[.str x.name,.int .i64 x.super,.int .i64 x.cells',.slice x.ra x.refs.length x.rc,.slice x.ta x.table.length x.tc]:=rfl
 simp (disch:=omega) [cd t119,code119,hcu,hN]
theorem l120 {N:Nat} {n:Str} {C:List LClsU} {a:Option (Nat × Nat)} {c:Option Nat} (hR:Row O 5 LClsU.cells C a) (hl:C.length≤big) (hN:O[N]? = some (.cells 1 [.str n])):∀ (j i:Nat) (w:Nat),i+j=C.length→∀ (k:AExit→St→Option (AVal × Heap)),
  xK T (.loop code120L0) ⟨[(0,.val (.slice a C.length c)),(1,.val (.func 119 [] [.ptr (some (N,0))])),(7,.val (.int .i64 C.length)),(8,.val (.int .i64 i))],⟨O,b,w⟩⟩ (k:=⟨k⟩) =
  match clsI (C.drop i) n with
  | some q=>k .ret ⟨[(4,.val (.int .i64 ((i+q:Nat):Int)))],⟨O,b,w⟩⟩
  | none=>k (.exit 0) ⟨[],⟨O,b,w⟩⟩
 | 0,i,w,hi,k=>by
  rw [bl,bq (by omega)]
  simp (disch:=omega) [code120L0,clsI]
 | j+1,i,w,hi,k=>by
  have hl':C.length≤9223372036854775807:=hl
  obtain ⟨u,hu⟩:∃ u,C[i]? = some u:=⟨_,ag (by omega)⟩
  obtain ⟨p,o,cs,rfl,hpp,hpl,hcs,ht⟩:=g7 hR hu
  have hd:C.drop i=u :: C.drop (i+1):=by
   have:=aj hu
   rw [ag this] at hu
   rw [dq this,b9 hu]
  have ih:=l120 (c:=c) hR hl hN j (i+1) w (by omega) k
  have e2:((i+1:Nat):Int)=(i:Int)+1:=by omega
  rw [e2] at ih
  have h119:=fun w=>s119 (b:=b) (w:=w) (x:=u) hN
  have hcu:u.cells=[.str u.name,.int .i64 u.super,.int .i64 u.cells',.slice u.ra u.refs.length u.rc,.slice u.ta u.table.length u.tc]:=rfl
  rw [hcu] at ht h119
  rw [bl,hd]
  unfold clsI at ih ⊢
  rw [List.findIdx?_cons]
  by_cases e:u.name=n
  ·have hd1:decide (u.name=n)=true:=decide_eq_true e
   simp only [hd1,if_true,ef] at h119 ⊢
   generalize ACode.loop code120L0=L
   simp (disch:=omega) [code120L0,hpp,ht,hcu,callVal,h119]
  ·have hd1:decide (u.name=n)=false:=decide_eq_false e
   simp only [hd1] at h119 ⊢
   generalize ACode.loop code120L0=L at ih ⊢
   simp (disch:=omega) [code120L0,hpp,ht,hcu,callVal,h119,ih]
   cases List.findIdx? _ _ with
   | none=>rfl
   | some q =>
    simp only [bi,av,if_false]
    rw [show (i:Int)+1+(q:Int)=(i:Int)+((q+1:Nat):Int) by omega]
theorem s68 {x:LayU} {n:Str} (hx:x.ok O) (hb:b≤O.length):xCall T 68 [.agg x.cells,.str n] ⟨O,b,w⟩=some (idxV (clsI x.cs n),⟨O,b,w⟩):=by
 have hcu:x.cells=[.slice x.ca x.cs.length x.cc,.slice x.ma x.ms.length x.mc,.int .i64 x.stat,.slice x.ra x.refs.length x.rc]:=rfl
 have h1:=fun w=>l120 (O:=O++[.cells 1 [.str n]]) (b:=b) (c:=x.cc) (N:=O.length) (n:=n) ((Pre.app O _).row hx.c) (ia hx.cn) (by rw [fk]; rfl) x.cs.length 0 w (by omega)
 simp only [bf,d8,bt] at h1
 have hc:x.cs.length≤9223372036854775807:=ia hx.cn
 have hlt:=fun q (h:clsI x.cs n=some q)=>(List.findIdx?_eq_some_iff_findIdx_eq.1 h).1
 cases hq:clsI x.cs n with
 | none =>
  rw [hq] at h1
  simp (disch:=omega) [cd t68,code68,code120,cd t120,hcu,h1,idxV]
 | some q =>
  rw [hq] at h1
  have:=hlt q hq
  simp (disch:=omega) [cd t68,code68,code120,cd t120,hcu,h1,idxV]
end
def atI (C:List LClsU) (c:Int):Option LClsU:=if 0≤c then C[c.toNat]? else none
def lineX (C:List LClsU):Nat→Int→List Int
 | 0,_=>[]
 | k+1,c=>match atI C c with
  | some x=>c :: lineX C k x.super
  | none=>[]
def runE {σ:Type} (step:σ→Int→σ × Bool):σ→List Int→σ × Bool
 | s,[]=>(s,false)
 | s,c :: r=>match step s c with
  | (y,true)=>(y,true)
  | (y,false)=>runE step y r
theorem atI_cases (C:List LClsU) (c:Int):(atI C c=none∧(c < 0∨¬ c < 0∧(C.length:Int)≤c))∨∃ (k:Nat) (x:LClsU),c=k∧k < C.length∧C[k]? = some x∧atI C c=some x:=by
 unfold atI
 by_cases h:0≤c
 ·rw [if_pos h]
  by_cases h2:c.toNat < C.length
  ·exact .inr ⟨c.toNat,C[c.toNat],by omega,h2,ag h2,ag h2⟩
  ·exact .inl ⟨by rw [fz]; omega,.inr ⟨by omega,by omega⟩⟩
 ·exact .inl ⟨by rw [if_neg h],.inl (by omega)⟩
section
variable {σ:Type} {B:σ→List AObj} {g lo len:Nat} {caps:List AVal} {step:σ→Int→σ × Bool} {C:List LClsU} {a:Option (Nat × Nat)} {c:Option Nat} {x1 x2 x3:AVal}
section
attribute [-simp] getElem?_pos getElem?_neg List.all_eq_true
attribute [local simp] gz gs nltT nltF iltT iltF ileT nleT dh
theorem l118 (hR:∀ s,Row (B s) 5 LClsU.cells C a) (hl:C.length≤big)
  (hg:∀ s z w,lo≤w→∃ w',lo≤w'∧w'≤w∧(B (step s z).1=B s∨w' < len)∧xCall T g (.int .i64 z :: caps) ⟨B s,b,w⟩=some (.bool (step s z).2,⟨B (step s z).1,b,w'⟩)):∀ (j i:Nat) (s:σ) (z:Int) (w:Nat),i+j=C.length→lo≤w →
  ∃ w' e s',lo≤w'∧w'≤w∧(B (runE step s (lineX C j z)).1=B s∨w' < len)∧(e = .ret∧s'=[(6,.val (.bool (runE step s (lineX C j z)).2))]∨e = .exit 0∧s'=[]∧(runE step s (lineX C j z)).2=false)∧∀ (k:AExit→St→Option (AVal × Heap)),
   xK T (.loop code118L0) ⟨[(1,.val (.int .i64 z)),(2,.val (.func g [] caps)),(3,.var [.slice a C.length c,x1,x2,x3]),(9,.val (.int .i64 C.length)),(10,.val (.int .i64 i))],⟨B s,b,w⟩⟩ (k:=⟨k⟩) =
    k e ⟨s',⟨B (runE step s (lineX C j z)).1,b,w'⟩⟩
 | 0,i,s,z,w,hi,hw=>by
  refine ⟨w,.exit 0,[],hw,ak _,.inl rfl,.inr ⟨rfl,rfl,rfl⟩,fun k=>?_⟩
  rw [bl]
  simp (disch:=omega) [code118L0,lineX,runE]
 | j+1,i,s,z,w,hi,hw=>by
  have hl':C.length≤9223372036854775807:=hl
  rcases atI_cases C z with ⟨h1,h2⟩ | ⟨q,x,rfl,h1,h2,h3⟩
  ·refine ⟨w,.ret,[(6,.val (.bool false))],hw,ak _,.inl (by simp only [lineX,h1,runE]),.inl ⟨rfl,by simp only [lineX,h1,runE]⟩,fun k=>?_⟩
   rw [bl]
   generalize ACode.loop code118L0=L
   rcases h2 with h2 | ⟨h2,h3⟩
   ·simp (disch:=omega) [code118L0,lineX,h1,runE,h2]
   ·simp (disch:=omega) [code118L0,lineX,h1,runE,h2,h3]
  ·obtain ⟨w1,hw1,hww,hch,hx⟩:=hg s q w hw
   have n1:¬ ((q:Int) < 0):=by omega
   have n2:¬ ((C.length:Int)≤q):=by omega
   cases hs:step s q with
   | mk y e =>
    rw [hs] at hx hch
    simp only at hx hch
    cases e with
    | true =>
     refine ⟨w1,.ret,[(6,.val (.bool true))],hw1,hww,by simp only [lineX,h3,runE,hs]; exact hch,.inl ⟨rfl,by simp only [lineX,h3,runE,hs]⟩,fun k=>?_⟩
     rw [bl]
     generalize ACode.loop code118L0=L
     simp (disch:=omega) [code118L0,lineX,h3,runE,hs,n1,n2,callVal,hx]
    | false =>
     obtain ⟨p,o,cs,ha,hpp,hpl,hcs,ht⟩:=g7 (hR y) h2
     have hcu:x.cells=[.str x.name,.int .i64 x.super,.int .i64 x.cells',.slice x.ra x.refs.length x.rc,.slice x.ta x.table.length x.tc]:=rfl
     rw [hcu] at ht
     obtain ⟨w',e,s',hw',hw2,hch2,he,ih⟩:=l118 hR hl hg j (i+1) y x.super w1 (by omega) hw1
     have hrun:runE step s (lineX C (j+1) (q:Int))=runE step y (lineX C j x.super):=by simp only [lineX,h3,runE,hs]
     refine ⟨w',e,s',hw',by omega,?_,by rw [hrun]; exact he,fun k=>?_⟩
     ·rw [hrun]
      rcases hch2 with h5 | h5
      ·rcases hch with h6 | h6
       ·exact .inl (h5.trans h6)
       ·exact .inr (by omega)
      ·exact .inr h5
     rw [hrun]
     have ih:=ih k
     have e2:((i+1:Nat):Int)=(i:Int)+1:=by omega
     rw [e2] at ih
     have ht1:=i7 (k:=1) ht (by decide)
     simp only [gz,gs] at ht1
     rw [bl]
     generalize ACode.loop code118L0=L at ih ⊢
     subst ha
     simp (disch:=omega) [code118L0,n1,n2,callVal,hx,hpp,ht1,ih]
theorem s118 {x:LayU} (hR:∀ s,Row (B s) 5 LClsU.cells x.cs x.ca) (hl:x.cs.length≤reachB) (hll:lo≤len)
  (hg:∀ s z w,lo≤w→∃ w',lo≤w'∧w'≤w∧(B (step s z).1=B s∨w' < len)∧xCall T g (.int .i64 z :: caps) ⟨B s,b,w⟩=some (.bool (step s z).2,⟨B (step s z).1,b,w'⟩)) (s:σ) (hlo:(B s).length=len) (z:Int) (w:Nat) :
  ∃ w',min w lo≤w'∧xCall T 118 [.agg x.cells,.int .i64 z,.func g [] caps] ⟨B s,b,w⟩=some (.bool (runE step s (lineX x.cs x.cs.length z)).2,⟨B (runE step s (lineX x.cs x.cs.length z)).1,b,w'⟩):=by
 have hcu:x.cells=[.slice x.ca x.cs.length x.cc,.slice x.ma x.ms.length x.mc,.int .i64 x.stat,.slice x.ra x.refs.length x.rc]:=rfl
 obtain ⟨w',e,s',hw',hw2,hch,he,h1⟩:=l118 (c:=x.cc) (x1:=.slice x.ma x.ms.length x.mc) (x2:=.int .i64 x.stat) (x3:=.slice x.ra x.refs.length x.rc) hR (ia hl) hg x.cs.length 0 s z len (by omega) hll
 simp only [bf] at h1
 have hc:x.cs.length≤9223372036854775807:=ia hl
 refine ⟨if w' < len then min w w' else w,by split <;> omega,?_⟩
 rcases he with ⟨rfl,rfl⟩ | ⟨rfl,rfl,h2⟩
 ·simp (disch:=omega) [cd t118,code118,hcu,hlo,h1]
  by_cases h9:w' < len
  ·simp [h9]
  ·rcases hch with h8 | h8
   ·simp [h9,h8]
   ·exact absurd h8 h9
 ·rw [h2]
  simp (disch:=omega) [cd t118,code118,hcu,hlo,h1]
  by_cases h9:w' < len
  ·simp [h9]
  ·rcases hch with h8 | h8
   ·simp [h9,h8]
   ·exact absurd h8 h9
end
end
end Go.Abs.AbsSlot

namespace Go.Abs.AbsSlot
open Go.Abs.AbsDesc Go.Abs.AbsHier
variable {os O:List AObj} {b w:Nat}
theorem s117 {N:Nat} {z y:Int} (hN:O[N]? = some (.cells 1 [.int .i64 y])):xCall T 117 [.int .i64 z,.ptr (some (N,0))] ⟨O,b,w⟩=some (.bool (decide (z=y)),⟨O,b,w⟩):=by
 simp (disch:=omega) [-getElem?_pos,-getElem?_neg,-List.all_eq_true,gz,gs,nltT,nltF,iltT,iltF,ileT,nleT,dh,cd t117,code117,hN]
theorem runE_any {σ:Type} {step:σ→Int→σ × Bool} {p:Int→Bool} (hs:∀ s z,(step s z).2=p z):∀ (L:List Int) (s:σ),(runE step s L).2=L.any p
 | [],s=>rfl
 | c :: r,s=>by
  have h1:=hs s c
  simp only [runE,List.any_cons]
  cases h:step s c with
  | mk y e =>
   rw [h] at h1
   cases e with
   | true=>simp only [← h1,Bool.true_or]
   | false=>simp only [← h1,Bool.false_or]; exact runE_any hs r y
theorem s56 {x:LayU} {z y:Int} (hx:x.ok O) (hb:b≤O.length):xCall T 56 [.agg x.cells,.int .i64 z,.int .i64 y] ⟨O,b,w⟩=some (.bool ((lineX x.cs x.cs.length z).any fun c=>decide (c=y)),⟨O,b,w⟩):=by
 have hcu:x.cells=[.slice x.ca x.cs.length x.cc,.slice x.ma x.ms.length x.mc,.int .i64 x.stat,.slice x.ra x.refs.length x.rc]:=rfl
 obtain ⟨w',hw',h1⟩:=s118 (B:=fun _:Unit=>O++[.cells 1 [.int .i64 y]]) (b:=b) (g:=117) (caps:=[.ptr (some (O.length,0))]) (step:=fun _ c=>((),decide (c=y))) (x:=x) (lo:=O.length) (len:=O.length+1)
  (fun _=>(Pre.app O _).row hx.c) hx.cn (by omega) (fun _ q w hw=>⟨w,hw,ak _,.inl rfl,s117 (by rw [fk]; rfl)⟩) () (by simp) z O.length
 rw [runE_any (p:=fun c=>decide (c=y)) (fun _ _=>rfl)] at h1
 have hw2:O.length≤w':=by omega
 rw [hcu] at h1
 simp (disch:=omega) [-getElem?_pos,-getElem?_neg,-List.all_eq_true,gz,gs,nltT,nltF,iltT,iltF,ileT,nleT,dh,cd t56,code56,hcu,h1]
def mtI (M:List LMethU) (c:Int) (n d:Str):Option Nat:=M.findIdx? fun m=>decide (m.cls=c) && decide (m.name=n) && decide (m.desc=d)
section
attribute [-simp] getElem?_pos getElem?_neg List.all_eq_true
attribute [local simp] gz gs nltT nltF iltT iltF ileT nleT dh
theorem s162 {N P Q:Nat} {m:LMethU} {c:Int} {n d:Str} (hN:O[N]? = some (.cells 1 [.int .i64 c])) (hP:O[P]? = some (.cells 1 [.str n])) (hQ:O[Q]? = some (.cells 1 [.str d])) :
  xCall T 162 [.agg m.cells,.ptr (some (N,0)),.ptr (some (P,0)),.ptr (some (Q,0))] ⟨O,b,w⟩=some (.bool (decide (m.cls=c) && decide (m.name=n) && decide (m.desc=d)),⟨O,b,w⟩):=by
 have hcu:m.cells=[.int .i64 m.cls,.str m.name,.str m.desc,.bool m.st,.int .i64 m.slot,.int .i64 m.native]:=rfl
 by_cases c1:m.cls=c
 ·by_cases c2:m.name=n
  ·simp (disch:=omega) [cd t162,code162,hcu,hN,hP,hQ,c1,c2]
  ·simp (disch:=omega) [cd t162,code162,hcu,hN,hP,hQ,c1,c2]
 ·simp (disch:=omega) [cd t162,code162,hcu,hN,hP,hQ,c1]
theorem l163 {N P Q:Nat} {z:Int} {n d:Str} {M:List LMethU} {a:Option (Nat × Nat)} {c:Option Nat} (hR:Row O 6 LMethU.cells M a) (hl:M.length≤big) (hN:O[N]? = some (.cells 1 [.int .i64 z])) (hP:O[P]? = some (.cells 1 [.str n])) (hQ:O[Q]? = some (.cells 1 [.str d])):∀ (j i:Nat) (w:Nat),i+j=M.length→∀ (k:AExit→St→Option (AVal × Heap)),
  xK T (.loop code163L0) ⟨[(0,.val (.slice a M.length c)),(1,.val (.func 162 [] [.ptr (some (N,0)),.ptr (some (P,0)),.ptr (some (Q,0))])),(7,.val (.int .i64 M.length)),(8,.val (.int .i64 i))],⟨O,b,w⟩⟩ (k:=⟨k⟩) =
  match mtI (M.drop i) z n d with
  | some q=>k .ret ⟨[(4,.val (.int .i64 ((i+q:Nat):Int)))],⟨O,b,w⟩⟩
  | none=>k (.exit 0) ⟨[],⟨O,b,w⟩⟩
 | 0,i,w,hi,k=>by
  rw [bl,bq (by omega)]
  simp (disch:=omega) [code163L0,mtI]
 | j+1,i,w,hi,k=>by
  have hl':M.length≤9223372036854775807:=hl
  obtain ⟨u,hu⟩:∃ u,M[i]? = some u:=⟨_,ag (by omega)⟩
  obtain ⟨p,o,cs,rfl,hpp,hpl,hcs,ht⟩:=g7 hR hu
  have hd:M.drop i=u :: M.drop (i+1):=by
   have:=aj hu
   rw [ag this] at hu
   rw [dq this,b9 hu]
  have ih:=l163 (c:=c) hR hl hN hP hQ j (i+1) w (by omega) k
  have e2:((i+1:Nat):Int)=(i:Int)+1:=by omega
  rw [e2] at ih
  have h162:=fun w=>s162 (b:=b) (w:=w) (m:=u) hN hP hQ
  have hcu:u.cells=[.int .i64 u.cls,.str u.name,.str u.desc,.bool u.st,.int .i64 u.slot,.int .i64 u.native]:=rfl
  rw [hcu] at ht h162
  rw [bl,hd]
  unfold mtI at ih ⊢
  rw [List.findIdx?_cons]
  generalize (decide (u.cls=z) && decide (u.name=n) && decide (u.desc=d))=e at h162 ⊢
  cases e with
  | true =>
   simp only [if_true,ef]
   generalize ACode.loop code163L0=L
   simp (disch:=omega) [code163L0,hpp,ht,hcu,callVal,h162]
  | false =>
   generalize ACode.loop code163L0=L at ih ⊢
   simp (disch:=omega) [code163L0,hpp,ht,hcu,callVal,h162,ih]
   cases List.findIdx? _ _ with
   | none=>rfl
   | some q =>
    simp only [bi,av,if_false]
    rw [show (i:Int)+1+(q:Int)=(i:Int)+((q+1:Nat):Int) by omega]
end
def idxI (r:Option Nat):Int:=match r with | some q=>q | none=>-1
section
attribute [-simp] getElem?_pos getElem?_neg List.all_eq_true
attribute [local simp] gz gs nltT nltF iltT iltF ileT nleT dh
theorem s163 {N P Q:Nat} {z:Int} {n d:Str} {M:List LMethU} {a:Option (Nat × Nat)} {c:Option Nat} (hR:Row O 6 LMethU.cells M a) (hl:M.length≤big) (hN:O[N]? = some (.cells 1 [.int .i64 z])) (hP:O[P]? = some (.cells 1 [.str n])) (hQ:O[Q]? = some (.cells 1 [.str d])) :
  xCall T 163 [.slice a M.length c,.func 162 [] [.ptr (some (N,0)),.ptr (some (P,0)),.ptr (some (Q,0))]] ⟨O,b,w⟩=some (.int .i64 (idxI (mtI M z n d)),⟨O,b,w⟩):=by
 have h1:=fun w=>l163 (b:=b) (c:=c) hR hl hN hP hQ M.length 0 w (by omega)
 simp only [bf,d8,bt] at h1
 have hc:M.length≤9223372036854775807:=hl
 cases hq:mtI M z n d with
 | none=>rw [hq] at h1; simp (disch:=omega) [cd t163,code163,h1,idxI]
 | some q=>rw [hq] at h1; simp (disch:=omega) [cd t163,code163,h1,idxI]
end
theorem get_k0' {A:List AObj} {y:AObj}:(A++[y])[A.length]? = some y:=by simp
abbrev FS:=Int × List AObj
def fO (O:List AObj) (x:LayU) (n d:Str) (s:FS):List AObj:=O++([.cells 4 x.cells,.cells 1 [.str n],.cells 1 [.str d],.cells 1 [.int .i64 s.1]]++s.2)
def fS (M:List LMethU) (n d:Str) (s:FS) (z:Int):FS × Bool:=((((mtI M z n d).getD 0:Nat),s.2++[.cells 1 [.int .i64 z]]),(mtI M z n d).isSome)
section
attribute [-simp] getElem?_pos getElem?_neg List.all_eq_true
attribute [local simp] gz gs nltT nltF iltT iltF ileT nleT dh
theorem s121 {x:LayU} {n d:Str} (hx:x.ok O) (hb:b≤O.length) (s:FS) (z:Int) (w:Nat) (hw:O.length+3≤w) :
  ∃ w',O.length+3≤w'∧w'≤w∧(fO O x n d (fS x.ms n d s z).1=fO O x n d s∨w' < O.length+4) ∧
   xCall T 121 (.int .i64 z :: [.ptr (some (O.length,0)),.ptr (some (O.length+1,0)),.ptr (some (O.length+2,0)),.ptr (some (O.length+3,0))]) ⟨fO O x n d s,b,w⟩=some (.bool (fS x.ms n d s z).2,⟨fO O x n d (fS x.ms n d s z).1,b,w'⟩):=by
 refine ⟨O.length+3,ak _,hw,.inr (by omega),?_⟩
 have hcu:x.cells=[.slice x.ca x.cs.length x.cc,.slice x.ma x.ms.length x.mc,.int .i64 x.stat,.slice x.ra x.refs.length x.rc]:=rfl
 have hl:x.ms.length≤9223372036854775807:=ia hx.mn
 have h1:=fun Y w=>s163 (O:=O++Y) (b:=b) (w:=w) (c:=x.mc) (z:=z) (n:=n) (d:=d) (N:=O.length+(s.2.length+1+1+1+1)) (P:=O.length+1) (Q:=O.length+2) ((Pre.app O _).row hx.m) (ia hx.mn)
 have hb3:b≤O.length+3:=by omega
 cases hq:mtI x.ms z n d with
 | none =>
  rw [hq] at h1
  have h2:=fun w=>h1 ([.cells 4 x.cells,.cells 1 [.str n],.cells 1 [.str d],.cells 1 [.int .i64 s.1]]++(s.2++[.cells 1 [.int .i64 z]])) w (by rw [eb]; simp only [db,c9,fp]; rw [get_k0']) (by rw [eb]; rfl) (by rw [eb]; rfl)
  rw [hcu] at h2
  simp only [idxI,db,c9] at h2
  simp (disch:=omega) [cd t121,code121,fO,fS,hq,hcu,h2,eb,fk,ie,gp,hb3,idxI]
 | some q =>
  rw [hq] at h1
  have h2:=fun w=>h1 ([.cells 4 x.cells,.cells 1 [.str n],.cells 1 [.str d],.cells 1 [.int .i64 s.1]]++(s.2++[.cells 1 [.int .i64 z]])) w (by rw [eb]; simp only [db,c9,fp]; rw [get_k0']) (by rw [eb]; rfl) (by rw [eb]; rfl)
  rw [hcu] at h2
  simp only [idxI,db,c9] at h2
  have hq2:=(List.findIdx?_eq_some_iff_findIdx_eq.1 hq).1
  simp (disch:=omega) [cd t121,code121,fO,fS,hq,hcu,h2,eb,fk,ie,gp,hb3,idxI]
end
end Go.Abs.AbsSlot

namespace Go.Abs.AbsSlot
open Go.Abs.AbsDesc Go.Abs.AbsHier
variable {os O:List AObj} {b w:Nat}
def methI (x:LayU) (L:List Int) (n d:Str):Option Nat:=L.findSome? fun z=>mtI x.ms z n d
theorem fS_run {x:LayU} {n d:Str}:∀ (L:List Int) (G:List AObj),((runE (fS x.ms n d) (0,G) L).1.1=((methI x L n d).getD 0:Nat))∧(runE (fS x.ms n d) (0,G) L).2=(methI x L n d).isSome
 | [],G=>⟨rfl,rfl⟩
 | z :: r,G=>by
  have ih:=fS_run (x:=x) (n:=n) (d:=d) r (G++[.cells 1 [.int .i64 z]])
  unfold methI at ih ⊢
  rw [List.findSome?_cons]
  simp only [runE,fS]
  cases h:mtI x.ms z n d with
  | none=>simpa only [ki,jm,bf] using ih
  | some q=>exact ⟨rfl,rfl⟩
section
attribute [-simp] getElem?_pos getElem?_neg List.all_eq_true
attribute [local simp] gz gs nltT nltF iltT iltF ileT nleT dh
theorem s66 {x:LayU} {cl n d:Str} (hx:x.ok O) (hb:b≤O.length):xCall T 66 [.agg x.cells,.str cl,.str n,.str d] ⟨O,b,w⟩ =
  some (idxV ((clsI x.cs cl).bind fun k=>methI x (lineX x.cs x.cs.length k) n d),⟨O,b,w⟩):=by
 have hcu:x.cells=[.slice x.ca x.cs.length x.cc,.slice x.ma x.ms.length x.mc,.int .i64 x.stat,.slice x.ra x.refs.length x.rc]:=rfl
 have hcp:=fun X=>(Pre.app O X).row hx.c
 have h68:=fun X w=>s68 (O:=O++X) (b:=b) (w:=w) (x:=x) (n:=cl) ⟨hcp X,hx.cn,hx.cu.le (by simp),fun y hy=>by
  have h:=hx.cok y hy
  exact ⟨h.name,(Pre.app O X).row h.r,h.rn,h.ru.le (by simp),(Pre.app O X).row h.t,h.tn,h.tu.le (by simp)⟩,(Pre.app O X).row hx.m,hx.mn,hx.mu.le (by simp),hx.mok,(Pre.app O X).row hx.r,hx.rn,hx.ru.le (by simp)⟩ (by simp; omega)
 rw [hcu] at h68
 have hb3:b≤O.length+3:=by omega
 cases hq:clsI x.cs cl with
 | none =>
  rw [hq] at h68
  simp only [idxV] at h68
  simp (disch:=omega) [cd t66,code66,hcu,h68,idxV]
 | some q =>
  rw [hq] at h68
  obtain ⟨w',hw',h1⟩:=s118 (B:=fO O x n d) (b:=b) (g:=121) (caps:=[.ptr (some (O.length,0)),.ptr (some (O.length+1,0)),.ptr (some (O.length+2,0)),.ptr (some (O.length+3,0))]) (step:=fS x.ms n d) (x:=x) (lo:=O.length+3) (len:=O.length+4)
   (fun s=>(Pre.app O _).row hx.c) hx.cn (by omega) (fun s z w hw=>s121 hx hb s z w hw) (0,[]) (by simp [fO]) q O.length
  obtain ⟨r1,r2⟩:=fS_run (x:=x) (n:=n) (d:=d) (lineX x.cs x.cs.length q) []
  rw [r2] at h1
  generalize runE (fS x.ms n d) (0,[]) (lineX x.cs x.cs.length q)=R at h1 r1
  obtain ⟨⟨R1,R2⟩,R3⟩:=R
  simp only at r1 h1
  subst r1
  simp only [fO,hcu,db,c9,cz] at h1
  have hw2:O.length≤w':=by omega
  simp only [Option.bind_some]
  generalize methI x (lineX x.cs x.cs.length q) n d=z at h1
  simp only [idxV,da,kw] at h68
  cases z with
  | none=>simp (disch:=omega) [cd t66,code66,hcu,h68,idxV,h1,eb,fk,ie,gp,hb3,hw2,cf]
  | some z=>simp (disch:=omega) [cd t66,code66,hcu,h68,idxV,h1,eb,fk,ie,gp,hb3,hw2,cf]
end
end Go.Abs.AbsSlot

namespace Go.Abs.AbsSlot
open Go.Abs.AbsDesc Go.Abs.AbsHier
variable {os O:List AObj} {b w:Nat}
theorem idsL_int:∀ A:List Int,AVal.idsL (A.map (AVal.int .i64))=[]
 | []=>rfl
 | a :: A=>by simp only [bo,AVal.idsL,AVal.ids,c9,idsL_int A]
theorem renL_int (f:Nat→Nat):∀ A:List Int,AVal.renL f (A.map (AVal.int .i64))=A.map (AVal.int .i64)
 | []=>rfl
 | a :: A=>by simp only [bo,AVal.renL,AVal.ren,renL_int f A]
end Go.Abs.AbsSlot

namespace Go.Abs.AbsSlot
open Go.Abs.AbsDesc Go.Abs.AbsHier
variable {os O H:List AObj} {b w:Nat}
theorem ir:∀ A:List Int,A.flatMap intC=A.map (AVal.int .i64)
 | []=>rfl
 | a :: A=>by rw [bu,bo,ir A]; rfl
end Go.Abs.AbsSlot

namespace Go.Abs.AbsSlot
open Go.Abs.AbsDesc Go.Abs.AbsHier
variable {os O H:List AObj} {b w:Nat}
end Go.Abs.AbsSlot
