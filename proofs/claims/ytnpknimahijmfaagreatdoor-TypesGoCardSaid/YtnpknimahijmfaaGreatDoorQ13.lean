/-
  Texts joined.
-/
import Derived.Test.YtnpknimahijmfaaGreatDoorQ0
import Derived.Test.YtnpknimahijmfaaGreatDoorQ12
import Derived.Test.YtnpknimahijmfaaGreatDoorQ8
import Derived.Test.YtnpknimahijmfaaGreatDoorQ9
set_option linter.unusedVariables false
set_option linter.unusedSimpArgs false
set_option maxRecDepth 100000
namespace Go.Abs.AbsDesc
variable {os:List AObj} {b w:Nat} {β:Type}
section
attribute [-simp] getElem?_pos getElem?_neg
theorem l87 {O:List AObj} (k:AExit→St→Option β) {s:List UInt8} (hn:s.length≤9223372036854775806):∀ j i,0 < i→i+j=s.length+1→(cutN s=0∨i≤cutN s) →
  xK T (.loop code87L0) ⟨[(0,.val (.str s)),(3,.val (.int .i64 (i:Nat)))],⟨O,b,w⟩⟩ (k:=⟨k⟩)=if cutN s=0 then k (.exit 0) ⟨[],⟨O,b,w⟩⟩ else k .ret ⟨[(2,.val (.str (s.take (cutN s))))],⟨O,b,w⟩⟩
 | 0,i,h0,hi,hc=>by
  have hle:=cutN_le s
  have hc:cutN s=0:=by omega
  rw [cf]
  simp (disch:=omega) [code87L0,ileF,hc]
 | j+1,i,h0,hi,hc=>by
  have hle:=cutN_le s
  have h28:=fun w=>s28 (os:=O) (b:=b) (w:=w) (s:=s.take i) (by simp; omega)
  rw [cf]
  by_cases hi':i=cutN s
  ·subst hi'
   have ht:isTy (s.take (cutN s))=true:=isTy_cut (by omega)
   have hc0:¬ cutN s=0:=by omega
   simp (disch:=omega) [code87L0,ileT,nleT,h28,ht,hc0]
   done
  ·have ht:isTy (s.take i)=false:=by
    rw [Bool.eq_false_iff]
    intro h
    exact hi' (isTy_take (by omega) h)
   have ih:=l87 (O:=O) k hn j (i+1) (by omega) (by omega) (by omega)
   have e:((i+1:Nat):Int)=(i:Int)+1:=by omega
   rw [e] at ih
   generalize ACode.loop code87L0=L at ih ⊢
   simp (disch:=omega) [code87L0,ileT,nleT,df,h28,ht,ih]
end
theorem s87 {s:List UInt8} (hn:s.length≤9223372036854775806):xCall T 87 [.str s] ⟨os,b,w⟩=some (.str (s.take (cutN s)),⟨os,b,w⟩):=by
 have hl:=fun w (k:AExit→St→Option (AVal × Heap))=>l87 (O:=os) (b:=b) (w:=w) k hn s.length 1 (by omega) (by omega) (by omega)
 simp only [bl] at hl
 by_cases h:cutN s=0
 ·simp [av t87,code87,hl,h]
 ·simp [av t87,code87,hl,h]
def methA:Nat→List UInt8→Option (List (List UInt8) × List UInt8)
 | m,s=>if s=[]∨begins 41 s=true then some ([],s) else if cutN s=0 then none else match m with
  | 0=>none
  | m+1=>(methA m (s.drop (cutN s))).map fun p=>(s.take (cutN s) :: p.1,p.2)
theorem methA_len:∀ {m:Nat} {s:List UInt8} {A:List (List UInt8)} {r:List UInt8},methA m s=some (A,r)→A.length≤m∧r.length≤s.length∧∀ t ∈ A,t.length≤s.length
 | m,s,A,r,h=>by
  unfold methA at h
  split at h
  ·cases h; simp
  ·split at h
   ·cases h
   ·cases m with
    | zero=>cases h
    | succ m =>
     simp only at h
     rw [ae] at h
     obtain ⟨p,h1,h2⟩:=h
     obtain ⟨rfl,rfl⟩:=Prod.mk.inj h2
     obtain ⟨k1,k2,k3⟩:=methA_len (A:=p.1) (r:=p.2) h1
     simp only [gg] at k2 k3
     refine ⟨by simp; omega,by omega,fun t ht=>?_⟩
     rcases bt.1 ht with rfl | ht
     ·simp; omega
     ·have:=k3 t ht; omega
def Meth38 (b w:Nat) (k:AExit→St→Option β) (x:Option β) (O:List AObj) (L:List (List UInt8)) (a2 a3:Nat):Option (List (List UInt8) × List UInt8)→Prop
 | none=>∃ O',O.length≤O'.length∧x=k .ret ⟨[(2,.val (.slice none 0 (some 0))),(3,.val (.str [])),(4,.val (.int .i64 8))],⟨O',b,w⟩⟩
 | some (A,r)=>∃ O',O.length≤O'.length∧x=k (.exit 0) ⟨if a2 < a3 then [(a2,.val (.str r)),(a3,.val (.slice (some (O'.length,0)) (L.length+A.length) none))] else [(a3,.val (.slice (some (O'.length,0)) (L.length+A.length) none)),(a2,.val (.str r))],⟨O'++[.cells 1 ((L++A).map AVal.str)],b,w⟩⟩
section
attribute [-simp] getElem?_pos getElem?_neg
set_option maxHeartbeats 1000000 in
theorem l38 (k:AExit→St→Option β):∀ (m:Nat) (s:List UInt8) (O:List AObj) (L:List (List UInt8)),s.length≤9223372036854775807→L.length+m=16→L≠[]→b≤O.length→w≤O.length →
  Meth38 b w k (xK T (.loop code38L0) ⟨[(5,.val (.str s)),(7,.val (.slice (some (O.length,0)) L.length none))],⟨O++[.cells 1 (L.map AVal.str)],b,w⟩⟩ (k:=⟨k⟩)) O L 5 7 (methA m s):=by
 intro m
 induction m with
 | zero =>
  intro s O L hn hL hne hb hw
  unfold methA
  rw [cf]
  cases s with
  | nil =>
   simp only [true_or,if_true]
   refine ⟨O,aj _,?_⟩
   simp [code38L0]
  | cons x r =>
   have e:((x.toNat:Int)=41)=(x=41):=jw x 41 (by omega)
   by_cases hx:x=41
   ·simp only [begins,hx,decide_true,or_true,if_true]
    refine ⟨O,aj _,?_⟩
    simp (disch:=omega) [code38L0,e,hx,ba,iltT]
   ·have h86:=fun w=>s86 (os:=O++[.cells 1 (L.map AVal.str)]) (b:=b) (w:=w) hn (by simp; omega)
    have hL16:(L.length:Int)=16:=by omega
    have h0:∀ n:Nat,n≠0→List.take n (x :: r)≠[]:=fun n hn=>by cases n <;> simp_all
    by_cases hc:cutN (x :: r)=0
    ·simp only [begins,hx,decide_false,reduceCtorEq,am,or_self,if_false,hc,if_true]
     refine ⟨O++[.cells 1 (L.map AVal.str)],by simp,?_⟩
     simp (disch:=omega) [code38L0,e,hx,ba,iltT,h86,hc]
    ·simp only [begins,hx,decide_false,reduceCtorEq,am,or_self,if_false,hc]
     refine ⟨O++[.cells 1 (L.map AVal.str)],by simp,?_⟩
     simp (disch:=omega) [code38L0,e,hx,ba,iltT,h86,h0 _ hc,hL16]
 | succ m ih =>
  intro s O L hn hL hne hb hw
  unfold methA
  rw [cf]
  cases s with
  | nil =>
   simp only [true_or,if_true]
   refine ⟨O,aj _,?_⟩
   simp [code38L0]
  | cons x r =>
   have e:((x.toNat:Int)=41)=(x=41):=jw x 41 (by omega)
   by_cases hx:x=41
   ·simp only [begins,hx,decide_true,or_true,if_true]
    refine ⟨O,aj _,?_⟩
    simp (disch:=omega) [code38L0,e,hx,ba,iltT]
   ·have h86:=fun w=>s86 (os:=O++[.cells 1 (L.map AVal.str)]) (b:=b) (w:=w) hn (by simp; omega)
    have hL16:¬ (L.length:Int)=16:=by omega
    have h0:∀ n:Nat,n≠0→List.take n (x :: r)≠[]:=fun n hn=>by cases n <;> simp_all
    by_cases hc:cutN (x :: r)=0
    ·simp only [begins,hx,decide_false,reduceCtorEq,am,or_self,if_false,hc,if_true]
     refine ⟨O++[.cells 1 (L.map AVal.str)],by simp,?_⟩
     simp (disch:=omega) [code38L0,e,hx,ba,iltT,h86,hc]
    ·simp only [begins,hx,decide_false,reduceCtorEq,am,or_self,if_false,hc]
     have hle:=cutN_le (x :: r)
     have h0':=h0 _ hc
     have hlt:(List.take (cutN (x :: r)) (x :: r)).length=cutN (x :: r):=by simp at hle ⊢; omega
     generalize ht:List.take (cutN (x :: r)) (x :: r)=t at *
     have hdr:List.take ((x :: r).length - cutN (x :: r)) (List.drop (cutN (x :: r)) (x :: r))=List.drop (cutN (x :: r)) (x :: r):=jx ..
     have hle2:(List.drop (cutN (x :: r)) (x :: r)).length≤9223372036854775807:=by simp only [gg]; omega
     have ih:=ih (List.drop (cutN (x :: r)) (x :: r)) (O++[.dead,.cells 1 [.str t]]) (L++[t]) hle2 (by simp; omega) (by simp) (by simp; omega) (by simp; omega)
     simp only [aw,a8,br,bh,b0,bz,gy,bu,eu] at ih
     generalize cutN (x :: r)=n at *
     generalize ACode.loop code38L0=LL at ih ⊢
     have hle':n≤r.length+1:=by simpa using hle
     have hdr':List.take (r.length+1 - n) (List.drop n (x :: r))=List.drop n (x :: r):=by simpa using hdr
     have key:Meth38 b w k (xK T code38L0 ⟨[(5,.val (.str (x :: r))),(7,.val (.slice (some (O.length,0)) L.length none))],⟨O++[.cells 1 (L.map AVal.str)],b,w⟩⟩ (k:=⟨fun e st=>nxK e st (f:=⟨fun st=>xK T LL st (k:=⟨k⟩)⟩) (k:=⟨k⟩)⟩)) (O++[.dead,.cells 1 [.str t]]) (L++[t]) 5 7 (methA m (List.drop n (x :: r))):=by
      simp (maxSteps:=2000000) (disch:=omega) [code38L0,e,hx,ba,iltT,h86,h0',hL16,hne,bp,hlt,Nat.min_eq_left,ileT,nleT,nltT,hdr',ht]
      simpa using ih
     cases hm:methA m (List.drop n (x :: r)) with
     | none =>
      rw [hm] at key
      obtain ⟨O',h1,h2⟩:=key
      exact ⟨O',by simp at h1; omega,h2⟩
     | some p =>
      obtain ⟨A,q⟩:=p
      rw [hm] at key
      obtain ⟨O',h1,h2⟩:=key
      refine ⟨O',by simp at h1; omega,h2.trans ?_⟩
      simp [Nat.add_comm 1,cg]
end
end Go.Abs.AbsDesc

namespace Go.Abs.AbsDesc
variable {os:List AObj} {b w:Nat} {β:Type}
def Meth0 (b w:Nat) (k:AExit→St→Option β) (x:Option β) (O:List AObj) (a2 a3:Nat):Option (List (List UInt8) × List UInt8)→Prop
 | none=>∃ O',O.length≤O'.length∧x=k .ret ⟨[(2,.val (.slice none 0 (some 0))),(3,.val (.str [])),(4,.val (.int .i64 8))],⟨O',b,w⟩⟩
 | some ([],r)=>x=k (.exit 0) ⟨if a2 < a3 then [(a2,.val (.str r)),(a3,.val (.slice none 0 (some 0)))] else [(a3,.val (.slice none 0 (some 0))),(a2,.val (.str r))],⟨O,b,w⟩⟩
 | some (a :: A,r)=>∃ O',O.length≤O'.length∧x=k (.exit 0) ⟨if a2 < a3 then [(a2,.val (.str r)),(a3,.val (.slice (some (O'.length,0)) (A.length+1) none))] else [(a3,.val (.slice (some (O'.length,0)) (A.length+1) none)),(a2,.val (.str r))],⟨O'++[.cells 1 ((a :: A).map AVal.str)],b,w⟩⟩
section
attribute [-simp] getElem?_pos getElem?_neg
set_option maxHeartbeats 1000000 in
theorem l38z (k:AExit→St→Option β) (s:List UInt8) (O:List AObj) (hn:s.length≤9223372036854775807) (hb:b≤O.length) (hw:w≤O.length) :
  Meth0 b w k (xK T (.loop code38L0) ⟨[(5,.val (.str s)),(7,.val (.slice none 0 (some 0)))],⟨O,b,w⟩⟩ (k:=⟨k⟩)) O 5 7 (methA 16 s):=by
 unfold methA
 rw [cf]
 cases s with
 | nil =>
  simp only [true_or,if_true]
  simp [Meth0,code38L0]
 | cons x r =>
  have e:((x.toNat:Int)=41)=(x=41):=jw x 41 (by omega)
  by_cases hx:x=41
  ·simp only [begins,hx,decide_true,or_true,if_true]
   simp (disch:=omega) [Meth0,code38L0,e,hx,ba,iltT]
  ·have h86:=fun w=>s86 (os:=O) (b:=b) (w:=w) hn hb
   have h0:∀ n:Nat,n≠0→List.take n (x :: r)≠[]:=fun n hn=>by cases n <;> simp_all
   by_cases hc:cutN (x :: r)=0
   ·simp only [begins,hx,decide_false,reduceCtorEq,am,or_self,if_false,hc,if_true]
    refine ⟨O,aj _,?_⟩
    simp (disch:=omega) [code38L0,e,hx,ba,iltT,h86,hc]
   ·simp only [begins,hx,decide_false,reduceCtorEq,am,or_self,if_false,hc]
    have hle:=cutN_le (x :: r)
    have h0':=h0 _ hc
    have hlt:(List.take (cutN (x :: r)) (x :: r)).length=cutN (x :: r):=by simp at hle ⊢; omega
    generalize ht:List.take (cutN (x :: r)) (x :: r)=t at *
    have hle2:(List.drop (cutN (x :: r)) (x :: r)).length≤9223372036854775807:=by simp only [gg]; omega
    have hdr:List.take ((x :: r).length - cutN (x :: r)) (List.drop (cutN (x :: r)) (x :: r))=List.drop (cutN (x :: r)) (x :: r):=jx ..
    have ih:=l38 (b:=b) (w:=w) k 15 (List.drop (cutN (x :: r)) (x :: r)) (O++[.cells 1 [.str t]]) [t] hle2 rfl (by simp) (by simp; omega) (by simp; omega)
    generalize cutN (x :: r)=n at *
    generalize ACode.loop code38L0=LL at ih ⊢
    have hle':n≤r.length+1:=by simpa using hle
    have hdr':List.take (r.length+1 - n) (List.drop n (x :: r))=List.drop n (x :: r):=by simpa using hdr
    have key:Meth38 b w k (xK T code38L0 ⟨[(5,.val (.str (x :: r))),(7,.val (.slice none 0 (some 0)))],⟨O,b,w⟩⟩ (k:=⟨fun e st=>nxK e st (f:=⟨fun st=>xK T LL st (k:=⟨k⟩)⟩) (k:=⟨k⟩)⟩)) (O++[.cells 1 [.str t]]) [t] 5 7 (methA 15 (List.drop n (x :: r))):=by
     simp (maxSteps:=2000000) (disch:=omega) [code38L0,e,hx,ba,iltT,h86,h0',bp,hlt,Nat.min_eq_left,ileT,nleT,nltT,hdr',ht]
     simpa using ih
    cases hm:methA 15 (List.drop n (x :: r)) with
    | none =>
     rw [hm] at key
     obtain ⟨O',h1,h2⟩:=key
     exact ⟨O',by simp at h1; omega,h2⟩
    | some p =>
     obtain ⟨A,q⟩:=p
     rw [hm] at key
     obtain ⟨O',h1,h2⟩:=key
     refine ⟨O',by simp at h1; omega,h2.trans ?_⟩
     simp [Nat.add_comm 1,cg]
set_option maxHeartbeats 1000000 in
theorem l37 (k:AExit→St→Option β):∀ (m:Nat) (s:List UInt8) (O:List AObj) (L:List (List UInt8)),s.length≤9223372036854775806→L.length+m=16→L≠[]→b≤O.length→w≤O.length →
  Meth38 b w k (xK T (.loop code37L0) ⟨[(5,.val (.slice (some (O.length,0)) L.length none)),(6,.val (.str s))],⟨O++[.cells 1 (L.map AVal.str)],b,w⟩⟩ (k:=⟨k⟩)) O L 6 5 (methA m s):=by
 intro m
 induction m with
 | zero =>
  intro s O L hn hL hne hb hw
  unfold methA
  rw [cf]
  cases s with
  | nil =>
   simp only [true_or,if_true]
   refine ⟨O,aj _,?_⟩
   simp [code37L0]
  | cons x r =>
   have e:((x.toNat:Int)=41)=(x=41):=jw x 41 (by omega)
   by_cases hx:x=41
   ·simp only [begins,hx,decide_true,or_true,if_true]
    refine ⟨O,aj _,?_⟩
    simp (disch:=omega) [code37L0,e,hx,ba,iltT]
   ·have h86:=fun w=>s87 (os:=O++[.cells 1 (L.map AVal.str)]) (b:=b) (w:=w) hn
    have hL16:(L.length:Int)=16:=by omega
    have h0:∀ n:Nat,n≠0→List.take n (x :: r)≠[]:=fun n hn=>by cases n <;> simp_all
    by_cases hc:cutN (x :: r)=0
    ·simp only [begins,hx,decide_false,reduceCtorEq,am,or_self,if_false,hc,if_true]
     refine ⟨O++[.cells 1 (L.map AVal.str)],by simp,?_⟩
     simp (disch:=omega) [code37L0,e,hx,ba,iltT,h86,hc]
    ·simp only [begins,hx,decide_false,reduceCtorEq,am,or_self,if_false,hc]
     refine ⟨O++[.cells 1 (L.map AVal.str)],by simp,?_⟩
     simp (disch:=omega) [code37L0,e,hx,ba,iltT,h86,h0 _ hc,hL16]
 | succ m ih =>
  intro s O L hn hL hne hb hw
  unfold methA
  rw [cf]
  cases s with
  | nil =>
   simp only [true_or,if_true]
   refine ⟨O,aj _,?_⟩
   simp [code37L0]
  | cons x r =>
   have e:((x.toNat:Int)=41)=(x=41):=jw x 41 (by omega)
   by_cases hx:x=41
   ·simp only [begins,hx,decide_true,or_true,if_true]
    refine ⟨O,aj _,?_⟩
    simp (disch:=omega) [code37L0,e,hx,ba,iltT]
   ·have h86:=fun w=>s87 (os:=O++[.cells 1 (L.map AVal.str)]) (b:=b) (w:=w) hn
    have hL16:¬ (L.length:Int)=16:=by omega
    have h0:∀ n:Nat,n≠0→List.take n (x :: r)≠[]:=fun n hn=>by cases n <;> simp_all
    by_cases hc:cutN (x :: r)=0
    ·simp only [begins,hx,decide_false,reduceCtorEq,am,or_self,if_false,hc,if_true]
     refine ⟨O++[.cells 1 (L.map AVal.str)],by simp,?_⟩
     simp (disch:=omega) [code37L0,e,hx,ba,iltT,h86,hc]
    ·simp only [begins,hx,decide_false,reduceCtorEq,am,or_self,if_false,hc]
     have hle:=cutN_le (x :: r)
     have h0':=h0 _ hc
     have hlt:(List.take (cutN (x :: r)) (x :: r)).length=cutN (x :: r):=by simp at hle ⊢; omega
     generalize ht:List.take (cutN (x :: r)) (x :: r)=t at *
     have hdr:List.take ((x :: r).length - cutN (x :: r)) (List.drop (cutN (x :: r)) (x :: r))=List.drop (cutN (x :: r)) (x :: r):=jx ..
     have hle2:(List.drop (cutN (x :: r)) (x :: r)).length≤9223372036854775806:=by simp only [gg]; omega
     have ih:=ih (List.drop (cutN (x :: r)) (x :: r)) (O++[.dead,.cells 1 [.str t]]) (L++[t]) hle2 (by simp; omega) (by simp) (by simp; omega) (by simp; omega)
     simp only [aw,a8,br,bh,b0,bz,gy,bu,eu] at ih
     generalize cutN (x :: r)=n at *
     generalize ACode.loop code37L0=LL at ih ⊢
     have hle':n≤r.length+1:=by simpa using hle
     have hdr':List.take (r.length+1 - n) (List.drop n (x :: r))=List.drop n (x :: r):=by simpa using hdr
     have key:Meth38 b w k (xK T code37L0 ⟨[(5,.val (.slice (some (O.length,0)) L.length none)),(6,.val (.str (x :: r)))],⟨O++[.cells 1 (L.map AVal.str)],b,w⟩⟩ (k:=⟨fun e st=>nxK e st (f:=⟨fun st=>xK T LL st (k:=⟨k⟩)⟩) (k:=⟨k⟩)⟩)) (O++[.dead,.cells 1 [.str t]]) (L++[t]) 6 5 (methA m (List.drop n (x :: r))):=by
      simp (maxSteps:=2000000) (disch:=omega) [code37L0,e,hx,ba,iltT,h86,h0',hL16,hne,bp,hlt,Nat.min_eq_left,ileT,nleT,nltT,hdr',ht]
      simpa using ih
     cases hm:methA m (List.drop n (x :: r)) with
     | none =>
      rw [hm] at key
      obtain ⟨O',h1,h2⟩:=key
      exact ⟨O',by simp at h1; omega,h2⟩
     | some p =>
      obtain ⟨A,q⟩:=p
      rw [hm] at key
      obtain ⟨O',h1,h2⟩:=key
      refine ⟨O',by simp at h1; omega,h2.trans ?_⟩
      simp [Nat.add_comm 1,cg]
set_option maxHeartbeats 1000000 in
theorem l37z (k:AExit→St→Option β) (s:List UInt8) (O:List AObj) (hn:s.length≤9223372036854775806) (hb:b≤O.length) (hw:w≤O.length) :
  Meth0 b w k (xK T (.loop code37L0) ⟨[(5,.val (.slice none 0 (some 0))),(6,.val (.str s))],⟨O,b,w⟩⟩ (k:=⟨k⟩)) O 6 5 (methA 16 s):=by
 unfold methA
 rw [cf]
 cases s with
 | nil =>
  simp only [true_or,if_true]
  simp [Meth0,code37L0]
 | cons x r =>
  have e:((x.toNat:Int)=41)=(x=41):=jw x 41 (by omega)
  by_cases hx:x=41
  ·simp only [begins,hx,decide_true,or_true,if_true]
   simp (disch:=omega) [Meth0,code37L0,e,hx,ba,iltT]
  ·have h86:=fun w=>s87 (os:=O) (b:=b) (w:=w) hn
   have h0:∀ n:Nat,n≠0→List.take n (x :: r)≠[]:=fun n hn=>by cases n <;> simp_all
   by_cases hc:cutN (x :: r)=0
   ·simp only [begins,hx,decide_false,reduceCtorEq,am,or_self,if_false,hc,if_true]
    refine ⟨O,aj _,?_⟩
    simp (disch:=omega) [code37L0,e,hx,ba,iltT,h86,hc]
   ·simp only [begins,hx,decide_false,reduceCtorEq,am,or_self,if_false,hc]
    have hle:=cutN_le (x :: r)
    have h0':=h0 _ hc
    have hlt:(List.take (cutN (x :: r)) (x :: r)).length=cutN (x :: r):=by simp at hle ⊢; omega
    generalize ht:List.take (cutN (x :: r)) (x :: r)=t at *
    have hle2:(List.drop (cutN (x :: r)) (x :: r)).length≤9223372036854775806:=by simp only [gg]; omega
    have hdr:List.take ((x :: r).length - cutN (x :: r)) (List.drop (cutN (x :: r)) (x :: r))=List.drop (cutN (x :: r)) (x :: r):=jx ..
    have ih:=l37 (b:=b) (w:=w) k 15 (List.drop (cutN (x :: r)) (x :: r)) (O++[.cells 1 [.str t]]) [t] hle2 rfl (by simp) (by simp; omega) (by simp; omega)
    generalize cutN (x :: r)=n at *
    generalize ACode.loop code37L0=LL at ih ⊢
    have hle':n≤r.length+1:=by simpa using hle
    have hdr':List.take (r.length+1 - n) (List.drop n (x :: r))=List.drop n (x :: r):=by simpa using hdr
    have key:Meth38 b w k (xK T code37L0 ⟨[(5,.val (.slice none 0 (some 0))),(6,.val (.str (x :: r)))],⟨O,b,w⟩⟩ (k:=⟨fun e st=>nxK e st (f:=⟨fun st=>xK T LL st (k:=⟨k⟩)⟩) (k:=⟨k⟩)⟩)) (O++[.cells 1 [.str t]]) [t] 6 5 (methA 15 (List.drop n (x :: r))):=by
     simp (maxSteps:=2000000) (disch:=omega) [code37L0,e,hx,ba,iltT,h86,h0',bp,hlt,Nat.min_eq_left,ileT,nleT,nltT,hdr',ht]
     simpa using ih
    cases hm:methA 15 (List.drop n (x :: r)) with
    | none =>
     rw [hm] at key
     obtain ⟨O',h1,h2⟩:=key
     exact ⟨O',by simp at h1; omega,h2⟩
    | some p =>
     obtain ⟨A,q⟩:=p
     rw [hm] at key
     obtain ⟨O',h1,h2⟩:=key
     refine ⟨O',by simp at h1; omega,h2.trans ?_⟩
     simp [Nat.add_comm 1,cg]
end
end Go.Abs.AbsDesc

namespace Go.Abs.AbsDesc
variable {os:List AObj} {b w:Nat} {β:Type}
theorem Meth0.elim {k:AExit→St→Option β} {x y:Option β} {O:List AObj} {a2 a3:Nat} {m:Option (List (List UInt8) × List UInt8)} (h:Meth0 b w k x O a2 a3 m)
  (h1:∀ O',m=none→O.length≤O'.length→k .ret ⟨[(2,.val (.slice none 0 (some 0))),(3,.val (.str [])),(4,.val (.int .i64 8))],⟨O',b,w⟩⟩=y)
  (h2:∀ r,m=some ([],r)→k (.exit 0) ⟨if a2 < a3 then [(a2,.val (.str r)),(a3,.val (.slice none 0 (some 0)))] else [(a3,.val (.slice none 0 (some 0))),(a2,.val (.str r))],⟨O,b,w⟩⟩=y)
  (h3:∀ O' a A r,m=some (a :: A,r)→O.length≤O'.length→k (.exit 0) ⟨if a2 < a3 then [(a2,.val (.str r)),(a3,.val (.slice (some (O'.length,0)) (A.length+1) none))] else [(a3,.val (.slice (some (O'.length,0)) (A.length+1) none)),(a2,.val (.str r))],⟨O'++[.cells 1 ((a :: A).map AVal.str)],b,w⟩⟩=y):x=y:=by
 cases m with
 | none =>
  obtain ⟨O',e1,e2⟩:=h
  exact e2.trans (h1 O' rfl e1)
 | some p =>
  obtain ⟨A,r⟩:=p
  cases A with
  | nil=>exact (show x=_ from h).trans (h2 r rfl)
  | cons a A =>
   obtain ⟨O',e1,e2⟩:=h
   exact e2.trans (h3 O' a A r rfl e1)
def methL (s:List UInt8):Option (List (List UInt8) × List UInt8) :=
 if begins 40 s then (match methA 16 s.tail with
  | some (A,r)=>if begins 41 r && (decide (r.tail=[86]) || isTy r.tail) then some (A,r.tail) else none
  | none=>none)
 else none
def methV (n:Nat):Option (List (List UInt8) × List UInt8)→AVal
 | none=>.tuple [.slice none 0 (some 0),.str [],.int .i64 8]
 | some ([],r)=>.tuple [.slice none 0 (some 0),.str r,.int .i64 0]
 | some (a :: A,r)=>.tuple [.slice (some (n,0)) (A.length+1) none,.str r,.int .i64 0]
def methO (os:List AObj):Option (List (List UInt8) × List UInt8)→List AObj
 | some (a :: A,_)=>os++[.cells 1 ((a :: A).map AVal.str)]
 | _=>os
section
attribute [-simp] getElem?_pos getElem?_neg
attribute [local simp] gz gs
theorem s38 {s:List UInt8} (hn:s.length≤9223372036854775807) (hb:b≤os.length):xCall T 38 [.str s] ⟨os,b,w⟩=some (methV os.length (methL s),⟨methO os (methL s),b,w⟩):=by
 have h85:=fun w=>s85 (os:=os) (b:=b) (w:=w) (s:=s) (c:=40) (by omega)
 by_cases h:begins 40 s=true
 ·cases s with
  | nil=>simp [begins] at h
  | cons x q =>
   simp only [h,if_true,List.tail_cons] at h85
   simp only [a8] at hn
   have hm:methL (x :: q)=(match methA 16 q with
     | some (A,r)=>if begins 41 r && (decide (r.tail=[86]) || isTy r.tail) then some (A,r.tail) else none
     | none=>none):=by
    unfold methL; rw [if_pos h]; rfl
   rw [hm]
   simp (disch:=omega) [av t38,code38,h85]
   refine Meth0.elim (l38z _ q os (by omega) hb (aj _)) ?_ ?_ ?_
   ·intro O' h1 h2
    simp (disch:=omega) [code38,h1,methV,methO]
   ·intro r h1
    have hr:=(methA_len h1).2.1
    have h2:=fun w=>s85 (os:=os) (b:=b) (w:=w) (s:=r) (c:=41) (by omega)
    have h3:=fun w=>s27 (b:=b) (w:=w) (s:=r.tail) (by simp; omega) hb
    by_cases c1:begins 41 r=true <;> by_cases c2:r.tail=[86] <;> by_cases c3:isTy r.tail=true
    all_goals simp (disch:=omega) [code38,h1,h2,h3,c1,c2,c3,methV,methO]
   ·intro O' a A r h1 h2
    have hr:=(methA_len h1).2.1
    have hb':b≤(O'++[AObj.cells 1 ((a :: A).map AVal.str)]).length:=by simp; omega
    have h4:=fun w=>s85 (os:=O'++[.cells 1 ((a :: A).map AVal.str)]) (b:=b) (w:=w) (s:=r) (c:=41) (by omega)
    have h3:=fun w=>s27 (os:=O'++[.cells 1 ((a :: A).map AVal.str)]) (b:=b) (w:=w) (s:=r.tail) (by simp; omega) hb'
    simp only [bu] at h4 h3
    by_cases c1:begins 41 r=true <;> by_cases c2:r.tail=[86] <;> by_cases c3:isTy r.tail=true
    all_goals simp (disch:=omega) [code38,h1,h4,h3,c1,c2,c3,methV,methO,nltF,gi,jf]
 ·have hm:methL s=none:=by unfold methL; rw [if_neg h]
  rw [hm]
  simp only [Bool.not_eq_true] at h
  simp only [h,am,if_false] at h85
  simp (disch:=omega) [av t38,code38,h85,methV,methO]
end
end Go.Abs.AbsDesc

namespace Go.Abs.AbsDesc
variable {os:List AObj} {b w:Nat} {β:Type}
theorem methA_end:∀ {m:Nat} {s:List UInt8} {A:List (List UInt8)} {r:List UInt8},methA m s=some (A,r)→r=[]∨begins 41 r=true
 | m,s,A,r,h=>by
  unfold methA at h
  split at h
  ·rename_i hc
   cases h; exact hc
  ·split at h
   ·cases h
   ·cases m with
    | zero=>cases h
    | succ m =>
     simp only at h
     rw [ae] at h
     obtain ⟨p,h1,h2⟩:=h
     obtain ⟨rfl,rfl⟩:=Prod.mk.inj h2
     exact methA_end (A:=p.1) (r:=p.2) h1
section
attribute [-simp] getElem?_pos getElem?_neg
attribute [local simp] gz gs
theorem s37 {s:List UInt8} (hn:s.length≤9223372036854775807) (hb:b≤os.length):xCall T 37 [.str s] ⟨os,b,w⟩=some (methV os.length (methL s),⟨methO os (methL s),b,w⟩):=by
 cases s with
 | nil =>
  simp (disch:=omega) [av t37,code37,methL,begins,methV,methO]
 | cons x q =>
  have e:((x.toNat:Int)=40)=(x=40):=jw x 40 (by omega)
  simp only [a8] at hn
  by_cases h:x=40
  ·have hm:methL (x :: q)=(match methA 16 q with
     | some (A,r)=>if begins 41 r && (decide (r.tail=[86]) || isTy r.tail) then some (A,r.tail) else none
     | none=>none):=by
    unfold methL; rw [if_pos (by simp [begins,h])]; rfl
   rw [hm]
   simp (disch:=omega) [av t37,code37,e,h,iltT,ileT,nltT,nleT]
   refine Meth0.elim (l37z _ q os (by omega) hb (aj _)) ?_ ?_ ?_
   ·intro O' h1 h2
    simp (disch:=omega) [code37,h1,methV,methO]
   ·intro r h1
    have hr:=(methA_len h1).2.1
    rcases methA_end h1 with c0 | c1
    ·subst c0
     simp (disch:=omega) [code37,h1,begins,methV,methO]
    ·cases r with
     | nil=>simp [begins] at c1
     | cons y r =>
      simp only [a8] at hr
      have h3:=fun w=>s28 (os:=os) (b:=b) (w:=w) (s:=r) (by omega)
      rcases Decidable.em (r=[86]) with c2 | c2
      ·subst c2
       cases c3:isTy [86]
       all_goals simp (disch:=omega) [code37,h1,h3,c1,c3,methV,methO,iltT,ileT,nltT,nleT]
      by_cases c3:isTy r=true
      all_goals simp (disch:=omega) [code37,h1,h3,c1,c2,c3,methV,methO,iltT,ileT,nltT,nleT]
   ·intro O' a A r h1 h2
    have hr:=(methA_len h1).2.1
    rcases methA_end h1 with c0 | c1
    ·subst c0
     simp (disch:=omega) [code37,h1,begins,methV,methO]
    ·cases r with
     | nil=>simp [begins] at c1
     | cons y r =>
      simp only [a8] at hr
      have h3:=fun w=>s28 (os:=O'++[.cells 1 ((a :: A).map AVal.str)]) (b:=b) (w:=w) (s:=r) (by omega)
      simp only [bu] at h3
      rcases Decidable.em (r=[86]) with c2 | c2
      ·subst c2
       cases c3:isTy [86]
       all_goals simp (disch:=omega) [code37,h1,h3,c1,c3,methV,methO,nltF,nltT,iltT,ileT,nleT,gi,jf]
      by_cases c3:isTy r=true
      all_goals simp (disch:=omega) [code37,h1,h3,c1,c2,c3,methV,methO,nltF,nltT,iltT,ileT,nleT,gi,jf]
  ·have hm:methL (x :: q)=none:=by unfold methL; rw [if_neg (by simp [begins,h])]
   rw [hm]
   simp (disch:=omega) [av t37,code37,e,h,methV,methO,iltT,ileT,nltT,nleT]
end
end Go.Abs.AbsDesc

namespace Go.Abs
theorem evCall_sub {T T':Nat→Option AFunc} (hs:∀ g f,T g=some f→T' g=some f):∀ n,CallLe (evCall T n) (evCall T' n)
 | 0=>fun _ _ _ r hr=>by simp [evCall] at hr
 | n+1=>fun g args h=>by
  intro r hr
  have ih:=evCall_sub hs n
  simp only [evCall] at hr ⊢
  cases hT:T g with
  | none=>rw [hT] at hr; cases hr
  | some f =>
   rw [hT] at hr
   rw [hs g f hT]
   simp only at hr ⊢
   split at hr
   ·exact evRound_mono ih (aj _) _ _ _ _ r hr
   ·exact hr
   ·exact wrapC_mono (fun args h=>evFunc_mono ih (aj _) f args h) _ _ _ r hr
theorem eq {T T':Nat→Option AFunc} (hs:∀ g f,T g=some f→T' g=some f) {g:Nat} {args:List AVal} {h:Heap} {r:AVal × Heap} (he:xCall T g args h=some r):xCall T' g args h=some r:=by
 rw [jj] at he ⊢
 obtain ⟨n,hn⟩:=he
 exact ⟨n,evCall_sub hs n _ _ _ _ hn⟩
end Go.Abs

namespace Go.Abs
abbrev Str:=List UInt8
section
variable {κ ν:Type} [DecidableEq κ]
def ents (kf:κ→AVal) (vf:ν→AVal):Nat→List (κ × ν)→List (AVal × AVal × Nat)
 | _,[]=>[]
 | i,x :: r=>(kf x.1,vf x.2,i) :: ents kf vf (i+1) r
def getE:List (κ × ν)→κ→Option ν
 | [],_=>none
 | x :: r,k=>if x.1=k then some x.2 else getE r k
def KeyF (kf:κ→AVal):Prop:=∀ a b,akey (kf a) (kf b)=some (decide (a=b))
theorem keyStr:KeyF (AVal.str:Str→AVal):=fun _ _=>rfl
omit [DecidableEq κ] in
theorem ents_app (kf:κ→AVal) (vf:ν→AVal):∀ (A B:List (κ × ν)) (i:Nat),ents kf vf i (A++B)=ents kf vf i A++ents kf vf (i+A.length) B
 | [],B,i=>by simp [ents]
 | x :: A,B,i=>by
  have e:i+1+A.length=i+(A.length+1):=by omega
  simp [ents,ents_app kf vf A B (i+1),e]
omit [DecidableEq κ] in
theorem ents_length (kf:κ→AVal) (vf:ν→AVal):∀ (A:List (κ × ν)) (i:Nat),(ents kf vf i A).length=A.length
 | [],_=>rfl
 | x :: A,i=>by simp [ents,ents_length kf vf A (i+1)]
theorem kx (A B:List (κ × ν)) (k:κ):getE (A++B) k=(getE A k).or (getE B k):=by
 induction A with
 | nil=>rfl
 | cons x A ih =>
  rw [b0]
  simp only [getE]
  split
  ·rfl
  ·exact ih
theorem getE_none {A:List (κ × ν)} {k:κ}:getE A k=none ↔ ∀ x ∈ A,x.1≠k:=by
 induction A with
 | nil=>simp [getE]
 | cons x A ih =>
  simp only [getE]
  split
  ·rename_i h; simp [h]
  ·rename_i h; rw [ih]; simp [h]
theorem getE_mem {A:List (κ × ν)} {k:κ} {v:ν} (h:getE A k=some v):(k,v) ∈ A:=by
 induction A with
 | nil=>cases h
 | cons x A ih =>
  simp only [getE] at h
  split at h
  ·rename_i e; cases h; subst e; exact bc ..
  ·exact bj _ (ih h)
theorem findA_none {kf:κ→AVal} {vf:ν→AVal} (hk:KeyF kf) {k:κ}:∀ (A:List (κ × ν)) (i:Nat),getE A k=none→findA (kf k) (ents kf vf i A)=some none
 | [],_,_=>rfl
 | x :: A,i,h=>by
  simp only [getE] at h
  split at h
  ·cases h
  ·rename_i e
   simp only [ents,findA,hk k x.1,decide_eq_false (show ¬ k=x.1 from fun e'=>e e'.symm)]
   rw [findA_none hk A (i+1) h]
   rfl
theorem findA_some {kf:κ→AVal} {vf:ν→AVal} (hk:KeyF kf) {k:κ} {v:ν}:∀ (A:List (κ × ν)) (i:Nat),getE A k=some v→∃ j,findA (kf k) (ents kf vf i A)=some (some (j,vf v))
 | [],_,h=>by cases h
 | x :: A,i,h=>by
  simp only [getE] at h
  split at h
  ·rename_i e
   cases h
   exact ⟨0,by simp only [ents,findA,hk k x.1,decide_eq_true (show k=x.1 from e.symm)]⟩
  ·rename_i e
   obtain ⟨j,hj⟩:=findA_some (vf:=vf) hk A (i+1) h
   exact ⟨j+1,by simp only [ents,findA,hk k x.1,decide_eq_false (show ¬ k=x.1 from fun e'=>e e'.symm),hj]; rfl⟩
def mObj (kf:κ→AVal) (vf:ν→AVal) (A:List (κ × ν)):AObj:=.map (ents kf vf 0 A) A.length
variable {os:List AObj} {b w r:Nat} {A:List (κ × ν)} {kf:κ→AVal} {vf:ν→AVal}
theorem lookup_ok (hk:KeyF kf) (h:os[r]? = some (mObj kf vf A)) {kn:KeyT} {zero:AVal} {k:κ} (hi:isKey kn (kf k)=true) :
  evExt (.lookup kn zero true) [.map (some r),kf k] ⟨os,b,w⟩=some (.tuple [((getE A k).map vf).getD zero,.bool (getE A k).isSome],⟨os,b,w⟩):=by
 simp only [evExt,hi,entriesOf,Heap.get,h,mObj,if_true]
 cases hg:getE A k with
 | none=>simp only [findA_none hk A 0 hg]; rfl
 | some v =>
  obtain ⟨j,hj⟩:=findA_some (vf:=vf) hk A 0 hg
  simp only [hj]; rfl
theorem lookup_v (hk:KeyF kf) (h:os[r]? = some (mObj kf vf A)) {kn:KeyT} {zero:AVal} {k:κ} (hi:isKey kn (kf k)=true) :
  evExt (.lookup kn zero false) [.map (some r),kf k] ⟨os,b,w⟩=some (((getE A k).map vf).getD zero,⟨os,b,w⟩):=by
 simp only [evExt,hi,entriesOf,Heap.get,h,mObj,if_true]
 cases hg:getE A k with
 | none=>simp only [findA_none hk A 0 hg]; rfl
 | some v =>
  obtain ⟨j,hj⟩:=findA_some (vf:=vf) hk A 0 hg
  simp only [hj]; rfl
theorem upd_new (hk:KeyF kf) (h:os[r]? = some (mObj kf vf A)) {kn:KeyT} {k:κ} (v:ν) (hi:isKey kn (kf k)=true) (hb:b≤r) (hg:getE A k=none) :
  evExt (.mapupd kn) [.map (some r),kf k,vf v] ⟨os,b,w⟩=some (.tuple [],⟨os.set r (mObj kf vf (A++[(k,v)])),b,min w r⟩):=by
 simp only [evExt,hi,Heap.get,h,mObj,hb,and_self,if_true]
 simp only [findA_none hk A 0 hg,Heap.put]
 rw [ents_app,dv,aw]
 rfl
omit [DecidableEq κ] in
theorem len_map (h:os[r]? = some (mObj kf vf A)):evLen .map (.map (some r)) ⟨os,b,w⟩=some (.int .i64 A.length):=by
 simp only [evLen,Heap.get,h,mObj,ents_length]
end
theorem dy {α:Type} (a c:List α) (k:Nat):(a++c)[a.length+k]? = c[k]?:=by
 rw [ak (by omega)]; congr 1; omega
theorem dp {α:Type} (a c:List α):(a++c)[a.length]? = c[0]?:=dy a c 0
theorem gk {α:Type} (a c:List α) (k:Nat) (y:α):(a++c).set (a.length+k) y=a++c.set k y:=by
 rw [List.set_append_right _ _ (by omega)]; congr 2; omega
theorem gb {α:Type} (a c:List α) (y:α):(a++c).set a.length y=a++c.set 0 y:=gk a c 0 y
theorem xRoundK {T:Nat→Option AFunc} {g:Nat} {f:AFunc} {rd:ARound} (hT:T g=some f) (hr:f.round=some (.round rd)) (i j:Nat) (a_s:List AVal) (h:Heap) :
  xCall T g (.ptr (some (i,j)) :: a_s) h=mustK (a_s.length=rd.params.length∧h.base≤i) (f:=⟨fun _=>andThen (roundSlots i rd.params a_s h) (f:=⟨fun s=>xK T rd.assign ⟨s,{ h with wmin:=h.size }⟩
   (k:=⟨fun e st=>andThen (roundIn g i (some (e,st))) (f:=⟨fun st=>xK T rd.body st (k:=⟨fun e st=>roundOut h g i (some (e,st))⟩)⟩)⟩)⟩)⟩):=by
 rw [xRound_eq T hT hr]
 unfold xRound mustK
 simp only
 split
 ·cases roundSlots i rd.params a_s h with
  | none=>rfl
  | some s =>
   simp only [di]
   unfold xK
   cases xCode T rd.assign ⟨s,{ h with wmin:=h.size }⟩ with
   | none=>rfl
   | some x =>
    obtain ⟨e,st⟩:=x
    simp only [di]
    cases roundIn g i (some (e,st)) with
    | none=>rfl
    | some st =>
     simp only [di]
     cases xCode T rd.body st with
     | none=>rfl
     | some y=>rfl
 ·rfl
theorem finish_keep {h0 h:Heap} {v:AVal} {k:List Nat} (hw:h0.size≤h.wmin) (hv:v.under h0.size=false) (hr:reach h h0.size 1000 v.ids []=k) (hok:∀ i ∈ v.ids++k.flatMap fun i=>((h.get i).map AObj.ids).getD [],i < h0.size∨i ∈ k) :
  finish h0 v h=(v.ren (fun i=>if i < h0.size then i else h0.size+idxIn i k),{ h0 with objs:=h0.objs++k.map fun i=>((h.get i).map (AObj.ren fun i=>if i < h0.size then i else h0.size+idxIn i k)).getD .dead }):=by
 unfold finish
 rw [if_neg (by omega),hv]
 simp only [am,if_false,hr]
 rw [if_pos]
 rw [al]
 intro i hi
 rcases hok i hi with h1 | h1
 ·rw [decide_eq_true h1]; rfl
 ·simp [h1]
end Go.Abs

namespace Go.Abs
structure FieldU where
 st:Bool
 name:Str
 desc:Str
structure InsU where
 op:Int
 n:Int
 m:Int
 cls:Str
 name:Str
 desc:Str
 text:Str
structure TrapU where
 lo:Int
 hi:Int
 at':Int
 cls:Str
structure MapU where
 at':Int
 locals:List Str
 la:Option (Nat × Nat)
 lc:Option Nat
 stack:List Str
 sa:Option (Nat × Nat)
 sc:Option Nat
structure MethU where
 st:Bool
 name:Str
 desc:Str
 stack:Int
 locals:Int
 code:List InsU
 ca:Option (Nat × Nat)
 cc:Option Nat
 traps:List TrapU
 ta:Option (Nat × Nat)
 tc:Option Nat
 maps:List MapU
 xa:Option (Nat × Nat)
 xc:Option Nat
structure UnitU where
 name:Str
 super:Str
 fields:List FieldU
 fa:Option (Nat × Nat)
 fc:Option Nat
 meths:List MethU
 ma:Option (Nat × Nat)
 mc:Option Nat
def FieldU.cells (f:FieldU):List AVal:=[.bool f.st,.str f.name,.str f.desc]
def InsU.cells (x:InsU):List AVal:=[.int .u8 x.op,.int .i64 x.n,.int .i64 x.m,.str x.cls,.str x.name,.str x.desc,.str x.text]
def TrapU.cells (x:TrapU):List AVal:=[.int .i64 x.lo,.int .i64 x.hi,.int .i64 x.at',.str x.cls]
def MapU.cells (x:MapU):List AVal:=[.int .i64 x.at',.slice x.la x.locals.length x.lc,.slice x.sa x.stack.length x.sc]
def MethU.cells (m:MethU):List AVal:=[.bool m.st,.str m.name,.str m.desc,.int .i64 m.stack,.int .i64 m.locals,.slice m.ca m.code.length m.cc,.slice m.ta m.traps.length m.tc,.slice m.xa m.maps.length m.xc]
def UnitU.cells (u:UnitU):List AVal:=[.str u.name,.str u.super,.slice u.fa u.fields.length u.fc,.slice u.ma u.meths.length u.mc]
def strC (s:Str):List AVal:=[.str s]
abbrev big:Nat:=9223372036854775807
def under (n:Nat) (a:Option (Nat × Nat)):Prop:=∀ i o,a=some (i,o)→i < n
structure MapU.ok (os:List AObj) (x:MapU):Prop where
 l:Row os 1 strC x.locals x.la
 ln:x.locals.length≤big
 lu:under os.length x.la
 s:Row os 1 strC x.stack x.sa
 sn:x.stack.length≤big
 su:under os.length x.sa
 ls:∀ t ∈ x.locals++x.stack,t.length≤big
structure MethU.ok (os:List AObj) (m:MethU):Prop where
 name:m.name.length≤big
 desc:m.desc.length≤big
 c:Row os 7 InsU.cells m.code m.ca
 cn:m.code.length≤big
 cu:under os.length m.ca
 cok:∀ x ∈ m.code,x.cls.length≤big∧x.name.length≤big∧x.desc.length≤big∧x.text.length≤big
 t:Row os 4 TrapU.cells m.traps m.ta
 tn:m.traps.length≤big
 tu:under os.length m.ta
 tok:∀ x ∈ m.traps,x.cls.length≤big
 x:Row os 3 MapU.cells m.maps m.xa
 xn:m.maps.length≤big
 xu:under os.length m.xa
 xok:∀ x ∈ m.maps,x.ok os
structure UnitU.ok (os:List AObj) (u:UnitU):Prop where
 name:u.name.length≤big
 super:u.super.length≤big
 f:Row os 3 FieldU.cells u.fields u.fa
 fn:u.fields.length≤big
 fu:under os.length u.fa
 fok:∀ x ∈ u.fields,x.name.length≤big∧x.desc.length≤big
 m:Row os 8 MethU.cells u.meths u.ma
 mn:u.meths.length≤big
 mu:under os.length u.ma
 mok:∀ x ∈ u.meths,x.ok os
def Pre (os O:List AObj):Prop:=∀ (i:Nat) (o:AObj),os[i]? = some o→O[i]? = some o
theorem Pre.refl (os:List AObj):Pre os os:=fun _ _ h=>h
theorem Pre.trans {A B C:List AObj} (h:Pre A B) (k:Pre B C):Pre A C:=fun i o ho=>k i o (h i o ho)
theorem Pre.app (os X:List AObj):Pre os (os++X):=fun i o h=>by rw [ag (ai h)]; exact h
theorem Pre.set {A B:List AObj} (h:Pre A B) {i:Nat} (o:AObj) (hi:A.length≤i):Pre A (B.set i o):=fun j p hj=>by
 have:=ai hj
 rw [aq (by omega)]; exact h j p hj
theorem Pre.len {A B:List AObj} (h:Pre A B):A.length≤B.length:=by
 rcases bf B.length A.length with h1 | h1
 ·have h2:B.length < A.length:=h1
  have:=ai (h B.length A[B.length] (by simp [h2]))
  omega
 ·exact h1
theorem Pre.row {os O:List AObj} {α:Type} {e:Nat} {f:α→List AVal} {L:List α} {a:Option (Nat × Nat)} (hp:Pre os O) (h:Row os e f L a):Row O e f L a :=
 ⟨fun hne=>by
  obtain ⟨b,o,cs,h1,h2,h3⟩:=h.at' hne
  exact ⟨b,o,cs,h1,hp _ _ h2,h3⟩⟩
theorem under.le {n m:Nat} {a:Option (Nat × Nat)} (h:under n a) (hm:n≤m):under m a:=fun i o e=>fp (h i o e) hm
theorem MapU.ok.pre {os O:List AObj} (hp:Pre os O) {x:MapU} (h:x.ok os):x.ok O:=⟨hp.row h.l,h.ln,h.lu.le hp.len,hp.row h.s,h.sn,h.su.le hp.len,h.ls⟩
theorem MethU.ok.pre {os O:List AObj} (hp:Pre os O) {m:MethU} (h:m.ok os):m.ok O :=
 ⟨h.name,h.desc,hp.row h.c,h.cn,h.cu.le hp.len,h.cok,hp.row h.t,h.tn,h.tu.le hp.len,h.tok,hp.row h.x,h.xn,h.xu.le hp.len,fun x hx=>(h.xok x hx).pre hp⟩
theorem UnitU.ok.pre {os O:List AObj} (hp:Pre os O) {u:UnitU} (h:u.ok os):u.ok O :=
 ⟨h.name,h.super,hp.row h.f,h.fn,h.fu.le hp.len,h.fok,hp.row h.m,h.mn,h.mu.le hp.len,fun x hx=>(h.mok x hx).pre hp⟩
theorem under_val {n m:Nat} {a:Option (Nat × Nat)} {c:Option Nat} (h:under n a):AVal.under n (.slice a m c)=true:=by
 cases a with
 | none=>rfl
 | some p=>obtain ⟨i,o⟩:=p; simp [AVal.under,h i o rfl]
structure UnitU.low (n:Nat) (u:UnitU):Prop where
 f:under n u.fa
 m:under n u.ma
theorem UnitU.ok.low {O:List AObj} {u:UnitU} (h:u.ok O):u.low O.length:=⟨h.fu,h.mu⟩
section
variable {os:List AObj} {w:Nat}
end
end Go.Abs

namespace Go.Abs.AbsHier
open Go.Abs.AbsDesc
variable {os O:List AObj} {b w:Nat}
theorem s27 {s:Str} (hn:s.length≤9223372036854775807) (hb:b≤os.length):xCall T 27 [.str s] ⟨os,b,w⟩=some (.bool (isTy s),⟨os,b,w⟩):=eq sub (AbsDesc.s27 hn hb)
theorem s28 {s:Str} (hn:s.length≤9223372036854775807):xCall T 28 [.str s] ⟨os,b,w⟩=some (.bool (isTy s),⟨os,b,w⟩):=eq sub (AbsDesc.s28 hn)
theorem s25 {s:Str} (hb:b≤os.length):xCall T 25 [.str s] ⟨os,b,w⟩=some (.bool (isClass s),⟨os,b,w⟩):=eq sub (AbsDesc.s25 hb)
theorem s26 {s:Str} (hn:s.length≤9223372036854775807):xCall T 26 [.str s] ⟨os,b,w⟩=some (.bool (isClass s),⟨os,b,w⟩):=eq sub (AbsDesc.s26 hn)
theorem s34 {s:Str} (hn:s.length≤9223372036854775807):xCall T 34 [.str s] ⟨os,b,w⟩=some (classV s,⟨os,b,w⟩):=eq sub (AbsDesc.s34 hn)
theorem s33 {s:Str} (hn:s.length≤9223372036854775807):xCall T 33 [.str s] ⟨os,b,w⟩=some (classV s,⟨os,b,w⟩):=eq sub (AbsDesc.s33 hn)
theorem s38 {s:Str} (hn:s.length≤9223372036854775807) (hb:b≤os.length):xCall T 38 [.str s] ⟨os,b,w⟩=some (methV os.length (methL s),⟨methO os (methL s),b,w⟩):=eq sub (AbsDesc.s38 hn hb)
theorem s37 {s:Str} (hn:s.length≤9223372036854775807) (hb:b≤os.length):xCall T 37 [.str s] ⟨os,b,w⟩=some (methV os.length (methL s),⟨methO os (methL s),b,w⟩):=eq sub (AbsDesc.s37 hn hb)
theorem s139 {s:Str}:xCall T 139 [.str s,.str [91]] ⟨os,b,w⟩=some (.str (bare s),⟨os,b,w⟩):=eq sub AbsDesc.s139
theorem s173 {s:Str} {c:UInt8} {h:Heap}:xCall T 173 [.str s,.str [c]] h=some (.int .i64 (Lib.indexByte s c),h):=eq sub AbsDesc.s173
theorem d180 {s:Str} {c:UInt8}:xCall AbsDesc.T 180 [.str s,.str [c]] ⟨os,b,w⟩=some (.bool (decide (0≤Lib.indexByte s c)),⟨os,b,w⟩):=by
 simp [av AbsDesc.t180,code180,AbsDesc.s173]
theorem s180 {s:Str} {c:UInt8}:xCall T 180 [.str s,.str [c]] ⟨os,b,w⟩=some (.bool (decide (0≤Lib.indexByte s c)),⟨os,b,w⟩):=eq sub d180
abbrev Key:=Str × Str × Str
structure Mem where
 cls:Str
 st:Bool
 deriving DecidableEq
def keyF (k:Key):AVal:=.agg [.str k.1,.str k.2.1,.str k.2.2]
def memF (m:Mem):AVal:=.agg [.str m.cls,.bool m.st]
theorem keyKey:KeyF keyF:=fun a c=>by
 obtain ⟨a1,a2,a3⟩:=a
 obtain ⟨c1,c2,c3⟩:=c
 simp only [keyF,akey,a8,br,if_true,akeyL,akey1]
 by_cases h1:a1=c1
 ·by_cases h2:a2=c2
  ·by_cases h3:a3=c3 <;> simp [h1,h2,h3]
  ·simp [h1,h2]
 ·simp [h1]
structure World (O:List AObj) (N:Nat) (S:List (Str × Str)) (F M:List (Key × Mem)) (V:List (Key × Bool)):Prop where
 w0:O[N]? = some (.cells 4 [.map (some (N+1)),.map (some (N+2)),.map (some (N+3)),.map (some (N+4))])
 m1:O[N+1]? = some (mObj .str .str S)
 m2:O[N+2]? = some (mObj keyF memF F)
 m3:O[N+3]? = some (mObj keyF memF M)
 m4:O[N+4]? = some (mObj keyF .bool V)
variable {N:Nat} {S:List (Str × Str)} {F M:List (Key × Mem)} {V:List (Key × Bool)}
theorem World.lt (h:World O N S F M V):N+4 < O.length:=ai h.m4
theorem World.app (h:World O N S F M V) (X:List AObj):World (O++X) N S F M V:=by
 have:=h.lt
 constructor <;> (rw [ag (by omega)])
 ·exact h.w0
 ·exact h.m1
 ·exact h.m2
 ·exact h.m3
 ·exact h.m4
theorem s96 (h:World O N S F M V) {c:Str}:xCall T 96 [.ptr (some (N,0)),.str c] ⟨O,b,w⟩=some (.tuple [.str ((getE S c).getD []),.bool (getE S c).isSome],⟨O,b,w⟩):=by
 have hl:=fun w=>lookup_ok (b:=b) (w:=w) (kn:=.one .s) (zero:=.str []) keyStr h.m1 (k:=c) rfl
 have e:((getE S c).map AVal.str).getD (.str []) = .str ((getE S c).getD []):=by cases getE S c <;> rfl
 rw [e] at hl
 simp [-evExt,av t96,code96,h.w0,hl]
theorem s54 (h:World O N S F M V) {c:Str}:xCall T 54 [.ptr (some (N,0)),.str c] ⟨O,b,w⟩=some (.bool (getE S c).isSome,⟨O,b,w⟩):=by
 have hl:=fun w=>s96 (b:=b) (w:=w) h (c:=c)
 simp [av t54,code54,hl]
def classOf (s:Str):Option Str:=if isObj s then some ((s.drop 1).take (s.length - 2)) else none
theorem classV_eq (s:Str):classV s = .tuple [.str ((classOf s).getD []),.bool (classOf s).isSome]:=by
 unfold classV classOf
 cases isObj s <;> rfl
def thereS (S:List (Str × Str)) (t:Str):Bool:=match classOf (bare t) with
 | some c=>(getE S c).isSome
 | none=>true
theorem s103 (h:World O N S F M V) {t:Str} (hn:t.length≤9223372036854775807):xCall T 103 [.ptr (some (N,0)),.str t] ⟨O,b,w⟩=some (.bool (thereS S t),⟨O,b,w⟩):=by
 have h1:=fun w=>s139 (os:=O) (b:=b) (w:=w) (s:=t)
 have hb:=bare_len t
 have h2:=fun w=>s34 (os:=O) (b:=b) (w:=w) (s:=bare t) (by omega)
 have h3:=fun w c=>s54 (b:=b) (w:=w) h (c:=c)
 rw [classV_eq] at h2
 unfold thereS
 cases hc:classOf (bare t) with
 | none=>rw [hc] at h2; simp [av t103,code103,h1,h2,h3]
 | some c=>rw [hc] at h2; simp [av t103,code103,h1,h2,h3]
def isName (s:Str):Bool:=!decide (0≤Lib.indexByte s 47) && isClass s
theorem s181 {s:Str} (hb:b≤O.length):xCall T 181 [.str s] ⟨O,b,w⟩=some (.bool (isName s),⟨O,b,w⟩):=by
 have h1:=fun w=>s180 (os:=O) (b:=b) (w:=w) (s:=s) (c:=47)
 have h2:=fun w=>s25 (os:=O) (b:=b) (w:=w) (s:=s) hb
 unfold isName
 by_cases c:0≤Lib.indexByte s 47
 ·simp [av t181,code181,h1,h2,c]
 ·simp [av t181,code181,h1,h2,c]
end Go.Abs.AbsHier

namespace Go.Abs.AbsHier
open Go.Abs.AbsDesc
variable {os O:List AObj} {b w:Nat} {N:Nat} {S:List (Str × Str)} {F M:List (Key × Mem)} {V:List (Key × Bool)}
def lineS (S:List (Str × Str)):Nat→Str→List Str
 | 0,_=>[]
 | k+1,c=>match getE S c with
  | some d=>c :: lineS S k d
  | none=>[]
def runL {σ:Type} (step:σ→Str→σ × Option AExit):σ→List Str→σ × Option AExit
 | x,[]=>(x,none)
 | x,c :: r=>match step x c with
  | (y,none)=>runL step y r
  | (y,some e)=>(y,some e)
theorem s156 {c:Str} (hN:N < O.length):xCall T 156 [.ptr (some (N,0)),.str c] ⟨O,b,w⟩ =
  some (.func 155 [] [.ptr (some (O.length,0)),.ptr (some (O.length+1,0))],⟨O++[.cells 1 [.ptr (some (N,0))],.cells 1 [.str c]],b,w⟩):=by
 simp (disch:=omega) [av t156,code156,gi,jf,nltT,nltF,hN]
structure LineB {σ:Type} (B:σ→Str→AObj→List AObj) (N n i g lo:Nat) (sl:List (Nat × AVal)) (S:List (Str × Str)) (step:σ→Str→σ × Option AExit) (b:Nat):Prop where
 bn:b≤n
 lon:lo≤n
 c0:∀ x c o,(B x c o)[n]? = some (.cells 1 [.ptr (some (N,0))])
 c1:∀ x c o,(B x c o)[n+1]? = some (.cells 1 [.str c])
 set:∀ x c d o,(B x c o).set (n+1) (.cells 1 [.str d])=B x d o
 loop:∀ x c o,(B x c o)[i]? = some o
 w0:∀ x c o,∃ r,(B x c o)[N]? = some (.cells 4 (.map (some (N+1)) :: r))
 m1:∀ x c o,(B x c o)[N+1]? = some (mObj .str .str S)
 body:∀ x c w,lo≤w→∃ w',lo≤w'∧w'≤i∧xCall T g [.ptr (some (i,0)),.str c] ⟨B x c (.loop g .ready none sl),b,w⟩ =
  some (.bool (step x c).2.isNone,⟨B (step x c).1 c (match (step x c).2 with | none=>.loop g .ready none sl | some e=>.loop g .done (some e) sl),b,w'⟩)
def endO (g:Nat) (sl:List (Nat × AVal)):Option AExit→AObj
 | none=>.loop g .ready none sl
 | some e=>.loop g .done (some e) sl
section
variable {σ:Type} {B:σ→Str→AObj→List AObj} {n i g lo:Nat} {sl:List (Nat × AVal)} {step:σ→Str→σ × Option AExit}
section
attribute [-simp] getElem?_pos getElem?_neg
theorem l155 (h:LineB B N n i g lo sl S step b) (hS:S.length≤9223372036854775807):∀ (j q:Nat) (x:σ) (c:Str) (w:Nat),q+j=S.length→lo≤w →
  ∃ c' w' e,lo≤w'∧(w'≤i∨(lineS S j c=[]∧c'=c∧w'=w))∧(e = .ret∨e = .exit 0)∧∀ (k:AExit→St→Option (AVal × Heap)),xK T (.loop code155L0) ⟨[(0,.val (.yield i)),(1,.val (.ptr (some (n,0)))),(2,.val (.ptr (some (n+1,0)))),(10,.val (.int .i64 S.length)),(11,.val (.int .i64 q))],⟨B x c (.loop g .ready none sl),b,w⟩⟩ (k:=⟨k⟩) =
   k e ⟨[],⟨B (runL step x (lineS S j c)).1 c' (endO g sl (runL step x (lineS S j c)).2),b,w'⟩⟩
 | 0,q,x,c,w,hq,hw=>by
  refine ⟨c,w,.exit 0,hw,.inr ⟨rfl,rfl,rfl⟩,.inr rfl,fun k=>?_⟩
  rw [cf]
  simp (disch:=omega) [code155L0,iltF,lineS,runL,endO]
 | j+1,q,x,c,w,hq,hw=>by
  obtain ⟨r,hr⟩:=h.w0 x c (.loop g .ready none sl)
  have h0:=h.c0 x c (.loop g .ready none sl)
  have h1:=h.c1 x c (.loop g .ready none sl)
  have hl:=h.loop x c (.loop g .ready none sl)
  have hlk:=lookup_ok (b:=b) (w:=(B x c (.loop g .ready none sl)).length) (kn:=.one .s) (zero:=.str []) keyStr (h.m1 x c (.loop g .ready none sl)) (k:=c) rfl
  have hlk2:=lookup_ok (b:=b) (w:=w) (kn:=.one .s) (zero:=.str []) keyStr (h.m1 x c (.loop g .ready none sl)) (k:=c) rfl
  have e:((getE S c).map AVal.str).getD (.str []) = .str ((getE S c).getD []):=by cases getE S c <;> rfl
  rw [e] at hlk hlk2
  cases hg:getE S c with
  | none =>
   refine ⟨c,w,.ret,hw,.inr ⟨by simp only [lineS,hg],rfl,rfl⟩,.inl rfl,fun k=>?_⟩
   rw [hg] at hlk hlk2
   simp only [jh,ji,de,Option.isSome_some] at hlk hlk2
   rw [cf]
   simp (disch:=omega) [-evExt,gz,gs,code155L0,iltT,h0,h1,hr,hlk,hlk2,lineS,runL,endO,hg]
  | some d =>
   rw [hg] at hlk hlk2
   simp only [jh,ji,de,Option.isSome_some] at hlk hlk2
   obtain ⟨w1,hw1,hwi,hb⟩:=h.body x c w hw
   have hbn:=h.bn
   have hlon:=h.lon
   cases hst:step x c with
   | mk y e =>
    rw [hst] at hb
    simp only at hb
    cases e with
    | some e =>
     refine ⟨c,w1,.ret,hw1,.inl hwi,.inl rfl,fun k=>?_⟩
     rw [cf]
     simp (disch:=omega) [-evExt,gz,gs,code155L0,iltT,h0,h1,hr,hl,hlk,hlk2,hb,lineS,runL,endO,hg,hst]
    | none =>
     obtain ⟨c',w',e',hw',hwj,he',ih⟩:=l155 h hS j (q+1) y d (min w1 (n+1)) (by omega) (by omega)
     refine ⟨c',w',e',hw',?_,he',fun k=>?_⟩
     ·rcases hwj with h2 | ⟨_,_,h2⟩
      ·exact .inl h2
      ·exact .inl (by omega)
     have ih:=ih k
     have e2:((q+1:Nat):Int)=(q:Int)+1:=by omega
     rw [e2] at ih
     have h1':=h.c1 y c (.loop g .ready none sl)
     have hs:=h.set y c d (.loop g .ready none sl)
     rw [cf]
     generalize ACode.loop code155L0=L at ih ⊢
     simp (disch:=omega) [-evExt,gz,gs,code155L0,iltT,nleT,df,h0,h1,h1',hr,hl,hlk,hlk2,hb,hs,lineS,runL,hg,hst,ih]
end
theorem s155 (h:LineB B N n i g lo sl S step b) (hS:S.length≤9223372036854775807) (x:σ) (c:Str) (w:Nat) (hw:lo≤w) (hlo:lo≤(B x c (.loop g .ready none sl)).length) :
  ∃ c' w',lo≤w'∧xCall T 155 [.yield i,.ptr (some (n,0)),.ptr (some (n+1,0))] ⟨B x c (.loop g .ready none sl),b,w⟩ =
   some (.tuple [],⟨B (runL step x (lineS S S.length c)).1 c' (endO g sl (runL step x (lineS S S.length c)).2),b,w'⟩):=by
 have h0:=h.c0 x c (.loop g .ready none sl)
 obtain ⟨r,hr⟩:=h.w0 x c (.loop g .ready none sl)
 have hlen:=fun w=>len_map (b:=b) (w:=w) (h.m1 x c (.loop g .ready none sl))
 obtain ⟨c',w',e,hw',hwi,he,hl⟩:=l155 h hS S.length 0 x c (B x c (.loop g .ready none sl)).length (by omega) hlo
 simp only [bl] at hl
 have hil:=ai (h.loop x c (.loop g .ready none sl))
 refine ⟨c',if w' < (B x c (.loop g .ready none sl)).length then min w w' else w,by split <;> omega,?_⟩
 rcases he with rfl | rfl
 all_goals
  simp (disch:=omega) [-getElem?_pos,-getElem?_neg,-evLen,gz,gs,av t155,code155,h0,hr,hlen,hl]
  rcases hwi with hwi | ⟨h1,h2,_⟩
  ·rw [if_pos (by omega),if_pos (by omega)]
  ·subst h2
   rw [h1]
   split <;> simp [runL,endO]
end
end Go.Abs.AbsHier

namespace Go.Abs.AbsHier
open Go.Abs.AbsDesc
variable {os O:List AObj} {b w:Nat} {N:Nat} {S:List (Str × Str)} {F M:List (Key × Mem)} {V:List (Key × Bool)}
def objectT:Str:=[79,98,106,101,99,116]
def lineEndB (O:List AObj) (N:Nat) (x:Str × Int) (c:Str) (o:AObj):List AObj :=
 O++[.cells 1 [.str x.1],.cells 1 [.int .i64 x.2],.cells 1 [.ptr (some (N,0))],.cells 1 [.str c],o]
def lineEndStep (x:Str × Int) (c:Str):(Str × Int) × Option AExit:=((c,IntKind.i64.wrap (x.2+1)),none)
theorem lineEnd_at (h:World O N S F M V) (hb:b≤O.length):LineB (lineEndB O N) N (O.length+2) (O.length+4) 321 O.length [(5,.ptr (some (O.length,0))),(6,.ptr (some (O.length+1,0)))] S lineEndStep b where
 bn:=by omega
 lon:=by omega
 c0:=fun x c o=>by unfold lineEndB; rw [dy]; rfl
 c1:=fun x c o=>by unfold lineEndB; rw [cg,dy]; rfl
 set:=fun x c d o=>by unfold lineEndB; rw [cg,gk]; rfl
 loop:=fun x c o=>by unfold lineEndB; rw [dy]; rfl
 w0:=fun x c o=>⟨_,by unfold lineEndB; rw [ag (by have:=h.lt; omega)]; exact h.w0⟩
 m1:=fun x c o=>by unfold lineEndB; rw [ag (by have:=h.lt; omega)]; exact h.m1
 body:=fun x c w hw=>by
  have hb1:b≤O.length+1:=by omega
  have hb4:b≤O.length+4:=by omega
  refine ⟨O.length,aj _,by omega,?_⟩
  simp (disch:=omega) [-getElem?_pos,-getElem?_neg,gz,gs,xRoundK t321 rfl,round321,rcode321a,rcode321b,roundSlots,roundIn,roundOut,setArgs,ofCaps,lineEndB,lineEndStep,nltT,nltF,dy,dp,gk,gb,hb,hb1,hb4]
theorem lineS_len (S:List (Str × Str)):∀ (k:Nat) (c:Str),(lineS S k c).length≤k
 | 0,_=>aj _
 | k+1,c=>by
  simp only [lineS]
  split
  ·rename_i d _
   have:=lineS_len S k d
   simp only [a8]; omega
  ·simp
theorem lineEnd_run:∀ (L:List Str) (l:Str) (k:Nat),k+L.length≤9223372036854775807→runL lineEndStep (l,(k:Int)) L=((L.getLastD l,((k+L.length:Nat):Int)),none)
 | [],l,k,_=>rfl
 | c :: L,l,k,h=>by
  simp only [a8] at h
  simp only [runL,lineEndStep]
  rw [wrap_next (n:=k+1) (by omega) (by omega),lineEnd_run L c (k+1) (by omega)]
  simp only [List.getLastD_cons,a8]
  congr 3
  omega
def endsS (S:List (Str × Str)) (c:Str):Bool:=decide ((lineS S S.length c).getLastD []=objectT) && decide (1 < (lineS S S.length c).length)
theorem s98 (h:World O N S F M V) (hb:b≤O.length) (hS:S.length≤9223372036854775807) {c:Str}:xCall T 98 [.ptr (some (N,0)),.str c] ⟨O,b,w⟩=some (.bool (endsS S c),⟨O,b,w⟩):=by
 have hN:=h.lt
 have hN2:N < O.length+2:=by omega
 have hb1:b≤O.length+1:=by omega
 have hb4:b≤O.length+4:=by omega
 have h1:=fun w=>s156 (O:=O++[.cells 1 [.str []],.cells 1 [.int .i64 0]]) (b:=b) (w:=w) (N:=N) (c:=c) (by simp; omega)
 simp only [aw,a8,br,dv,bh,b0,bz,Nat.reduceAdd,cg] at h1
 obtain ⟨c',w',hw',h2⟩:=s155 (lineEnd_at h hb) hS ([],0) c O.length (aj _) (by simp [lineEndB])
 have hrun:=lineEnd_run (lineS S S.length c) [] 0 (by have:=lineS_len S S.length c; omega)
 simp only [bl,dv] at hrun
 rw [hrun] at h2
 simp only [lineEndB,endO,cg,Nat.reduceAdd] at h2
 unfold endsS objectT
 generalize (lineS S S.length c).getLastD []=l at h2 ⊢
 by_cases e:l=[79,98,106,101,99,116]
 ·simp (disch:=omega) [-getElem?_pos,-getElem?_neg,gz,gs,av t98,code98,capsOf,callVal,h1,h2,loopEnd,nltT,nltF,dy,dp,gk,gb,hb,hb1,hb4,e]
  omega
 ·simp (disch:=omega) [-getElem?_pos,-getElem?_neg,gz,gs,av t98,code98,capsOf,callVal,h1,h2,loopEnd,nltT,nltF,dy,dp,gk,gb,hb,hb1,hb4,e]
end Go.Abs.AbsHier

namespace Go.Abs
theorem row_flat {α:Type} {e:Nat} {f:α→List AVal} {cs:List AVal}:∀ (L:List α) (o:Nat),(∀ (j:Nat) (x:α),L[j]? = some x→o+j*e+e≤cs.length∧(cs.drop (o+j*e)).take e=f x)→(cs.drop o).take (L.length*e)=L.flatMap f
 | [],o,_=>by simp
 | x :: L,o,h=>by
  have h0:=(h 0 x rfl).2
  rw [Nat.zero_mul,gt] at h0
  have ih:=row_flat L (o+e) fun j y hy=>by
   have:=h (j+1) y hy
   rw [fm,Nat.one_mul,Nat.add_comm (j*e) e,← cg] at this
   exact this
  rw [a8,fm,Nat.one_mul,Nat.add_comm,List.take_add,co,h0,jl,ih]
theorem rowOf_row {α:Type} {e:Nat} {f:α→List AVal} {h:Heap} {L:List α} {a:Option (Nat × Nat)} {c:Option Nat} (hR:Row h.objs e f L a):rowOf e h (.slice a L.length c)=some (L.flatMap f):=by
 by_cases hL:L=[]
 ·subst hL
  cases a with
  | none=>rfl
  | some p=>rfl
 ·obtain ⟨b,o,cs,h1,h2,h3⟩:=hR.at' hL
  subst h1
  have hl:L.length≠0:=fun e=>hL (bq e)
  have hg:h.get b=some (.cells e cs):=h2
  unfold rowOf
  simp only
  rw [if_neg hl,hg]
  simp only
  obtain ⟨x,hx⟩:∃ x,L[L.length - 1]? = some x:=⟨_,ah (by omega)⟩
  have hb:=(h3 _ _ hx).1
  have he:(L.length - 1)*e+e=L.length*e:=by
   rw [← Nat.succ_mul]; congr 1; omega
  have h2:True∧o+L.length*e≤cs.length:=⟨trivial,by omega⟩
  rw [if_pos h2,row_flat L o h3]
theorem rowOf0 {e:Nat} {h:Heap} {a:Option (Nat × Nat)} {c:Option Nat}:rowOf e h (.slice a 0 c)=some []:=by
 cases a with
 | none=>rfl
 | some p=>rfl
theorem rowOfC {e n:Nat} {h:Heap} {i:Nat} {cs:List AVal} {c:Option Nat} (hg:h.objs[i]? = some (.cells e cs)) (hn:cs.length=n*e):rowOf e h (.slice (some (i,0)) n c)=some cs:=by
 unfold rowOf
 simp only
 split
 ·rename_i h0
  subst h0
  rw [Nat.zero_mul] at hn
  rw [bq hn]
 ·have hg':h.get i=some (.cells e cs):=hg
  rw [hg']
  simp only
  have h2:True∧0+n*e≤cs.length:=⟨trivial,by omega⟩
  rw [if_pos h2,dr,← hn,List.take_length]
theorem ir (t:Nat):sget [] t=none:=by simp
theorem iu (t:Nat) (x:Slot) (r:Slots):sget ((t,x) :: r) t=some x:=by simp
theorem iw (u t:Nat) (x:Slot) (r:Slots) (h:u≠t):sget ((u,x) :: r) t=sget r t:=by simp [h]
end Go.Abs

namespace Go.Abs.AbsHier
open Go.Abs.AbsDesc
variable {os O:List AObj} {b w:Nat} {N:Nat} {S:List (Str × Str)} {F M:List (Key × Mem)} {V:List (Key × Bool)}
def isB (O:List AObj) (N:Nat) (d:Str) (x:Bool) (c:Str) (o:AObj):List AObj :=
 O++[.cells 1 [.str d],.cells 1 [.bool x],.cells 1 [.ptr (some (N,0))],.cells 1 [.str c],o]
def isStep (d:Str) (x:Bool) (c:Str):Bool × Option AExit:=if c=d then (true,some .ret) else (x,none)
theorem is_at {d:Str} (h:World O N S F M V) (hb:b≤O.length):LineB (isB O N d) N (O.length+2) (O.length+4) 320 O.length [(5,.ptr (some (O.length,0))),(6,.ptr (some (O.length+1,0)))] S (isStep d) b where
 bn:=by omega
 lon:=by omega
 c0:=fun x c o=>by unfold isB; rw [dy]; rfl
 c1:=fun x c o=>by unfold isB; rw [cg,dy]; rfl
 set:=fun x c d o=>by unfold isB; rw [cg,gk]; rfl
 loop:=fun x c o=>by unfold isB; rw [dy]; rfl
 w0:=fun x c o=>⟨_,by unfold isB; rw [ag (by have:=h.lt; omega)]; exact h.w0⟩
 m1:=fun x c o=>by unfold isB; rw [ag (by have:=h.lt; omega)]; exact h.m1
 body:=fun x c w hw=>by
  have hb1:b≤O.length+1:=by omega
  have hb4:b≤O.length+4:=by omega
  by_cases e:c=d
  ·refine ⟨min w (O.length+1),by omega,by omega,?_⟩
   simp (disch:=omega) [-getElem?_pos,-getElem?_neg,gz,gs,xRoundK t320 rfl,round320,rcode320a,rcode320b,roundSlots,roundIn,roundOut,setArgs,ofCaps,isB,isStep,nltT,nltF,dy,dp,gk,gb,hb,hb1,hb4,e]
  ·refine ⟨min w (O.length+4),by omega,by omega,?_⟩
   simp (disch:=omega) [-getElem?_pos,-getElem?_neg,gz,gs,xRoundK t320 rfl,round320,rcode320a,rcode320b,roundSlots,roundIn,roundOut,setArgs,ofCaps,isB,isStep,nltT,nltF,dy,dp,gk,gb,hb,hb1,hb4,e]
theorem is_run (d:Str):∀ L:List Str,runL (isStep d) false L=if L.any (fun c=>decide (c=d)) then (true,some .ret) else (false,none)
 | []=>rfl
 | c :: L=>by
  have ih:=is_run d L
  by_cases e:c=d
  ·simp [runL,isStep,e]
  ·simp only [runL,isStep,e,if_false,ih,List.any_cons,decide_false,Bool.false_or]
def isS (S:List (Str × Str)) (c d:Str):Bool:=(lineS S S.length c).any fun x=>decide (x=d)
theorem s52 (h:World O N S F M V) (hb:b≤O.length) (hS:S.length≤9223372036854775807) {c d:Str}:xCall T 52 [.ptr (some (N,0)),.str c,.str d] ⟨O,b,w⟩=some (.bool (isS S c d),⟨O,b,w⟩):=by
 have hN:=h.lt
 have hN2:N < O.length+2:=by omega
 have hb1:b≤O.length+1:=by omega
 have hb4:b≤O.length+4:=by omega
 have h1:=fun w=>s156 (O:=O++[.cells 1 [.str d],.cells 1 [.bool false]]) (b:=b) (w:=w) (N:=N) (c:=c) (by simp; omega)
 simp only [aw,a8,br,dv,bh,b0,bz,Nat.reduceAdd,cg] at h1
 obtain ⟨c',w',hw',h2⟩:=s155 (is_at (d:=d) h hb) hS false c O.length (aj _) (by simp [isB])
 rw [is_run] at h2
 unfold isS
 generalize (lineS S S.length c).any (fun x=>decide (x=d))=r at h2 ⊢
 cases r with
 | true =>
  simp only [if_true,isB,endO,cg,Nat.reduceAdd] at h2
  simp (disch:=omega) [-getElem?_pos,-getElem?_neg,gz,gs,av t52,code52,capsOf,callVal,h1,h2,loopEnd,nltT,nltF,dy,dp,gk,gb,hb,hb1,hb4]
 | false =>
  simp only [am,if_false,isB,endO,cg,Nat.reduceAdd] at h2
  simp (disch:=omega) [-getElem?_pos,-getElem?_neg,gz,gs,av t52,code52,capsOf,callVal,h1,h2,loopEnd,nltT,nltF,dy,dp,gk,gb,hb,hb1,hb4]
theorem s36 {s:Str} (hn:s.length≤9223372036854775807):xCall T 36 [.str s] ⟨os,b,w⟩=some (elemV s,⟨os,b,w⟩):=eq sub (AbsDesc.s36 hn)
theorem s30 {s:Str}:xCall T 30 [.str s] ⟨os,b,w⟩=some (.bool (isRef s),⟨os,b,w⟩):=eq sub AbsDesc.s30
def goesS (S:List (Str × Str)):Str→Str→Bool
 | [],t=>thereS S [] && thereS S t && decide (t=[])
 | x :: r,t=>thereS S (x :: r) && thereS S t && (decide (x :: r=t) || (if x :: r=[78] then isRef t else match classOf (x :: r),classOf t with
  | some a,some c=>isS S a c
  | none,some c=>decide (x=91) && decide (c=objectT)
  | some _,none=>false
  | none,none=>decide (x=91) && begins 91 t && isRef r && isRef t.tail && goesS S r t.tail))
theorem kw {s:Str} {c:Str} (h:classOf s=some c):begins 91 s=false∧begins 76 s=true:=by
 unfold classOf isObj at h
 split at h
 ·rename_i h1
  simp only [au,decide_eq_true_eq] at h1
  refine ⟨?_,h1.1.2⟩
  cases s with
  | nil=>rfl
  | cons x r =>
   have h2:=h1.1.2
   simp only [begins,decide_eq_true_eq] at h2 ⊢
   subst h2; rfl
 ·cases h
section
attribute [-simp] getElem?_pos getElem?_neg List.all_eq_true sget
attribute [local simp] gz gs nltT nltF iltT iltF ileT nleT df ir iu iw
set_option maxHeartbeats 2000000 in
theorem s47 (h:World O N S F M V) (hb:b≤O.length) (hS:S.length≤9223372036854775807):∀ (s t:Str) (w:Nat),s.length≤9223372036854775807→t.length≤9223372036854775807 →
  xCall T 47 [.ptr (some (N,0)),.str s,.str t] ⟨O,b,w⟩=some (.bool (goesS S s t),⟨O,b,w⟩)
 | [],t,w,hs,ht=>by
  have h103a:=fun w=>s103 (b:=b) (w:=w) h (t:=[]) (by simp)
  have h103:=fun w=>s103 (b:=b) (w:=w) h ht
  have h34:=fun w=>s34 (os:=O) (b:=b) (w:=w) ht
  have h34a:=fun w=>s34 (os:=O) (b:=b) (w:=w) (s:=[]) (by simp)
  have h36:=fun w=>s36 (os:=O) (b:=b) (w:=w) ht
  have h36a:=fun w=>s36 (os:=O) (b:=b) (w:=w) (s:=[]) (by simp)
  rw [classV_eq] at h34 h34a
  have hc0:classOf []=none:=rfl
  rw [hc0] at h34a
  simp only [elemV] at h36 h36a
  have hb0:begins 91 []=false:=rfl
  simp only [hb0,am,if_false,jh,ji] at h36a h34a
  unfold goesS
  rcases ap (thereS S []) with c1 | c1
  ·rcases ap (thereS S t) with c2 | c2
   ·by_cases c3:t=[]
    ·subst c3
     simp (disch:=omega) [av t47,code47,h103a,c1,h34a,h36a]
    ·have c3':¬ []=t:=fun e=>c3 e.symm
     simp (disch:=omega) [av t47,code47,h103a,h103,c1,c2,h34a,h36a,h34,h36,c3,c3']
   ·simp (disch:=omega) [av t47,code47,h103a,h103,c1,c2]
  ·simp (disch:=omega) [av t47,code47,h103a,c1]
 | x :: r,t,w,hs,ht=>by
  have hr:r.length≤9223372036854775807:=by simp only [a8] at hs; omega
  have htt:t.tail.length≤9223372036854775807:=by rw [List.length_tail]; omega
  have ih:=fun w=>s47 h hb hS r t.tail w hr htt
  have h103a:=fun w=>s103 (b:=b) (w:=w) h hs
  have h103:=fun w=>s103 (b:=b) (w:=w) h ht
  have h34:=fun w=>s34 (os:=O) (b:=b) (w:=w) ht
  have h34a:=fun w=>s34 (os:=O) (b:=b) (w:=w) hs
  have h36:=fun w=>s36 (os:=O) (b:=b) (w:=w) ht
  have h36a:=fun w=>s36 (os:=O) (b:=b) (w:=w) hs
  have h30:=fun w s=>s30 (os:=O) (b:=b) (w:=w) (s:=s)
  have h52:=fun w a c=>s52 (w:=w) h hb hS (c:=a) (d:=c)
  rw [classV_eq] at h34 h34a
  simp only [elemV] at h36 h36a
  have hbx:begins 91 (x :: r)=decide (x=91):=rfl
  rw [hbx] at h36a
  simp only [List.tail_cons] at h36a
  rw [av t47]
  unfold goesS
  have hA:=fun c (e:classOf (x :: r)=some c)=>(kw e).1
  have hB:=fun c (e:classOf t=some c)=>(kw e).1
  rw [hbx] at hA
  generalize hS0:x :: r=s at *
  rcases ap (thereS S s) with c1 | c1
  case inr=>simp (disch:=omega) [code47,h103a,c1]
  rcases ap (thereS S t) with c2 | c2
  case inr=>simp (disch:=omega) [code47,h103a,h103,c1,c2]
  by_cases c3:s=t
  ·subst c3
   cases hc:classOf s with
   | none =>
    rw [hc] at h34
    by_cases c5:x=91
    ·simp (disch:=omega) [code47,h103,c1,h34,h36a,c5]
    ·simp (disch:=omega) [code47,h103,c1,h34,h36a,c5]
   | some q =>
    rw [hc] at h34
    by_cases c5:x=91
    ·simp (disch:=omega) [code47,h103,c1,h34,h36a,c5]
    ·simp (disch:=omega) [code47,h103,c1,h34,h36a,c5]
  by_cases c4:s=[78]
  ·have hc:classOf s=none:=by rw [c4]; rfl
   have c5:¬ x=91:=by rw [c4] at hS0; simp only [iy] at hS0; rw [hS0.1]; decide
   rw [hc] at h34a
   have c3':¬ [78]=t:=by rw [← c4]; exact c3
   subst c4
   simp (disch:=omega) [code47,h103a,h103,c1,c2,c3',h34a,h34,h36a,h36,c5,h30]
  cases hc:classOf s with
  | some a =>
   have c5:¬ x=91:=by have:=hA a hc; simpa using this
   rw [hc] at h34a
   cases hd:classOf t with
   | some c =>
    rw [hd] at h34
    have c6:=hB c hd
    simp (disch:=omega) [code47,h103a,h103,c1,c2,c3,c4,h34a,h34,h36a,h36,c5,c6,h30,h52]
   | none =>
    rw [hd] at h34
    simp (disch:=omega) [code47,h103a,h103,c1,c2,c3,c4,h34a,h34,h36a,h36,c5,h30,h52]
  | none =>
   rw [hc] at h34a
   cases hd:classOf t with
   | some c =>
    rw [hd] at h34
    have c6:=hB c hd
    by_cases c5:x=91
    ·simp (disch:=omega) [code47,h103a,h103,c1,c2,c3,c4,h34a,h34,h36a,h36,c5,c6,h30,h52,objectT]
     congr
    ·simp (disch:=omega) [code47,h103a,h103,c1,c2,c3,c4,h34a,h34,h36a,h36,c5,c6,h30,h52,objectT]
   | none =>
    rw [hd] at h34
    by_cases c5:x=91
    ·rcases ap (begins 91 t) with c6 | c6
     ·rcases ap (isRef r) with c7 | c7
      ·rcases ap (isRef t.tail) with c8 | c8
       ·simp (disch:=omega) [code47,h103a,h103,c1,c2,c3,c4,h34a,h34,h36a,h36,c5,c6,c7,c8,h30,ih]
       ·simp (disch:=omega) [code47,h103a,h103,c1,c2,c3,c4,h34a,h34,h36a,h36,c5,c6,c7,c8,h30,ih]
      ·simp (disch:=omega) [code47,h103a,h103,c1,c2,c3,c4,h34a,h34,h36a,h36,c5,c6,c7,h30,ih]
     ·simp (disch:=omega) [code47,h103a,h103,c1,c2,c3,c4,h34a,h34,h36a,h36,c5,c6,h30,ih]
    ·simp (disch:=omega) [code47,h103a,h103,c1,c2,c3,c4,h34a,h34,h36a,h36,c5,h30,ih]
end
end Go.Abs.AbsHier

namespace Go.Abs.AbsHier
open Go.Abs.AbsDesc
variable {os O:List AObj} {b w:Nat} {N:Nat} {S:List (Str × Str)} {F M:List (Key × Mem)} {V:List (Key × Bool)}
end Go.Abs.AbsHier

namespace Go.Abs.AbsHier
open Go.Abs.AbsDesc
variable {os O:List AObj} {b w:Nat} {N:Nat} {S:List (Str × Str)} {F M:List (Key × Mem)} {V:List (Key × Bool)}
def overB (O G:List AObj) (N:Nat) (m:MethU) (x:Bool) (c:Str) (o:AObj):List AObj :=
 O ++ .cells 1 [.ptr (some (N,0))] :: .cells 1 [.bool x] :: (G++[.cells 8 m.cells,.cells 1 [.ptr (some (N,0))],.cells 1 [.str c],o])
def overOk (M:List (Key × Mem)) (m:MethU) (c:Str):Bool:=match getE M (c,m.name,m.desc) with
 | some y=>y.st == m.st
 | none=>true
def overStep (M:List (Key × Mem)) (m:MethU) (x:Bool) (c:Str):Bool × Option AExit:=if overOk M m c then (x,none) else (false,some .ret)
section
attribute [-simp] getElem?_pos getElem?_neg
attribute [local simp] gz gs
theorem over_at {G:List AObj} {m:MethU} (h:World O N S F M V) (hb:b≤O.length) :
  LineB (overB O G N m) N (O.length+(G.length+3)) (O.length+(G.length+5)) 322 O.length [(2,.ptr (some (O.length,0))),(4,.ptr (some (O.length+1,0))),(6,.ptr (some (O.length+(G.length+2),0)))] S (overStep M m) b where
 bn:=by omega
 lon:=by omega
 c0:=fun x c o=>by unfold overB; rw [dy]; simp only [gu,dy]; rfl
 c1:=fun x c o=>by unfold overB; rw [cg,dy]; simp only [gu,cg,dy]; rfl
 set:=fun x c d o=>by unfold overB; rw [cg,gk]; simp only [List.set_cons_succ,cg,gk]; rfl
 loop:=fun x c o=>by unfold overB; rw [dy]; simp only [gu,dy]; rfl
 w0:=fun x c o=>⟨_,by unfold overB; rw [ag (by have:=h.lt; omega)]; exact h.w0⟩
 m1:=fun x c o=>by unfold overB; rw [ag (by have:=h.lt; omega)]; exact h.m1
 body:=fun x c w hw=>by
  have hl:=h.lt
  have hw0:∀ X,(O++X)[N]? = _:=fun X=>(ag (l₂:=X) (show N < O.length by omega)).trans h.w0
  have hb1:b≤O.length+1:=by omega
  have hb5:b≤O.length+(G.length+5):=by omega
  have hlk:=fun X w=>lookup_ok (os:=O++X) (b:=b) (w:=w) (r:=N+3) (A:=M) (vf:=memF) (kn:=.agg [.s,.s,.s]) (zero:=.agg [.str [],.bool false]) keyKey (by rw [ag (by omega)]; exact h.m3) (k:=(c,m.name,m.desc)) rfl
  simp only [keyF] at hlk
  cases hg:getE M (c,m.name,m.desc) with
  | none =>
   rw [hg] at hlk
   simp only [Option.map_none,jh,ji] at hlk
   refine ⟨min w (O.length+(G.length+5)),by omega,by omega,?_⟩
   simp (config:={ maxSteps:=1000000 }) (disch:=omega) [-evExt,xRoundK t322 rfl,round322,rcode322a,rcode322b,roundSlots,roundIn,roundOut,setArgs,ofCaps,overB,overStep,overOk,nltT,nltF,dy,dp,gk,gb,hb,hb1,hb5,hlk,hg,hw0,MethU.cells]
  | some y =>
   rw [hg] at hlk
   simp only [ce,de,Option.isSome_some,memF] at hlk
   by_cases e:y.st=m.st
   ·refine ⟨min w (O.length+(G.length+5)),by omega,by omega,?_⟩
    simp (config:={ maxSteps:=1000000 }) (disch:=omega) [-evExt,xRoundK t322 rfl,round322,rcode322a,rcode322b,roundSlots,roundIn,roundOut,setArgs,ofCaps,overB,overStep,overOk,nltT,nltF,dy,dp,gk,gb,hb,hb1,hb5,hlk,hg,hw0,MethU.cells,e]
   ·refine ⟨min w (O.length+1),by omega,by omega,?_⟩
    simp (config:={ maxSteps:=1000000 }) (disch:=omega) [-evExt,xRoundK t322 rfl,round322,rcode322a,rcode322b,roundSlots,roundIn,roundOut,setArgs,ofCaps,overB,overStep,overOk,nltT,nltF,dy,dp,gk,gb,hb,hb1,hb5,hlk,hg,hw0,MethU.cells,e]
end
def overM (S:List (Str × Str)) (M:List (Key × Mem)) (c:Str) (m:MethU):Bool:=(lineS S S.length c).all (overOk M m)
theorem over_run (M:List (Key × Mem)) (m:MethU):∀ L:List Str,runL (overStep M m) false L=(false,if L.all (overOk M m) then none else some .ret)
 | []=>rfl
 | c :: L=>by
  simp only [runL,overStep,dl]
  by_cases e:overOk M m c=true
  ·simp only [e,if_true,cz]; exact over_run M m L
  ·simp [e]
theorem ig {α:Type} {e:Nat} {f:α→List AVal} {L:List α} {a:Option (Nat × Nat)} (h:Row os e f L a) {i:Nat} {x:α} (hx:L[i]? = some x) :
  ∃ p o cs,a=some (p,o)∧os[p]? = some (.cells e cs)∧p < os.length∧o+i*e+e≤cs.length∧(cs.drop (o+i*e)).take e=f x:=by
 obtain ⟨p,o,cs,h1,h2,h3⟩:=h.at' (ne_of_get hx)
 exact ⟨p,o,cs,h1,h2,ai h2,h3 i x hx⟩
section
attribute [-simp] getElem?_pos getElem?_neg
theorem l97 {u:UnitU} (hu:u.ok O) (h:World O N S F M V) (hb:b≤O.length) (hS:S.length≤9223372036854775807):∀ (j i:Nat) (G:List AObj) (w:Nat),i+j=u.meths.length→O.length≤w →
  ∃ G' w' s',O.length≤w'∧sget s' 4=some (.val (.ptr (some (O.length+1,0))))∧∀ (k:AExit→St→Option (AVal × Heap)),
   xK T (.loop code97L1) ⟨[(2,.val (.ptr (some (O.length,0)))),(3,.var u.cells),(4,.val (.ptr (some (O.length+1,0)))),(11,.val (.slice u.ma u.meths.length u.mc)),(12,.val (.int .i64 u.meths.length)),(13,.val (.int .i64 i))],
    ⟨O ++ .cells 1 [.ptr (some (N,0))] :: .cells 1 [.bool false] :: G,b,w⟩⟩ (k:=⟨k⟩) =
   if (u.meths.drop i).all (overM S M u.name) then k (.exit 0) ⟨[(4,.val (.ptr (some (O.length+1,0))))],⟨O ++ .cells 1 [.ptr (some (N,0))] :: .cells 1 [.bool false] :: G',b,w'⟩⟩
   else k .ret ⟨s',⟨O ++ .cells 1 [.ptr (some (N,0))] :: .cells 1 [.bool false] :: G',b,w'⟩⟩
 | 0,i,G,w,hi,hw=>by
  refine ⟨G,w,[(4,.val (.ptr (some (O.length+1,0))))],hw,rfl,fun k=>?_⟩
  rw [cf,bg (by omega)]
  simp (disch:=omega) [code97L1,iltF]
 | j+1,i,G,w,hi,hw=>by
  obtain ⟨m,hm⟩:∃ m,u.meths[i]? = some m:=⟨_,ah (by omega)⟩
  obtain ⟨p,o,cs,ha,hp,hpl,hcs,ht⟩:=ig hu.m hm
  have hmn:u.meths.length≤9223372036854775807:=hu.mn
  have hml:m.cells.length=8:=rfl
  have hd:u.meths.drop i=m :: u.meths.drop (i+1):=by
   have:=ai hm
   rw [ah this] at hm
   rw [ea this,dg hm]
  have hb2:b≤O.length+(G.length+2):=by omega
  have hb5:b≤O.length+(G.length+5):=by omega
  have hp':∀ X,(O++X)[p]? = _:=fun X=>(ag (l₂:=X) hpl).trans hp
  have hl:=h.lt
  have h1:=fun w=>s156 (O:=O ++ .cells 1 [.ptr (some (N,0))] :: .cells 1 [.bool false] :: (G++[.cells 8 m.cells])) (b:=b) (w:=w) (N:=N) (c:=u.name) (by simp; omega)
  simp only [aw,a8,br,dv,bh,b0,bz,Nat.reduceAdd,cg] at h1
  obtain ⟨c',w',hw',h2⟩:=s155 (over_at (G:=G) (m:=m) h hb) hS false u.name (min w (O.length+(G.length+2))) (by omega) (by simp [overB])
  rw [over_run] at h2
  have hov:overM S M u.name m=(lineS S S.length u.name).all (overOk M m):=rfl
  rw [← hov] at h2
  by_cases e:overM S M u.name m=true
  ·rw [if_pos e] at h2
   simp only [overB,endO,cg,Nat.reduceAdd] at h2
   obtain ⟨G',w2,s',k1,k2,ih⟩:=l97 hu h hb hS j (i+1) (G++[.cells 8 m.cells,.cells 1 [.ptr (some (N,0))],.cells 1 [.str c'],.dead]) (min w' (O.length+(G.length+5))) (by omega) (by omega)
   refine ⟨G',w2,s',k1,k2,fun k=>?_⟩
   have ih:=ih k
   have e2:((i+1:Nat):Int)=(i:Int)+1:=by omega
   rw [e2] at ih
   rw [cf,hd]
   simp only [dl,e,cz]
   rw [← ih]
   generalize ACode.loop code97L1=L
   simp (disch:=omega) [gz,gs,code97L1,capsOf,callVal,h1,h2,loopEnd,nltT,nltF,iltT,ileT,nleT,df,dy,dp,gk,gb,hb,hb2,hb5,hp',ht,ha,hml,UnitU.cells,cg]
  ·rw [if_neg e] at h2
   simp only [overB,endO,cg,Nat.reduceAdd] at h2
   refine ⟨G++[.cells 8 m.cells,.cells 1 [.ptr (some (N,0))],.cells 1 [.str c'],.dead],min w' (O.length+(G.length+5)),?_,by omega,?_,fun k=>?_⟩
   rotate_left 2
   ·rw [cf,hd]
    simp only [dl,e,dk,am,if_false]
    generalize ACode.loop code97L1=L
    simp (disch:=omega) [gz,gs,code97L1,capsOf,callVal,h1,h2,loopEnd,nltT,nltF,iltT,ileT,nleT,df,dy,dp,gk,gb,hb,hb2,hb5,hp',ht,ha,hml,UnitU.cells,cg]
    rfl
   ·rfl
end
def overS (S:List (Str × Str)) (M:List (Key × Mem)) (u:UnitU):Bool:=u.meths.all (overM S M u.name)
theorem s97 {u:UnitU} (hu:u.ok O) (h:World O N S F M V) (hb:b≤O.length) (hS:S.length≤9223372036854775807):xCall T 97 [.ptr (some (N,0)),.agg u.cells] ⟨O,b,w⟩=some (.bool (overS S M u),⟨O,b,w⟩):=by
 have hl:=h.lt
 have hb1:b≤O.length+1:=by omega
 obtain ⟨G',w',s',k1,k2,hk⟩:=l97 hu h hb hS u.meths.length 0 [] O.length (by omega) (aj _)
 simp only [bl,dr] at hk
 unfold overS
 by_cases e:u.meths.all (overM S M u.name)=true
 ·simp only [e,if_true] at hk ⊢
  unfold UnitU.cells at hk ⊢
  simp (disch:=omega) [-getElem?_pos,-getElem?_neg,gz,gs,av t97,code97,hk,nltT,nltF,dy,dp,gk,gb,hb,hb1]
 ·simp only [e,if_false] at hk ⊢
  unfold UnitU.cells at hk ⊢
  simp (disch:=omega) [-getElem?_pos,-getElem?_neg,gz,gs,av t97,code97,hk,k2,nltT,nltF,dy,dp,gk,gb,hb,hb1]
end Go.Abs.AbsHier

namespace Go.Abs.AbsHier
open Go.Abs.AbsDesc
variable {os O:List AObj} {b w:Nat} {N:Nat} {S:List (Str × Str)} {F M:List (Key × Mem)} {V:List (Key × Bool)}
theorem World.setF (h:World O N S F M V) (F':List (Key × Mem)):World (O.set (N+2) (mObj keyF memF F')) N S F' M V:=by
 have hl:=h.lt
 constructor
 ·rw [aq (by omega)]; exact h.w0
 ·rw [aq (by omega)]; exact h.m1
 ·rw [db,if_pos rfl,if_pos (by omega)]
 ·rw [aq (by omega)]; exact h.m3
 ·rw [aq (by omega)]; exact h.m4
theorem World.setM (h:World O N S F M V) (M':List (Key × Mem)):World (O.set (N+3) (mObj keyF memF M')) N S F M' V:=by
 have hl:=h.lt
 constructor
 ·rw [aq (by omega)]; exact h.w0
 ·rw [aq (by omega)]; exact h.m1
 ·rw [aq (by omega)]; exact h.m2
 ·rw [db,if_pos rfl,if_pos (by omega)]
 ·rw [aq (by omega)]; exact h.m4
def fieldOk (S:List (Str × Str)) (A:List (Str × Bool)) (f:FieldU):Bool:=isName f.name && isTy f.desc && thereS S f.desc && !(getE A f.name).getD false
def fieldsS (S:List (Str × Str)):List (Str × Bool)→List FieldU→Bool
 | _,[]=>true
 | A,f :: r=>fieldOk S A f && fieldsS S (A++[(f.name,true)]) r
def fieldE (c:Str) (f:FieldU):Key × Mem:=((c,f.name,f.desc),⟨c,f.st⟩)
theorem l99 {u:UnitU} (hu:u.ok os) (hp:Pre os O) (hN:os.length≤N) (h:World O N S F M V) (hb:b≤N):∀ (j i:Nat) (F':List (Key × Mem)) (A:List (Str × Bool)) (w:Nat),i+j=u.fields.length→N+2≤w →
  (∀ x ∈ F',x.1.1=u.name→(getE A x.1.2.1).isSome=true)→(∀ x ∈ A,x.2=true) →
  ∃ O' w' e s',N+2≤w'∧(if fieldsS S A (u.fields.drop i) then e = .exit 0∧s'=[]∧(w'≤N+2∨(u.fields.drop i=[]∧w'=w))∧∃ X,O'=O.set (N+2) (mObj keyF memF (F'++(u.fields.drop i).map (fieldE u.name)))++X else e = .ret∧s'=[(4,.val (.bool false))]) ∧
   ∀ (k:AExit→St→Option (AVal × Heap)),
   xK T (.loop code99L0) ⟨[(0,.val (.ptr (some (N,0)))),(3,.var u.cells),(5,.val (.map (some O.length))),(10,.val (.slice u.fa u.fields.length u.fc)),(11,.val (.int .i64 u.fields.length)),(12,.val (.int .i64 i))],
    ⟨O.set (N+2) (mObj keyF memF F')++[mObj .str .bool A],b,w⟩⟩ (k:=⟨k⟩)=k e ⟨s',⟨O',b,w'⟩⟩
 | 0,i,F',A,w,hi,hw,hF,hA=>by
  refine ⟨O.set (N+2) (mObj keyF memF F')++[mObj .str .bool A],w,.exit 0,[],hw,?_,fun k=>?_⟩
  ·rw [bg (by omega)]
   simp only [fieldsS,if_true,eu,ci]
   exact ⟨trivial,trivial,.inr ⟨trivial,trivial⟩,_,rfl⟩
  ·rw [cf]
   simp (disch:=omega) [-getElem?_pos,-getElem?_neg,code99L0,iltF]
 | j+1,i,F',A,w,hi,hw,hF,hA=>by
  obtain ⟨f,hf⟩:∃ f,u.fields[i]? = some f:=⟨_,ah (by omega)⟩
  obtain ⟨p,o,cs,ha,hpp,hpl,hcs,ht⟩:=ig hu.f hf
  have hfn:u.fields.length≤9223372036854775807:=hu.fn
  obtain ⟨hn1,hn2⟩:=hu.fok f (az hf)
  have hd:u.fields.drop i=f :: u.fields.drop (i+1):=by
   have:=ai hf
   rw [ah this] at hf
   rw [ea this,dg hf]
  have hl:=h.lt
  have hW:=(h.setF F').app [mObj .str .bool A]
  have hpO:(O.set (N+2) (mObj keyF memF F')++[mObj .str .bool A])[p]? = some (.cells 3 cs):=by
   rw [ag (by simp; omega),aq (by omega)]; exact hp _ _ hpp
  have hAl:(O.set (N+2) (mObj keyF memF F')++[mObj .str .bool A])[O.length]? = some (mObj .str .bool A):=by
   rw [ak (by simp)]; simp
  have hbO:b≤(O.set (N+2) (mObj keyF memF F')++[mObj .str .bool A]).length:=by simp; omega
  have h181:=fun w=>s181 (O:=O.set (N+2) (mObj keyF memF F')++[mObj .str .bool A]) (b:=b) (w:=w) (s:=f.name) hbO
  have h27:=fun w=>s27 (os:=O.set (N+2) (mObj keyF memF F')++[mObj .str .bool A]) (b:=b) (w:=w) (s:=f.desc) hn2 hbO
  have h103:=fun w=>s103 (b:=b) (w:=w) hW (t:=f.desc) hn2
  have hlk:=fun w=>lookup_v (b:=b) (w:=w) (kn:=.one .s) (zero:=.bool false) keyStr hAl (k:=f.name) rfl
  have hlv:((getE A f.name).map AVal.bool).getD (.bool false) = .bool ((getE A f.name).getD false):=by cases getE A f.name <;> rfl
  rw [hlv] at hlk
  have hm1:=hW.w0
  have hc0:f.cells=[.bool f.st,.str f.name,.str f.desc]:=rfl
  rw [hc0] at ht
  by_cases c:fieldOk S A f=true
  ·have hc:=c
   unfold fieldOk at hc
   simp only [au,ff] at hc
   obtain ⟨⟨⟨c1,c2⟩,c3⟩,c4⟩:=hc
   have hgA:getE A f.name=none:=by
    cases hg:getE A f.name with
    | none=>rfl
    | some v =>
     have:=hA _ (getE_mem hg)
     simp only at this
     rw [hg,this] at c4; cases c4
   have hgF:getE F' (u.name,f.name,f.desc)=none:=by
    cases hg:getE F' (u.name,f.name,f.desc) with
    | none=>rfl
    | some v =>
     have:=hF _ (getE_mem hg) rfl
     simp only at this
     rw [hgA] at this; cases this
   have hup1:=fun w=>upd_new (b:=b) (w:=w) (kn:=.one .s) keyStr hAl (k:=f.name) true rfl (by omega) hgA
   have hs1:(O.set (N+2) (mObj keyF memF F')++[mObj .str .bool A]).set O.length (mObj .str .bool (A++[(f.name,true)]))=O.set (N+2) (mObj keyF memF F')++[mObj .str .bool (A++[(f.name,true)])]:=by
    rw [List.set_append_right _ _ (by simp)]; simp
   simp only [hs1] at hup1
   have hW2:=(h.setF F').app [mObj .str .bool (A++[(f.name,true)])]
   have hup2:=fun w=>upd_new (b:=b) (w:=w) (kn:=.agg [.s,.s,.s]) keyKey hW2.m2 (k:=(u.name,f.name,f.desc)) ⟨u.name,f.st⟩ rfl (by omega) hgF
   have hs2:(O.set (N+2) (mObj keyF memF F')++[mObj .str .bool (A++[(f.name,true)])]).set (N+2) (mObj keyF memF (F'++[((u.name,f.name,f.desc),⟨u.name,f.st⟩)]))=O.set (N+2) (mObj keyF memF (F'++[fieldE u.name f]))++[mObj .str .bool (A++[(f.name,true)])]:=by
    rw [List.set_append_left _ _ (by simp; omega),List.set_set]; rfl
   simp only [hs2,keyF,memF] at hup2
   have hm2:=hW2.w0
   obtain ⟨O',w',e,s',r1,r2,ih⟩:=l99 hu hp hN h hb j (i+1) (F'++[fieldE u.name f]) (A++[(f.name,true)]) (min (min w O.length) (N+2)) (by omega) (by omega) (fun x hx hn=>by
     rcases bo.1 hx with hx | hx
     ·rw [kx]
      have:=hF x hx hn
      cases hg:getE A x.1.2.1 with
      | none=>rw [hg] at this; cases this
      | some v=>rfl
     ·rw [du] at hx
      subst hx
      rw [kx]
      simp only [fieldE,hgA,Option.none_or,getE,if_true]
      rfl) (fun x hx=>by
     rcases bo.1 hx with hx | hx
     ·exact hA x hx
     ·rw [du] at hx; subst hx; rfl)
   refine ⟨O',w',e,s',r1,?_,fun k=>?_⟩
   ·rw [hd]
    simp only [fieldsS,c,cz]
    rw [bu]
    rw [bh,List.singleton_append] at r2
    split at r2
    ·rename_i hff
     obtain ⟨q1,q2,q3,q4⟩:=r2
     rw [if_pos hff]
     refine ⟨q1,q2,.inl ?_,q4⟩
     rcases q3 with q3 | ⟨_,q3⟩ <;> omega
    ·rename_i hff
     rw [if_neg hff]; exact r2
   have ih:=ih k
   have e2:((i+1:Nat):Int)=(i:Int)+1:=by omega
   rw [e2] at ih
   rw [cf,← ih]
   generalize ACode.loop code99L0=L
   generalize O.set (N+2) (mObj keyF memF F')++[mObj .str .bool A]=H at hpO hAl hW hbO h181 h27 h103 hlk hup1 hm1 hs1 ⊢
   generalize O.set (N+2) (mObj keyF memF F')++[mObj .str .bool (A++[(f.name,true)])]=H2 at hup1 hW2 hup2 hs1 hs2 hm2 ⊢
   generalize O.set (N+2) (mObj keyF memF (F'++[fieldE u.name f]))++[mObj .str .bool (A++[(f.name,true)])]=H3 at hup2 hs2 ⊢
   simp (disch:=omega) [-getElem?_pos,-getElem?_neg,-evExt,gz,gs,code99L0,h181,h27,h103,hlk,nltT,nltF,iltT,ileT,nleT,df,hb,hpO,ht,ha,c1,c2,c3,c4,hup1,hup2,hm1,hm2,keyF,memF,UnitU.cells]
  ·have hfl:fieldsS S A (u.fields.drop i)=false:=by rw [hd]; simp only [fieldsS,Bool.and_eq_false_iff]; left; simpa using c
   rw [hfl]
   refine ⟨O.set (N+2) (mObj keyF memF F')++[mObj .str .bool A],w,.ret,[(4,.val (.bool false))],hw,by simp,fun k=>?_⟩
   rw [cf]
   generalize ACode.loop code99L0=L
   generalize O.set (N+2) (mObj keyF memF F')++[mObj .str .bool A]=H at hpO hAl hW hbO h181 h27 h103 hlk hm1 ⊢
   unfold fieldOk at c
   cases c1:isName f.name with
   | false=>simp (disch:=omega) [-getElem?_pos,-getElem?_neg,-evExt,gz,gs,code99L0,h181,h27,h103,hlk,nltT,nltF,iltT,ileT,nleT,df,hb,hpO,ht,ha,c1,UnitU.cells]
   | true =>
    cases c2:isTy f.desc with
    | false=>simp (disch:=omega) [-getElem?_pos,-getElem?_neg,-evExt,gz,gs,code99L0,h181,h27,h103,hlk,nltT,nltF,iltT,ileT,nleT,df,hb,hpO,ht,ha,c1,c2,UnitU.cells]
    | true =>
     cases c3:thereS S f.desc with
     | false=>simp (disch:=omega) [-getElem?_pos,-getElem?_neg,-evExt,gz,gs,code99L0,h181,h27,h103,hlk,nltT,nltF,iltT,ileT,nleT,df,hb,hpO,ht,ha,c1,c2,c3,UnitU.cells]
     | true =>
      cases c4:(getE A f.name).getD false with
      | false=>rw [c1,c2,c3,c4] at c; exact absurd rfl c
      | true=>simp (disch:=omega) [-getElem?_pos,-getElem?_neg,-evExt,gz,gs,code99L0,h181,h27,h103,hlk,nltT,nltF,iltT,ileT,nleT,df,hb,hpO,ht,ha,c1,c2,c3,c4,UnitU.cells]
theorem mObj_set (h:World O N S F M V):O.set (N+2) (mObj keyF memF F)=O:=by
 have:=h.lt
 refine js fun i=>?_
 by_cases e:N+2=i
 ·subst e; rw [db,if_pos rfl,if_pos (by omega),h.m2]
 ·rw [aq e]
section
attribute [-simp] getElem?_pos getElem?_neg
attribute [local simp] gz gs
theorem s99 {u:UnitU} (hu:u.ok os) (hp:Pre os O) (hN:os.length≤N) (h:World O N S F M V) (hb:b≤N) (hF:∀ x ∈ F,x.1.1≠u.name) :
  ∃ O' w',min w (N+2)≤w'∧(fieldsS S [] u.fields=true→∃ X,O'=O.set (N+2) (mObj keyF memF (F++u.fields.map (fieldE u.name)))++X) ∧
   xCall T 99 [.ptr (some (N,0)),.agg u.cells] ⟨O,b,w⟩=some (.bool (fieldsS S [] u.fields),⟨O',b,w'⟩):=by
 have hl:=h.lt
 obtain ⟨O',w',e,s',r1,r2,hk⟩:=l99 hu hp hN h hb u.fields.length 0 F [] O.length (by omega) (by omega) (fun x hx hn=>absurd hn (hF x hx)) (fun _ h=>by cases h)
 rw [mObj_set h] at hk
 have hm0:mObj AVal.str AVal.bool [] = .map [] 0:=rfl
 simp only [bl,dr,hm0] at hk r2
 by_cases c:fieldsS S [] u.fields=true
 ·rw [if_pos c] at r2
  obtain ⟨rfl,rfl,q3,X,q4⟩:=r2
  rw [c]
  rcases q3 with q3 | ⟨q3,q5⟩
  ·refine ⟨O',min w w',by omega,fun _=>⟨X,q4⟩,?_⟩
   unfold UnitU.cells at hk ⊢
   simp (disch:=omega) [av t99,code99,hk,nltT]
  ·refine ⟨O,w,by omega,fun _=>⟨[],by rw [q3,eu,ci,ci,mObj_set h]⟩,?_⟩
   unfold UnitU.cells at hk ⊢
   simp (disch:=omega) [av t99,code99,hk,nltF]
 ·rw [if_neg c] at r2
  obtain ⟨rfl,rfl⟩:=r2
  have c':fieldsS S [] u.fields=false:=by simpa using c
  rw [c']
  refine ⟨if w' < O.length then O' else O,if w' < O.length then min w w' else w,by split <;> omega,by simp,?_⟩
  unfold UnitU.cells at hk ⊢
  simp (disch:=omega) [av t99,code99,hk]
  split <;> rfl
end
end Go.Abs.AbsHier

namespace Go.Abs.AbsHier
open Go.Abs.AbsDesc
variable {os O:List AObj} {b w:Nat} {N:Nat} {S:List (Str × Str)} {F M:List (Key × Mem)} {V:List (Key × Bool)}
theorem methL_len {s:Str} {A:List Str} {r:Str} (h:methL s=some (A,r)):A.length≤16∧r.length≤s.length∧∀ t ∈ A,t.length≤s.length:=by
 unfold methL at h
 split at h
 ·split at h
  ·rename_i A' r' hm
   split at h
   ·cases h
    obtain ⟨h1,h2,h3⟩:=methA_len hm
    simp only [List.length_tail] at h2 h3
    exact ⟨h1,by simp only [List.length_tail]; omega,fun t ht=>by have:=h3 t ht; omega⟩
   ·cases h
  ·cases h
 ·cases h
section
attribute [-simp] getElem?_pos getElem?_neg
theorem l182 {H:List AObj} {L:List Str} {a:Option (Nat × Nat)} {c:Option Nat} {m:MethU} (h:World H N S F M V) (hR:Row H 1 strC L a) (hL:L.length≤9223372036854775807) (ht:∀ t ∈ L,t.length≤9223372036854775807) :
  ∀ (j i:Nat) (w:Nat),i+j=L.length→∀ (k:AExit→St→Option (AVal × Heap)),
  xK T (.loop code182L1) ⟨[(0,.val (.ptr (some (N,0)))),(3,.var m.cells),(30,.val (.slice a L.length c)),(31,.val (.int .i64 L.length)),(32,.val (.int .i64 i))],⟨H,b,w⟩⟩ (k:=⟨k⟩) =
   if (L.drop i).all (thereS S) then k (.exit 0) ⟨[(0,.val (.ptr (some (N,0)))),(3,.var m.cells)],⟨H,b,w⟩⟩ else k .ret ⟨[(4,.val (.bool false))],⟨H,b,w⟩⟩
 | 0,i,w,hi,k=>by
  rw [cf,bg (by omega)]
  simp (disch:=omega) [code182L1,iltF]
 | j+1,i,w,hi,k=>by
  obtain ⟨t,hx⟩:∃ t,L[i]? = some t:=⟨_,ah (by omega)⟩
  obtain ⟨p,o,cs,rfl,hp,hpl,hcs,hv⟩:=ig hR hx
  have hg:cs[o+i]? = some (.str t):=by
   have:(List.take 1 (List.drop (o+i*1) cs))[0]? = some (.str t):=by rw [hv]; rfl
   simpa using this
  have hd:L.drop i=t :: L.drop (i+1):=by
   have:=ai hx
   rw [ah this] at hx
   rw [ea this,dg hx]
  have h103:=fun w=>s103 (b:=b) (w:=w) h (t:=t) (ht t (az hx))
  have ih:=l182 (m:=m) (c:=c) h hR hL ht j (i+1) w (by omega) k
  have e2:((i+1:Nat):Int)=(i:Int)+1:=by omega
  rw [e2] at ih
  rw [cf,hd]
  simp only [dl]
  generalize ACode.loop code182L1=L' at ih ⊢
  rcases ap (thereS S t) with c1 | c1
  ·simp (disch:=omega) [gz,gs,code182L1,h103,iltT,ileT,nltT,nleT,df,hp,hg,c1,ih]
  ·simp (disch:=omega) [gz,gs,code182L1,h103,iltT,ileT,nltT,nleT,df,hp,hg,c1]
end
def trapOk (S:List (Str × Str)) (t:TrapU):Bool:=decide (t.cls=[]) || (getE S t.cls).isSome
section
attribute [-simp] getElem?_pos getElem?_neg
theorem l182t {H:List AObj} {L:List TrapU} {a:Option (Nat × Nat)} {c:Option Nat} (h:World H N S F M V) (hR:Row H 4 TrapU.cells L a) (hL:L.length≤9223372036854775807) :
  ∀ (j i:Nat) (w:Nat),i+j=L.length→∀ (k:AExit→St→Option (AVal × Heap)),
  xK T (.loop code182L0) ⟨[(0,.val (.ptr (some (N,0)))),(42,.val (.slice a L.length c)),(43,.val (.int .i64 L.length)),(44,.val (.int .i64 i))],⟨H,b,w⟩⟩ (k:=⟨k⟩) =
   if (L.drop i).all (trapOk S) then k (.exit 2) ⟨[],⟨H,b,w⟩⟩ else k .ret ⟨[(4,.val (.bool false))],⟨H,b,w⟩⟩
 | 0,i,w,hi,k=>by
  rw [cf,bg (by omega)]
  simp (disch:=omega) [code182L0,iltF]
 | j+1,i,w,hi,k=>by
  obtain ⟨t,hx⟩:∃ t,L[i]? = some t:=⟨_,ah (by omega)⟩
  obtain ⟨p,o,cs,rfl,hp,hpl,hcs,hv⟩:=ig hR hx
  have hd:L.drop i=t :: L.drop (i+1):=by
   have:=ai hx
   rw [ah this] at hx
   rw [ea this,dg hx]
  have h54:=fun w=>s54 (b:=b) (w:=w) h (c:=t.cls)
  have ih:=l182t (c:=c) h hR hL j (i+1) w (by omega) k
  have e2:((i+1:Nat):Int)=(i:Int)+1:=by omega
  rw [e2] at ih
  rw [cf,hd]
  simp only [dl]
  generalize ACode.loop code182L0=L' at ih ⊢
  unfold TrapU.cells at hv
  have ho:trapOk S t=(decide (t.cls=[]) || (getE S t.cls).isSome):=rfl
  by_cases c0:t.cls=[]
  ·have ho:trapOk S t=true:=by rw [ho,c0]; rfl
   simp (disch:=omega) [-List.all_eq_true,gz,gs,code182L0,iltT,ileT,nltT,nleT,df,hp,hv,c0,ho,ih]
  ·obtain ⟨x,c1⟩ | c1:(∃ x,getE S t.cls=some x)∨getE S t.cls=none:=by cases getE S t.cls <;> simp
   ·have ho:trapOk S t=true:=by rw [ho,c1]; simp
    simp (disch:=omega) [-List.all_eq_true,gz,gs,code182L0,h54,iltT,ileT,nltT,nleT,df,hp,hv,c0,c1,ho,ih]
   ·have ho:trapOk S t=false:=by rw [ho,c1]; simp [c0]
    simp (disch:=omega) [-List.all_eq_true,gz,gs,code182L0,h54,iltT,ileT,nltT,nleT,df,hp,hv,c0,c1,ho]
end
def rightS (S:List (Str × Str)) (m:MethU):Bool:=match methL m.desc with
 | some (A,r)=>isName m.name && ((A++[r]).all (thereS S) && m.traps.all (trapOk S))
 | none=>false
section
attribute [-simp] getElem?_pos getElem?_neg
attribute [local simp] gz gs
theorem s182 {m:MethU} (hm:m.ok O) (h:World O N S F M V) (hb:b≤O.length):xCall T 182 [.ptr (some (N,0)),.agg m.cells] ⟨O,b,w⟩=some (.bool (rightS S m),⟨O,b,w⟩):=by
 have hmd:m.desc.length≤9223372036854775807:=hm.desc
 have h38:=fun w=>s38 (os:=O) (b:=b) (w:=w) (s:=m.desc) hmd hb
 have hml:m.traps.length≤9223372036854775807:=hm.tn
 unfold rightS
 cases hq:methL m.desc with
 | none =>
  rw [hq] at h38
  simp only [methV,methO] at h38
  unfold MethU.cells
  simp (disch:=omega) [av t182,code182,h38]
 | some q =>
  obtain ⟨A,r⟩:=q
  obtain ⟨q1,q2,q3⟩:=methL_len hq
  have h181:=fun w X (hX:b≤(O++X).length)=>s181 (O:=O++X) (b:=b) (w:=w) (s:=m.name) hX
  simp only
  cases A with
  | nil =>
   rw [hq] at h38
   simp only [methV,methO] at h38
   have h181:=fun w=>s181 (O:=O) (b:=b) (w:=w) (s:=m.name) hb
   have hl1:=fun w=>l182 (b:=b) (m:=m) (c:=none) (H:=O++[.cells 1 [.str r],.cells 1 [.str r]]) (L:=[r]) (a:=some (O.length+1,0)) (h.app _)
    ⟨fun _=>⟨_,_,_,rfl,by rw [dy]; rfl,fun j x hx=>by
     cases j with
     | zero=>simp at hx; subst hx; simp [strC]
     | succ j=>simp at hx⟩⟩ (by simp) (fun t ht=>by simp at ht; subst ht; omega) 1 0 w rfl
   have hl2:=fun w=>l182t (b:=b) (c:=m.tc) (H:=O++[.cells 1 [.str r],.cells 1 [.str r]]) (a:=m.ta) (h.app _) ((hm.pre (Pre.app _ _)).t) hml m.traps.length 0 w (by omega)
   simp only [bl,dr,ew,a8,br,dv,Int.natCast_one] at hl1 hl2
   simp only [bz]
   unfold MethU.cells at hl1 ⊢
   cases c0:isName m.name with
   | false=>simp (disch:=omega) [-List.all_cons,-List.all_append,-List.all_eq_true,av t182,code182,h38,h181,dy,dp,gk,gb,hb,c0,]
   | true =>
    cases c1:([r]:List Str).all (thereS S) with
    | false =>
     simp only [c1,am,if_false] at hl1
     simp (disch:=omega) [-List.all_cons,-List.all_append,-List.all_eq_true,av t182,code182,h38,h181,dy,dp,gk,gb,hb,c0,c1,hl1,]
    | true =>
     simp only [c1,if_true] at hl1
     cases c2:m.traps.all (trapOk S) with
     | false =>
      simp only [c2,am,if_false] at hl2
      simp (disch:=omega) [-List.all_cons,-List.all_append,-List.all_eq_true,av t182,code182,h38,h181,dy,dp,gk,gb,hb,c0,c1,c2,hl1,hl2,]
     | true =>
      simp only [c2,if_true] at hl2
      simp (disch:=omega) [-List.all_cons,-List.all_append,-List.all_eq_true,av t182,code182,h38,h181,dy,dp,gk,gb,hb,c0,c1,c2,hl1,hl2,]
  | cons a A =>
   rw [hq] at h38
   simp only [methV,methO] at h38
   have h181:=fun w=>s181 (O:=O++[.cells 1 ((a :: A).map AVal.str)]) (b:=b) (w:=w) (s:=m.name) (by simp; omega)
   have hAl:A.length+1≤16:=by simpa using q1
   have hl1:=fun w=>l182 (b:=b) (m:=m) (c:=none) (H:=O++[.dead,.cells 1 [.str r],.cells 1 ((a :: A).map AVal.str++[.str r])]) (L:=a :: A++[r]) (a:=some (O.length+2,0)) (h.app _)
    (Row.mk0 (fun _=>rfl) (by rw [dy,gr,flat_strs]; rfl)) (by simp; omega) (fun t ht=>by
     rcases bo.1 ht with ht | ht
     ·have:=q3 t ht; omega
     ·simp at ht; subst ht; omega) (A.length+2) 0 w (by simp)
   have hl2:=fun w=>l182t (b:=b) (c:=m.tc) (H:=O++[.dead,.cells 1 [.str r],.cells 1 ((a :: A).map AVal.str++[.str r])]) (a:=m.ta) (h.app _) ((hm.pre (Pre.app _ _)).t) hml m.traps.length 0 w (by omega)
   simp only [bl,dr,aw,a8,br,cg,Nat.reduceAdd] at hl1 hl2
   have hC:((a :: A).map AVal.str).length=A.length+1:=by simp
   have hT:((a :: A).map AVal.str).take (A.length+1)=(a :: A).map AVal.str:=eh (by simp)
   have z1:(A.length+2)*16≤140737488355328:=by omega
   have z2:A.length≤9223372036854775805:=by omega
   have hi2:((A.length+2:Nat):Int)=(A.length:Int)+2:=by omega
   rw [hi2] at hl1
   generalize (a :: A).map AVal.str=C at h38 h181 hl1 hl2 hC hT
   generalize a :: A++[r]=L at hl1 ⊢
   unfold MethU.cells at hl1 ⊢
   cases c0:isName m.name with
   | false=>simp (disch:=omega) [-List.all_cons,-List.all_append,-List.all_eq_true,av t182,code182,h38,h181,dy,dp,gk,gb,hb,c0,hAl,hC,hT,z1,z2,nltT,nltF,cg]
   | true =>
    cases c1:L.all (thereS S) with
    | false =>
     simp only [c1,am,if_false] at hl1
     simp (disch:=omega) [-List.all_cons,-List.all_append,-List.all_eq_true,av t182,code182,h38,h181,dy,dp,gk,gb,hb,c0,c1,hl1,hAl,hC,hT,z1,z2,nltT,nltF,cg]
    | true =>
     simp only [c1,if_true] at hl1
     cases c2:m.traps.all (trapOk S) with
     | false =>
      simp only [c2,am,if_false] at hl2
      simp (disch:=omega) [-List.all_cons,-List.all_append,-List.all_eq_true,av t182,code182,h38,h181,dy,dp,gk,gb,hb,c0,c1,c2,hl1,hl2,hAl,hC,hT,z1,z2,nltT,nltF,cg]
     | true =>
      simp only [c2,if_true] at hl2
      simp (disch:=omega) [-List.all_cons,-List.all_append,-List.all_eq_true,av t182,code182,h38,h181,dy,dp,gk,gb,hb,c0,c1,c2,hl1,hl2,hAl,hC,hT,z1,z2,nltT,nltF,cg]
end
end Go.Abs.AbsHier

namespace Go.Abs.AbsHier
open Go.Abs.AbsDesc
variable {os O:List AObj} {b w:Nat} {N:Nat} {S:List (Str × Str)} {F M:List (Key × Mem)} {V:List (Key × Bool)}
def methE (c:Str) (m:MethU):Key × Mem:=((c,m.name,m.desc),⟨c,m.st⟩)
def methOk (S:List (Str × Str)) (M:List (Key × Mem)) (c:Str) (m:MethU):Bool:=!(getE M (c,m.name,m.desc)).isSome && rightS S m
def methsS (S:List (Str × Str)) (c:Str):List (Key × Mem)→List MethU→Bool
 | _,[]=>true
 | M,m :: r=>methOk S M c m && methsS S c (M++[methE c m]) r
section
attribute [-simp] getElem?_pos getElem?_neg
theorem l100 {u:UnitU} (hu:u.ok os) (hp:Pre os O) (hN:os.length≤N) (h:World O N S F M V) (hb:b≤N):∀ (j i:Nat) (M':List (Key × Mem)) (w:Nat),i+j=u.meths.length→N+3≤w →
  ∃ M2 w' e s',N+3≤w'∧(if methsS S u.name M' (u.meths.drop i) then e = .exit 0∧s'=[]∧(w'≤N+3∨(u.meths.drop i=[]∧w'=w))∧M2=M'++(u.meths.drop i).map (methE u.name) else e = .ret∧s'=[(4,.val (.bool false))]) ∧
   ∀ (k:AExit→St→Option (AVal × Heap)),
   xK T (.loop code100L0) ⟨[(0,.val (.ptr (some (N,0)))),(3,.var u.cells),(11,.val (.slice u.ma u.meths.length u.mc)),(12,.val (.int .i64 u.meths.length)),(13,.val (.int .i64 i))],
    ⟨O.set (N+3) (mObj keyF memF M'),b,w⟩⟩ (k:=⟨k⟩)=k e ⟨s',⟨O.set (N+3) (mObj keyF memF M2),b,w'⟩⟩
 | 0,i,M',w,hi,hw=>by
  refine ⟨M',w,.exit 0,[],hw,?_,fun k=>?_⟩
  ·rw [bg (by omega)]
   simp only [methsS,if_true,eu,ci]
   exact ⟨trivial,trivial,.inr ⟨trivial,trivial⟩,trivial⟩
  ·rw [cf]
   simp (disch:=omega) [code100L0,iltF]
 | j+1,i,M',w,hi,hw=>by
  obtain ⟨m,hm⟩:∃ m,u.meths[i]? = some m:=⟨_,ah (by omega)⟩
  obtain ⟨p,o,cs,ha,hpp,hpl,hcs,ht⟩:=ig hu.m hm
  have hmn:u.meths.length≤9223372036854775807:=hu.mn
  have hd:u.meths.drop i=m :: u.meths.drop (i+1):=by
   have:=ai hm
   rw [ah this] at hm
   rw [ea this,dg hm]
  have hl:=h.lt
  have hW:=h.setM M'
  have hpO:(O.set (N+3) (mObj keyF memF M'))[p]? = some (.cells 8 cs):=by
   rw [aq (by omega)]; exact hp _ _ hpp
  have hbO:b≤(O.set (N+3) (mObj keyF memF M')).length:=by simp; omega
  have hmo:m.ok (O.set (N+3) (mObj keyF memF M')):=(hu.mok m (az hm)).pre (hp.set _ (by omega))
  have h182:=fun w=>s182 (b:=b) (w:=w) hmo hW hbO
  have hlk:=fun w=>lookup_ok (b:=b) (w:=w) (kn:=.agg [.s,.s,.s]) (zero:=.agg [.str [],.bool false]) keyKey hW.m3 (k:=(u.name,m.name,m.desc)) rfl
  have hm1:=hW.w0
  have hml:m.cells.length=8:=rfl
  have hup2:=fun w hg=>upd_new (b:=b) (w:=w) (kn:=.agg [.s,.s,.s]) keyKey hW.m3 (k:=(u.name,m.name,m.desc)) ⟨u.name,m.st⟩ rfl (by omega) hg
  have hs2:(O.set (N+3) (mObj keyF memF M')).set (N+3) (mObj keyF memF (M'++[((u.name,m.name,m.desc),⟨u.name,m.st⟩)]))=O.set (N+3) (mObj keyF memF (M'++[methE u.name m])):=by
   rw [List.set_set]; rfl
  simp only [hs2,keyF,memF] at hup2
  simp only [keyF] at hlk
  have hcm:m.cells=[.bool m.st,.str m.name,.str m.desc,.int .i64 m.stack,.int .i64 m.locals,.slice m.ca m.code.length m.cc,.slice m.ta m.traps.length m.tc,.slice m.xa m.maps.length m.xc]:=rfl
  obtain ⟨y,hg⟩ | hg:(∃ y,getE M' (u.name,m.name,m.desc)=some y)∨getE M' (u.name,m.name,m.desc)=none:=by cases getE M' (u.name,m.name,m.desc) <;> simp
  ·rw [hg] at hlk
   simp only [ce,de,Option.isSome_some,memF] at hlk
   have hfl:methsS S u.name M' (u.meths.drop i)=false:=by rw [hd]; simp [methsS,methOk,hg]
   rw [hfl]
   refine ⟨M',w,.ret,[(4,.val (.bool false))],hw,by simp,fun k=>?_⟩
   rw [cf]
   generalize ACode.loop code100L0=L
   generalize O.set (N+3) (mObj keyF memF M')=H at hpO hW hbO h182 hlk hm1 ⊢
   rw [hcm] at h182 ht
   simp (disch:=omega) [-evExt,gz,gs,code100L0,hlk,nltT,nltF,iltT,ileT,nleT,df,hb,hpO,ht,ha,hm1,UnitU.cells]
  ·rw [hg] at hlk
   have hup2:=fun w=>hup2 w hg
   simp only [Option.map_none,jh,ji] at hlk
   rcases ap (rightS S m) with c | c
   ·obtain ⟨M2,w',e,s',r1,r2,ih⟩:=l100 hu hp hN h hb j (i+1) (M'++[methE u.name m]) (min w (N+3)) (by omega) (by omega)
    refine ⟨M2,w',e,s',r1,?_,fun k=>?_⟩
    ·rw [hd]
     have c1:methOk S M' u.name m=true:=by simp [methOk,hg,c]
     simp only [methsS,c1,cz]
     rw [bu]
     rw [bh,List.singleton_append] at r2
     split at r2
     ·rename_i hff
      obtain ⟨q1,q2,q3,q4⟩:=r2
      rw [if_pos hff]
      refine ⟨q1,q2,.inl ?_,q4⟩
      rcases q3 with q3 | ⟨_,q3⟩ <;> omega
     ·rename_i hff
      rw [if_neg hff]; exact r2
    have ih:=ih k
    have e2:((i+1:Nat):Int)=(i:Int)+1:=by omega
    rw [e2] at ih
    rw [cf,← ih]
    generalize ACode.loop code100L0=L
    generalize O.set (N+3) (mObj keyF memF M')=H at hpO hW hbO h182 hlk hm1 hup2 hs2 ⊢
    generalize O.set (N+3) (mObj keyF memF (M'++[methE u.name m]))=H2 at hup2 hs2 ⊢
    rw [hcm] at h182 ht
    simp (disch:=omega) [-evExt,gz,gs,code100L0,h182,hlk,hup2,c,nltT,nltF,iltT,ileT,nleT,df,hb,hpO,ht,ha,hm1,UnitU.cells]
   ·have hfl:methsS S u.name M' (u.meths.drop i)=false:=by rw [hd]; simp [methsS,methOk,c]
    rw [hfl]
    refine ⟨M',w,.ret,[(4,.val (.bool false))],hw,by simp,fun k=>?_⟩
    rw [cf]
    generalize ACode.loop code100L0=L
    generalize O.set (N+3) (mObj keyF memF M')=H at hpO hW hbO h182 hlk hm1 ⊢
    rw [hcm] at h182 ht
    simp (disch:=omega) [-evExt,gz,gs,code100L0,h182,hlk,nltT,nltF,iltT,ileT,nleT,df,hb,hpO,ht,ha,hm1,c,UnitU.cells]
end
theorem mObj_set3 (h:World O N S F M V):O.set (N+3) (mObj keyF memF M)=O:=by
 have:=h.lt
 refine js fun i=>?_
 by_cases e:N+3=i
 ·subst e; rw [db,if_pos rfl,if_pos (by omega),h.m3]
 ·rw [aq e]
section
attribute [-simp] getElem?_pos getElem?_neg
attribute [local simp] gz gs
theorem s100 {u:UnitU} (hu:u.ok os) (hp:Pre os O) (hN:os.length≤N) (h:World O N S F M V) (hb:b≤N) :
  ∃ O' w',min w (N+3)≤w'∧(methsS S u.name M u.meths=true→O'=O.set (N+3) (mObj keyF memF (M++u.meths.map (methE u.name)))) ∧
   xCall T 100 [.ptr (some (N,0)),.agg u.cells] ⟨O,b,w⟩=some (.bool (methsS S u.name M u.meths),⟨O',b,w'⟩):=by
 have hl:=h.lt
 obtain ⟨M2,w',e,s',r1,r2,hk⟩:=l100 hu hp hN h hb u.meths.length 0 M O.length (by omega) (by omega)
 rw [mObj_set3 h] at hk
 simp only [bl,dr] at hk r2
 by_cases c:methsS S u.name M u.meths=true
 ·rw [if_pos c] at r2
  obtain ⟨rfl,rfl,q3,q4⟩:=r2
  rw [c]
  rcases q3 with q3 | ⟨q3,q5⟩
  ·refine ⟨O.set (N+3) (mObj keyF memF M2),min w w',by omega,fun _=>by rw [q4],?_⟩
   unfold UnitU.cells at hk ⊢
   simp (disch:=omega) [av t100,code100,hk,nltT]
  ·refine ⟨O,w,by omega,fun _=>by rw [q3,eu,ci,mObj_set3 h],?_⟩
   unfold UnitU.cells at hk ⊢
   simp (disch:=omega) [av t100,code100,hk,nltF]
 ·rw [if_neg c] at r2
  obtain ⟨rfl,rfl⟩:=r2
  have c':methsS S u.name M u.meths=false:=by simpa using c
  rw [c']
  generalize O.set (N+3) (mObj keyF memF M2)=O2 at hk
  refine ⟨if w' < O.length then O2 else O,if w' < O.length then min w w' else w,by split <;> omega,by simp,?_⟩
  unfold UnitU.cells at hk ⊢
  simp (disch:=omega) [av t100,code100,hk]
  split <;> rfl
end
end Go.Abs.AbsHier
