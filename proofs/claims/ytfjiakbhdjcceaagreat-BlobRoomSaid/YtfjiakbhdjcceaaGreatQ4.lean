/-
  Texts joined.
-/
import Derived.Test.YtfjiakbhdjcceaaGreatQ0
import Derived.Test.YtfjiakbhdjcceaaGreatQ3
import Derived.Test.YtfjiakbhdjcceaaGreatQ2
set_option linter.unusedVariables false
set_option linter.unusedSimpArgs false
set_option maxRecDepth 100000
namespace Go.Abs
section
variable {s:Slots} {h1 h2:Heap} {X:List Nat}
inductive NewF:(Nat→Slot)→Prop where
 | ptr:NewF fun k=>.val (.ptr (some (k,0)))
 | slice (n:Nat) (c:Option Nat):NewF fun k=>.val (.slice (some (k,0)) n c)
 | map:NewF fun k=>.val (.map (some k))
theorem NewF.ids {f:Nat→Slot} (h:NewF f) (k:Nat):(f k).ids=[k]:=by cases h <;> rfl
theorem NewF.ren {f:Nat→Slot} (h:NewF f) (N r:Nat):(f N).ren (mv N r)=f r:=by cases h <;> simp [Slot.ren,AVal.ren,mv]
theorem NewF.novar {f:Nat→Slot} (h:NewF f) (k:Nat) (cs:List AVal):f k ≠ .var cs:=by cases h <;> simp
def Moved (o:AOp) (s:Slots) (h1 h2:Heap) (a b:Option (Slot × Slots × Heap)):Prop :=
 ∀ x s' h',a=some (x,s',h')→s'=s∧((h'=h1∧b=some (x,s,h2))∨(∃ ob f,NewF f∧x=f h1.size∧h'=h1.push ob∧b=some (f h2.size,s,h2.push ob)) ∨
  (∃ i ob f,NewF f∧h1.base≤i∧i < h1.size∧i ∈ ew o s∧x=f h1.size∧h'=(h1.put i .dead).push ob∧b=some (f h2.size,s,(h2.put i .dead).push ob)) ∨
  (∃ i ob,h1.base≤i∧i < h1.size∧i ∈ ew o s∧(∃ v,x = .val v)∧h'=h1.put i ob∧b=some (x,s,h2.put i ob)))
variable {o:AOp}
theorem bu (b:Option (Slot × Slots × Heap)):Moved o s h1 h2 none b:=fun _ _ _ e=>by cases e
theorem fz (v:Option AVal):Moved o s h1 h2 (ok1 s h1 v) (ok1 s h2 v):=fun x d h' e=>by unfold ok1 at e ⊢;rw [ae] at e;obtain ⟨u,rfl,e⟩:=e;cases e;exact ⟨rfl,.inl ⟨rfl,rfl⟩⟩
theorem my (y:Slot):Moved o s h1 h2 (some (y,s,h1)) (some (y,s,h2)):=fun x d h' e=>by cases e;exact ⟨rfl,.inl ⟨rfl,rfl⟩⟩
theorem moved_map {α:Type} (v:Option α) (f:α→Slot):Moved o s h1 h2 (v.map fun j=>(f j,s,h1)) (v.map fun j=>(f j,s,h2)):=fun x d h' e=>by rw [ae] at e;obtain ⟨u,rfl,e⟩:=e;cases e;exact ⟨rfl,.inl ⟨rfl,rfl⟩⟩
theorem jq {f:Nat→Slot} (d:NewF f) (ob:AObj):Moved o s h1 h2 (some (f h1.size,s,h1.push ob)) (some (f h2.size,s,h2.push ob)):=fun x j h' e=>by cases e;exact ⟨rfl,.inr (.inl ⟨ob,f,d,rfl,rfl,rfl⟩)⟩
theorem v7 {e:Nat} {v:AVal} (ha:∀ i ∈ v.ids,h2.get i=h1.get i):il e h2 v=il e h1 v:=by
 unfold il;split
 ·rfl
 ·rename_i i o n c;rw [ha i (by simp [AVal.ids])]
 ·rfl
 ·rfl
theorem adr_get {x:Opd} {i o:Nat} (ha:∀ v,x.ev s=some v→∀ i ∈ v.ids,h2.get i=h1.get i) (hx:x.adr s=some (.glob i o)):h2.get i=h1.get i:=by
 unfold Opd.adr at hx;split at hx
 ·rename_i t;split at hx <;> cases hx
  rename_i hs;exact ha (.ptr (some (i,o))) (by simp [Opd.ev,hs]) i (by simp [AVal.ids])
 ·cases hx
theorem nr:∀ {xs:List Opd} {vs:List AVal} {v:AVal},evs s xs=some vs→v ∈ vs→∃ x ∈ xs,x.ev s=some v
 | [],vs,v,h,d=>by simp only [evs] at h; cases h; cases d
 | x :: xs,vs,v,h,d=>by
  simp only [evs] at h;split at h
  ·rename_i u A j e;cases h;rcases cj.1 d with rfl | d
   ·exact ⟨x,a8 ..,j⟩
   ·obtain ⟨y,p,q⟩:=nr e d;exact ⟨y,bd _ p,q⟩
  ·cases h
theorem op_heap {call:CallSem} {d:Nat} {o:AOp} (hc:soft o=true) (al:o.isCall=false) (hb:h2.base=h1.base) (ha:∀ x ∈ ef o,∀ v,x.ev s=some v→∀ i ∈ v.ids,h2.get i=h1.get i) :
  Moved o s h1 h2 (c7 call d o s h1) (c7 call d o s h2):=by
 cases o with
 | lalloc z=>cases hc
 | lbox x=>cases hc
 | store n a x=>cases hc
 | copy e d s=>cases hc
 | call f args=>cases al
 | callg g args=>cases al
 | alloc e z=>simp only [c7]; exact jq .ptr _
 | box x =>
  simp only [c7];split
  ·exact jq .ptr _
  ·exact bu _
 | mkslice e n z ps =>
  simp only [c7];split
  ·exact jq (.slice _ _) _
  ·exact bu _
 | make e b z l c =>
  simp only [c7];split
  ·split
   ·exact jq (.slice _ _) _
   ·exact bu _
  ·exact bu _
 | load n a =>
  simp only [c7];split
  ·rename_i ad b5
   have:loadAt s h2 ad n=loadAt s h1 ad n:=by
    unfold loadAt cellsAt;cases ad with
    | glob i o=>simp only; rw [adr_get (ha a (by simp [ef])) b5]
    | loc t o=>rfl
   rw [this];exact fz _
  ·exact bu _
 | len k x =>
  simp only [c7];split
  ·rename_i v V
   have:evLen k v h2=evLen k v h1:=by
    unfold evLen;split
    ·rfl
    ·rfl
    ·split
     ·rfl
     ·rename_i r;rw [ha x (by simp [ef]) _ V r (by simp [AVal.ids])]
     ·rfl
   rw [this];exact fz _
  ·exact bu _
 | conv k x =>
  simp only [c7];split
  ·rename_i v V;have aa:=ha x (by simp [ef]) v V;unfold n8;split
   ·split
    ·exact fz _
    ·exact bu _
   ·split
    ·exact fz _
    ·exact bu _
   ·split
    ·split
     ·exact jq (.slice _ _) _
     ·exact bu _
    ·exact bu _
   ·split
    ·rename_i a n c;rw [v7 aa];split
     ·exact fz _
     ·exact bu _
    ·exact bu _
   ·split
    ·rename_i i o' n c;have b6:=aa i (by simp [AVal.ids]);intro x' s' h' e;split at e;case h_2=>cases e
     rename_i e1 cs P;split at e;case isFalse=>cases e
     rename_i B;cases e;refine ⟨rfl,.inr (.inr (.inr ⟨i,_,B.2,ah P,?_,⟨_,rfl⟩,rfl,?_⟩))⟩
     ·unfold ew;rw [dx];exact ⟨x,by simp [ef],by rw [V]; simp [AVal.ids]⟩
     ·rw [b6,P];simp only;rw [if_pos ⟨B.1,by rw [hb]; exact B.2⟩]
    ·exact bu _
  ·exact bu _
 | slice k x lo hi mx =>
  simp only [c7];split
  ·rename_i an ao ax _ _ _;have aa:=ha x (by simp [ef])
   have:aSlice k s h2 x an ao ax=aSlice k s h1 x an ao ax:=by
    unfold aSlice;cases k with
    | str=>rfl
    | sl e =>
     simp only;cases hx:x.ev s with
     | none=>rfl
     | some v =>
      cases v with
      | slice p n c =>
       cases p with
       | none=>rfl
       | some p =>
        obtain ⟨i,o⟩:=p;have h3:=aa _ hx i (by simp [AVal.ids]);have h4:eszIs h2 i e=eszIs h1 i e:=by unfold eszIs; rw [h3]
        simp only [h4]
      | _=>rfl
    | arr n e =>
     simp only;cases hx:x.adr s with
     | none=>rfl
     | some ad =>
      cases ad with
      | glob i o=>simp only [adr_get aa hx]
      | loc t o=>rfl
   rw [this];exact fz _
  ·exact bu _
 | append e b x y =>
  simp only [c7];split
  ·rename_i vx vy hx hy;have ay:=ha x (by simp [ef]) vx hx;have b7:=ha y (by simp [ef]) vy hy;unfold d7;split
   ·rename_i a n c;rw [v7 ay,v7 b7];split
    ·rename_i old new _ _;unfold aApp;split
     ·exact my _
     ·split
      ·cases a with
       | none=>simp only; exact jq (.slice _ _) _
       | some p =>
        obtain ⟨i,o⟩:=p;simp only;split
        ·exact jq (.slice _ _) _
        ·have hr:rowIs h2 i e=rowIs h1 i e:=by unfold rowIs;rw [ay i (by simp [AVal.ids])]
         rw [hb,hr];split
         ·rename_i B;intro x' s' h' e';cases e'
          have G:i < h1.size:=by
           have h3:=B.2;unfold rowIs at h3;split at h3
           ·rename_i hg; exact ah hg
           ·cases h3
          refine ⟨rfl,.inr (.inr (.inl ⟨i,_,_,.slice _ _,B.1,G,?_,rfl,rfl,?_⟩))⟩
          ·simp [ew,ef,hx,AVal.ids]
          ·simp [Heap.size,Heap.put]
         ·exact bu _
      ·exact bu _
    ·exact bu _
   ·exact bu _
  ·exact bu _
 | val x=>exact fz _
 | build z ps=>exact fz _
 | faddr x off =>
  simp only [c7];split
  ·exact fz _
  ·split
   ·exact my _
   ·exact bu _
  ·exact bu _
 | pick c x y =>
  simp only [c7];split
  ·exact fz _
  ·exact fz _
  ·exact bu _
 | bin op x y =>
  simp only [c7];split
  ·exact fz _
  ·exact bu _
 | un op x =>
  simp only [c7];split
  ·exact fz _
  ·exact bu _
 | mkfunc g f c =>
  simp only [c7];split
  ·exact fz _
  ·exact bu _
 | field x off n =>
  simp only [c7];split
  ·exact fz _
  ·exact bu _
 | iaddr e x i =>
  simp only [c7];split
  ·exact fz _
  ·exact bu _
 | aaddr n e x i =>
  simp only [c7];split
  ·exact fz _
  ·split
   ·exact moved_map _ _
   ·exact bu _
  ·exact bu _
 | index x i =>
  simp only [c7];split
  ·exact fz _
  ·exact bu _
 | aindex n e k x i =>
  simp only [c7];split
  ·exact fz _
  ·exact bu _
 | extract x i =>
  simp only [c7];split
  ·exact fz _
  ·exact bu _
 | minmax m xs =>
  simp only [c7];split
  ·exact fz _
  ·exact bu _
 | nilcheck x =>
  simp only [c7];split
  ·exact fz _
  ·split
   ·split
    ·exact my _
    ·exact bu _
   ·exact bu _
 | eqnil k neg x y =>
  simp only [c7];split
  ·exact fz _
  ·exact bu _
 | beq neg x y =>
  simp only [c7];split
  ·exact fz _
  ·exact bu _
 | ext k xs =>
  simp only [c7];split
  ·rename_i vs W
   have a0:(∀ x ∈ xs,∀ v,x.ev s=some v→∀ i ∈ v.ids,h2.get i=h1.get i)→∀ v ∈ vs,entriesOf h2 v=entriesOf h1 v:=by
    intro ha v V;have:=nr W V;obtain ⟨x,hx,A⟩:=this;unfold entriesOf;split
    ·rfl
    ·rename_i r;rw [ha x hx _ A r (by simp [AVal.ids])]
    ·rfl
   cases k with
   | mkmap =>
    cases vs with
    | nil=>simp only [ct,b8]; exact jq .map _
    | cons v vs=>exact bu _
   | mkiter =>
    have a0:=a0 (fun x hx=>ha x (by simpa [ef] using hx));cases vs with
    | nil=>exact bu _
    | cons m vs =>
     cases vs with
     | cons _ _ =>
      cases m with
      | map r=>cases r <;> exact bu _
      | _=>exact bu _
     | nil =>
      cases m with
      | map r =>
       cases r with
       | none=>simp only [ct,b8]; exact jq .ptr _
       | some r =>
        have hg:h2.get r=h1.get r:=by obtain ⟨x,hx,A⟩:=nr W (dp _);exact ha x (by simpa [ef] using hx) _ A r (by simp [AVal.ids])
        simp only [ct,hg];split
        ·simp only [b8]; exact jq .ptr _
        ·exact bu _
      | _=>exact bu _
   | mapupd kn =>
    have hg:∀ v ∈ vs,∀ i ∈ v.ids,h2.get i=h1.get i∧i ∈ ew (.ext (.mapupd kn) xs) s:=fun v V i hi=>by
     obtain ⟨x,hx,A⟩:=nr W V;have C:x ∈ ef (.ext (.mapupd kn) xs):=by simpa [ef] using hx
     refine ⟨ha x C v A i hi,?_⟩;unfold ew;rw [dx];exact ⟨x,C,by rw [A]; exact hi⟩
    intro x' s' h' e;rw [ae] at e;obtain ⟨⟨v,h3⟩,e,e'⟩:=e;cases e'
    have N:∃ r k v',vs=[.map (some r),k,v']:=by
     rcases vs with _ | ⟨U,_ | ⟨k,_ | ⟨v',_ | ⟨v4,vs⟩⟩⟩⟩
     ·simp [ct] at e
     ·cases U <;> simp [ct] at e
     ·cases U <;> simp [ct] at e
     ·cases U <;> simp only [ct,reduceCtorEq] at e
      rename_i q;cases q with
      | none=>simp [ct] at e
      | some r=>exact ⟨r,k,v',rfl⟩
     ·cases U <;> simp [ct] at e
    obtain ⟨r,k,v',rfl⟩:=N;simp only [ct] at e;obtain ⟨I,J⟩:=hg (.map (some r)) (a8 ..) r (by simp [AVal.ids]);split at e;case isFalse=>cases e
    rename_i B;split at e;case h_2=>cases e
    rename_i es clock K;have G:r < h1.size:=ah K;split at e
    ·rename_i j v0 O;cases e;refine ⟨rfl,.inr (.inr (.inr ⟨r,_,B.2,G,J,⟨_,rfl⟩,rfl,?_⟩))⟩;simp only [ct];rw [if_pos ⟨B.1,by rw [hb]; exact B.2⟩,I,K];simp only [O,b8]
    ·rename_i O;cases e;refine ⟨rfl,.inr (.inr (.inr ⟨r,_,B.2,G,J,⟨_,rfl⟩,rfl,?_⟩))⟩;simp only [ct];rw [if_pos ⟨B.1,by rw [hb]; exact B.2⟩,I,K];simp only [O,b8]
    ·cases e
   | mapentry kn z =>
    have hg:∀ v ∈ vs,∀ i ∈ v.ids,h2.get i=h1.get i∧i ∈ ew (.ext (.mapentry kn z) xs) s:=fun v V i hi=>by
     obtain ⟨x,hx,A⟩:=nr W V;have C:x ∈ ef (.ext (.mapentry kn z) xs):=by simpa [ef] using hx
     refine ⟨ha x C v A i hi,?_⟩;unfold ew;rw [dx];exact ⟨x,C,by rw [A]; exact hi⟩
    intro x' s' h' e;rw [ae] at e;obtain ⟨⟨v,h3⟩,e,e'⟩:=e;cases e'
    have N:∃ r k,vs=[.map (some r),k]:=by unfold ct at e;split at e <;> simp_all
    obtain ⟨r,k,rfl⟩:=N;simp only [ct] at e;obtain ⟨I,J⟩:=hg (.map (some r)) (a8 ..) r (by simp [AVal.ids]);split at e;case isFalse=>cases e
    rename_i B;split at e;case h_2=>cases e
    rename_i es clock K;have G:r < h1.size:=ah K;split at e
    ·rename_i j v0 O;cases e;refine ⟨rfl,.inr (.inr (.inr ⟨r,_,B.2,G,J,⟨_,rfl⟩,rfl,?_⟩))⟩;simp only [ct];rw [if_pos ⟨B.1,by rw [hb]; exact B.2⟩,I,K];simp only [O,b8]
    ·rename_i O;cases e;refine ⟨rfl,.inr (.inr (.inr ⟨r,_,B.2,G,J,⟨_,rfl⟩,rfl,?_⟩))⟩;simp only [ct];rw [if_pos ⟨B.1,by rw [hb]; exact B.2⟩,I,K];simp only [O,b8]
    ·cases e
   | entrystore =>
    have hg:∀ v ∈ vs,∀ i ∈ v.ids,h2.get i=h1.get i∧i ∈ ew (.ext .entrystore xs) s:=fun v V i hi=>by
     obtain ⟨x,hx,A⟩:=nr W V;have C:x ∈ ef (.ext .entrystore xs):=by simpa [ef] using hx
     refine ⟨ha x C v A i hi,?_⟩;unfold ew;rw [dx];exact ⟨x,C,by rw [A]; exact hi⟩
    intro x' s' h' e;rw [ae] at e;obtain ⟨⟨v,h3⟩,e,e'⟩:=e;cases e'
    have N:∃ r st v',vs=[.map (some r),.int .i64 st,v']:=by unfold ct at e;split at e <;> simp_all
    obtain ⟨r,st,v',rfl⟩:=N;simp only [ct] at e;obtain ⟨I,J⟩:=hg (.map (some r)) (a8 ..) r (by simp [AVal.ids]);split at e;case isFalse=>cases e
    rename_i B;split at e;case h_2=>cases e
    rename_i es clock K;have G:r < h1.size:=ah K;split at e;case h_2=>cases e
    rename_i j O;cases e;refine ⟨rfl,.inr (.inr (.inr ⟨r,_,B,G,J,⟨_,rfl⟩,rfl,?_⟩))⟩;simp only [ct];rw [if_pos (by rw [hb]; exact B),I,K];simp only [O,b8]
   | delete kn =>
    have hg:∀ v ∈ vs,∀ i ∈ v.ids,h2.get i=h1.get i∧i ∈ ew (.ext (.delete kn) xs) s:=fun v V i hi=>by
     obtain ⟨x,hx,A⟩:=nr W V;have C:x ∈ ef (.ext (.delete kn) xs):=by simpa [ef] using hx
     refine ⟨ha x C v A i hi,?_⟩;unfold ew;rw [dx];exact ⟨x,C,by rw [A]; exact hi⟩
    intro x' s' h' e;rw [ae] at e;obtain ⟨⟨v,h3⟩,e,e'⟩:=e;cases e'
    have N:(∃ k,vs=[.map none,k])∨∃ r k,vs=[.map (some r),k]:=by
     rcases vs with _ | ⟨U,_ | ⟨k,_ | ⟨v',vs⟩⟩⟩
     ·simp [ct] at e
     ·cases U <;> simp [ct] at e
     ·cases U <;> simp only [ct,reduceCtorEq] at e
      rename_i q;cases q with
      | none=>exact .inl ⟨k,rfl⟩
      | some r=>exact .inr ⟨r,k,rfl⟩
     ·cases U <;> simp [ct] at e
    rcases N with ⟨k,rfl⟩ | ⟨r,k,rfl⟩
    ·simp only [ct] at e;split at e;case isFalse=>cases e
     rename_i B;cases e;exact ⟨rfl,.inl ⟨rfl,by simp only [ct]; rw [if_pos B]; rfl⟩⟩
    simp only [ct] at e;obtain ⟨I,J⟩:=hg (.map (some r)) (a8 ..) r (by simp [AVal.ids]);split at e;case isFalse=>cases e
    rename_i B;split at e;case h_2=>cases e
    rename_i es clock K;have G:r < h1.size:=ah K;split at e
    ·rename_i j v0 O;cases e;refine ⟨rfl,.inr (.inr (.inr ⟨r,_,B.2,G,J,⟨_,rfl⟩,rfl,?_⟩))⟩;simp only [ct];rw [if_pos ⟨B.1,by rw [hb]; exact B.2⟩,I,K];simp only [O,b8]
    ·rename_i O;cases e;refine ⟨rfl,.inl ⟨rfl,?_⟩⟩;simp only [ct];rw [if_pos ⟨B.1,by rw [hb]; exact B.2⟩,I,K];simp only [O,b8]
    ·cases e
   | hstore n =>
    have hg:∀ v ∈ vs,∀ i ∈ v.ids,h2.get i=h1.get i∧i ∈ ew (.ext (.hstore n) xs) s:=fun v V i hi=>by
     obtain ⟨x,hx,A⟩:=nr W V;have C:x ∈ ef (.ext (.hstore n) xs):=by simpa [ef] using hx
     refine ⟨ha x C v A i hi,?_⟩;unfold ew;rw [dx];exact ⟨x,C,by rw [A]; exact hi⟩
    intro x' s' h' e;rw [ae] at e;obtain ⟨⟨v,h3⟩,e,e'⟩:=e;cases e'
    have N:∃ r o' v',vs=[.ptr (some (r,o')),v']:=by
     rcases vs with _ | ⟨U,_ | ⟨v',_ | ⟨v4,vs⟩⟩⟩
     ·simp [ct] at e
     ·cases U <;> simp [ct] at e
     ·cases U <;> simp only [ct,reduceCtorEq] at e
      rename_i q;cases q with
      | none=>simp [ct] at e
      | some q=>exact ⟨q.1,q.2,v',rfl⟩
     ·cases U <;> simp [ct] at e
    obtain ⟨r,o',v',rfl⟩:=N;simp only [ct] at e;obtain ⟨I,J⟩:=hg (.ptr (some (r,o'))) (a8 ..) r (by simp [AVal.ids]);split at e;case h_2=>cases e
    rename_i bm e1 cs bb P;have G:r < h1.size:=ah P;split at e;case isFalse=>cases e
    rename_i B;cases e;refine ⟨rfl,.inr (.inr (.inr ⟨r,_,B.2.1,G,J,⟨_,rfl⟩,rfl,?_⟩))⟩;simp only [ct];rw [I,P,bb];simp only;rw [if_pos ⟨B.1,by rw [hb]; exact B.2.1,B.2.2⟩];rfl
   | copy ez =>
    have hg:∀ v ∈ vs,∀ i ∈ v.ids,h2.get i=h1.get i∧i ∈ ew (.ext (.copy ez) xs) s:=fun v V i hi=>by
     obtain ⟨x,hx,A⟩:=nr W V;have C:x ∈ ef (.ext (.copy ez) xs):=by simpa [ef] using hx
     refine ⟨ha x C v A i hi,?_⟩;unfold ew;rw [dx];exact ⟨x,C,by rw [A]; exact hi⟩
    intro x' s' h' e;rw [ae] at e;obtain ⟨⟨v,h3⟩,e,e'⟩:=e;cases e'
    have N:∃ a n c y,vs=[.slice a n c,y]:=by
     rcases vs with _ | ⟨U,_ | ⟨v',_ | ⟨v4,vs⟩⟩⟩
     ·simp [ct] at e
     ·cases U <;> simp [ct] at e
     ·cases U <;> simp only [ct,reduceCtorEq] at e
      exact ⟨_,_,_,_,rfl⟩
     ·cases U <;> simp [ct] at e
    obtain ⟨a,n,c,y,rfl⟩:=N
    have a6:rowK ez h2 (min n (alen y)) y=rowK ez h1 (min n (alen y)) y:=by
     have hy:=hg y (by simp);unfold rowK;cases y <;> try rfl
     rename_i ya yn yc;simp only;split
     ·unfold il;cases ya with
      | none=>rfl
      | some p=>obtain ⟨i,o⟩:=p; simp only [(hy i (by simp [AVal.ids])).1]
     ·rfl
    simp only [ct] at e;split at e;case h_2=>cases e
    rename_i bx ac;split at e
    ·rename_i h0;cases e;refine ⟨rfl,.inl ⟨rfl,?_⟩⟩;simp only [ct];rw [a6,ac];simp only;rw [if_pos h0];rfl
    ·rename_i h0;split at e;case h_2=>cases e
     rename_i r o';obtain ⟨I,J⟩:=hg (.slice (some (r,o')) n c) (a8 ..) r (by simp [AVal.ids]);split at e;case h_2=>cases e
     rename_i e1 cs P;have G:r < h1.size:=ah P;split at e;case isFalse=>cases e
     rename_i B;cases e;refine ⟨rfl,.inr (.inr (.inr ⟨r,_,B.2.1,G,J,⟨_,rfl⟩,rfl,?_⟩))⟩;simp only [ct];rw [a6,ac];simp only;rw [if_neg h0,I,P];simp only;rw [if_pos ⟨B.1,by rw [hb]; exact B.2.1,B.2.2⟩];rfl
   | clear ez z =>
    have hg:∀ v ∈ vs,∀ i ∈ v.ids,h2.get i=h1.get i∧i ∈ ew (.ext (.clear ez z) xs) s:=fun v V i hi=>by
     obtain ⟨x,hx,A⟩:=nr W V;have C:x ∈ ef (.ext (.clear ez z) xs):=by simpa [ef] using hx
     refine ⟨ha x C v A i hi,?_⟩;unfold ew;rw [dx];exact ⟨x,C,by rw [A]; exact hi⟩
    intro x' s' h' e;rw [ae] at e;obtain ⟨⟨v,h3⟩,e,e'⟩:=e;cases e'
    have N:∃ a n c,vs=[.slice a n c]:=by
     rcases vs with _ | ⟨U,_ | ⟨v',vs⟩⟩
     ·simp [ct] at e
     ·cases U <;> simp only [ct,reduceCtorEq] at e
      exact ⟨_,_,_,rfl⟩
     ·cases U <;> simp [ct] at e
    obtain ⟨a,n,c,rfl⟩:=N;simp only [ct] at e;split at e
    ·rename_i h0;cases e;refine ⟨rfl,.inl ⟨rfl,?_⟩⟩;simp only [ct];rw [if_pos h0];rfl
    ·rename_i h0;split at e;case h_2=>cases e
     rename_i r o';obtain ⟨I,J⟩:=hg (.slice (some (r,o')) n c) (a8 ..) r (by simp [AVal.ids]);split at e;case h_2=>cases e
     rename_i e1 cs P;have G:r < h1.size:=ah P;split at e;case isFalse=>cases e
     rename_i B;cases e;refine ⟨rfl,.inr (.inr (.inr ⟨r,_,B.2.1,G,J,⟨_,rfl⟩,rfl,?_⟩))⟩;simp only [ct];rw [if_neg h0,I,P];simp only;rw [if_pos ⟨B.1,by rw [hb]; exact B.2.1,B.2.2⟩];rfl
   | appz ez by' z =>
    have hg:∀ v ∈ vs,∀ i ∈ v.ids,h2.get i=h1.get i:=fun v V i hi=>by obtain ⟨x,hx,A⟩:=nr W V;exact ha x (by simpa [ef] using hx) v A i hi
    rcases vs with _ | ⟨U,_ | ⟨v2,_ | ⟨v3,vs⟩⟩⟩
    ·exact bu _
    ·cases U <;> exact bu _
    ·cases U <;> try exact bu _
     rename_i a n c;cases v2 <;> try exact bu _
     rename_i kd m;cases kd <;> try exact bu _
     have a6:il ez h2 (.slice a n c)=il ez h1 (.slice a n c):=by
      unfold il;cases a with
      | none=>rfl
      | some p=>obtain ⟨i,o⟩:=p; simp only [hg (.slice (some (i,o)) n c) (a8 ..) i (by simp [AVal.ids])]
     simp only [ct,a6];split
     ·exact my _
     ·split
      ·split
       ·exact jq (.slice _ _) _
       ·exact bu _
      ·exact bu _
    ·cases U <;> try exact bu _
     cases v2 <;> try exact bu _
     rename_i kd m;cases kd <;> exact bu _
   | entry=>cases hc
   | lookup kn z ok =>
    have a0:=a0 (fun x hx=>ha x (by simpa [ef] using hx));cases vs with
    | nil=>exact bu _
    | cons m vs =>
     cases vs with
     | nil=>exact bu _
     | cons y vs =>
      cases vs with
      | cons _ _=>exact bu _
      | nil =>
       simp only [ct,a0 m (a8 ..)];split
       ·split
        ·split
         ·exact my _
         ·exact my _
         ·exact bu _
        ·exact bu _
       ·exact bu _
   | pure p =>
    simp only [ct];cases evPure p vs with
    | none=>exact bu _
    | some r=>exact my _
  ·exact bu _
 | nextStr _=>exact bu _
end
end Go.Abs

namespace Go.Abs
inductive Chain (ops:Array Oper):Nat→Nat→Prop where
 | one {j:Nat} {o:Oper} {e:Edge}:ops[j]? = some o→e ∈ o.after→Region.binds .any e=true→Chain ops j e.on
 | step {j i:Nat} {o:Oper} {e:Edge}:ops[j]? = some o→e ∈ o.after→Region.binds .any e=true→Chain ops e.on i→Chain ops j i
section
variable {ops:Array Oper}
theorem mask_bit (d:List Nat) (i:Nat):∀ (l:List Edge) (s:Nat),(l.foldl (fun s e=>if Region.binds .any e then s ||| 2 ^ e.on ||| d.getD e.on 0 else s) s).testBit i=true →
  s.testBit i=true∨∃ e ∈ l,Region.binds .any e=true∧(e.on=i∨(d.getD e.on 0).testBit i=true)
 | [],s,h=>.inl h
 | e :: l,s,h=>by
  simp only [jw] at h;rcases mask_bit d i l _ h with h1 | ⟨j,h1,h2,p⟩
  ·split at h1
   ·rename_i hb;rw [Nat.testBit_or,Nat.testBit_or,Nat.testBit_two_pow] at h1;simp only [c9,decide_eq_true_eq] at h1;rcases h1 with (h1 | h1) | h1
    ·exact .inl h1
    ·exact .inr ⟨e,a8 ..,hb,.inl h1⟩
    ·exact .inr ⟨e,a8 ..,hb,.inr h1⟩
   ·exact .inl h1
  ·exact .inr ⟨j,bd _ h1,h2,p⟩
theorem kz:∀ (l:List Oper) (d:List Nat),(befs l d).length=d.length+l.length
 | [],d=>by simp [befs]
 | o :: l,d=>by simp [befs,kz l]; omega
theorem m9:∀ (l:List Oper) (d:List Nat),ops.toList.drop d.length=l→(∀ k i,(d.getD k 0).testBit i=true→Chain ops k i) →
  ∀ k i,((befs l d).getD k 0).testBit i=true→Chain ops k i
 | [],d,_,h,k,i,hb=>h k i hb
 | o :: l,d,hd,h,k,i,hb=>by
  simp only [befs] at hb
  have ho:ops[d.length]? = some o:=by have:=congrArg (fun l=>l[0]?) hd;simpa using this
  refine m9 l (d++[maskOf d o]) ?_ (fun k' q j=>?_) k i hb
  ·have:=congrArg List.tail hd;simpa using this
  ·rcases Nat.lt_trichotomy k' d.length with h1 | h1 | h1
   ·rw [jb,ag h1,← jb] at j;exact h k' q j
   ·subst h1;rw [jb,aw (aj _)] at j;simp at j;rcases mask_bit d q _ _ j with h2 | ⟨e,h2,y,p⟩
    ·simp at h2
    ·have A:e ∈ o.after:=by simpa using h2
     rcases p with rfl | p
     ·exact .one ho A y
     ·exact .step ho A y (h _ _ p)
   ·rw [jb,bw (by simp; omega)] at j;simp at j
def Down (ops:Array Oper) (listed:Array Bool):Prop :=
 ∀ (j:Nat) (o:Oper) (e:Edge),listed[j]? = some true→ops[j]? = some o→e ∈ o.after→Region.binds .any e=true→listed[e.on]? = some true
theorem ij {d:Array Bool} (hd:Down ops d) {j i:Nat} (hc:Chain ops j i):(∀ (o:Oper) (e:Edge),ops[j]? = some o→e ∈ o.after→Region.binds .any e=true→d[e.on]? = some true)→d[i]? = some true:=by
 induction hc with
 | one ho p hb=>intro h; exact h _ _ ho p hb
 | step ho p hb _ ih =>
  intro h;exact ih fun B C q y A=>hd _ _ _ (h _ _ ho p hb) q y A
theorem ot {d:Array Bool} (hs:d.size=ops.size) {i:Nat} (h:i ∈ Region.ready .any ops d) :
  ∃ o,ops[i]? = some o∧d[i]? = some false∧∀ e,e ∈ o.after→Region.binds .any e=true→d[e.on]? = some true:=by
 unfold Region.ready at h;rw [gj] at h;obtain ⟨h1,h2⟩:=h;rw [dc] at h1;simp only [bc,ep] at h2;obtain ⟨h2,j⟩:=h2;have ho:ops[i]? = some ops[i]:=by simp [h1]
 refine ⟨ops[i],ho,?_,fun e q hb=>?_⟩
 ·have:d[i]? = some d[i]:=by simp [hs,h1]
  rw [this];simp [hs,h1] at h2;rw [h2]
 ·rw [ho] at j;simp only [b8,ed,Array.all_eq_true'] at j;have:=j e q;simp only [hb,Bool.not_true,Bool.false_or] at this;rw [Array.getD_eq_getD_getElem?] at this;cases p:d[e.on]? with
  | none=>rw [p] at this; simp at this
  | some b=>rw [p] at this; simp at this; rw [this]
theorem qc (hb:edgesBack ops=true) {d:Array Bool} (hs:d.size=ops.size) (h:Region.ready .any ops d=[]):∀ i,i < ops.size→d[i]? = some true:=by
 intro i;induction i using Nat.strongRecOn with
 | _ i ih =>
  intro hi;rcases Bool.eq_false_or_eq_true d[i] with h1 | h1
  ·simp [hs,hi,h1]
  ·exfalso
   have:i ∈ Region.ready .any ops d:=by
    unfold Region.ready;rw [gj];refine ⟨dc.2 hi,?_⟩;have ho:ops[i]? = some ops[i]:=by simp [hi]
    rw [ho];simp only [bc,ep,b8,ed,Array.all_eq_true'];refine ⟨by simp [hs,hi,h1],fun e q=>?_⟩;cases j:Region.binds .any e with
    | false=>rfl
    | true =>
     have p:e.on < i:=by unfold edgesBack at hb;rw [ap] at hb;have:=hb i (dc.2 hi);rw [ho] at this;simp only [Array.all_eq_true'] at this;have:=this e q;simpa [j] using this
     have:=ih e.on p (by omega);simp [Array.getD_eq_getD_getElem?,this]
   rw [h] at this;cases this
theorem kj {E:Env} {nt:Nat} {locs:List Nat}:∀ (l:List Oper) (i:Nat) (aZ:List AOper),ll E nt ops locs i l=some aZ→aZ.length=l.length∧∀ (k:Nat) (o:Oper),l[k]? = some o→∃ e,aZ[k]? = some e∧kr E nt ops (locs.contains (i+k)) o=some e
 | [],i,aZ,h=>by simp only [ll] at h; cases h; exact ⟨rfl,fun k o d=>by simp at d⟩
 | o :: l,i,aZ,h=>by
  simp only [ll] at h;split at h;case h_2=>cases h
  rename_i e aZ' h1 h2;cases h;obtain ⟨j,p⟩:=kj l (i+1) aZ' h2;refine ⟨by simp [j],fun k x d=>?_⟩;cases k with
  | zero=>simp at d; subst d; exact ⟨e,rfl,h1⟩
  | succ k =>
   simp at d;obtain ⟨q,y,A⟩:=p k x d;exact ⟨q,by simpa using y,by rw [show i+(k+1)=i+1+k by omega]; exact A⟩
def Exact (ops:Array Oper) (listed:Array Bool) (p:Nat):Prop:=listed.size=ops.size∧∀ i,i < ops.size→listed[i]? = some (decide (i < p))
theorem Exact.down (hb:edgesBack ops=true) {d:Array Bool} {p:Nat} (h:Exact ops d p):Down ops d:=by
 intro j o e A ho B y;have q:j < ops.size:=ah (l:=ops.toList) (by simpa using ho);have h1:=h.2 j q;rw [A] at h1;have C:j < p:=by simpa using h1
 have G:e.on < j:=by unfold edgesBack at hb;rw [ap] at hb;have:=hb j (dc.2 q);rw [ho] at this;simp only [Array.all_eq_true'] at this;have:=this e B;simpa [y] using this
 rw [h.2 e.on (by omega)];simp; omega
theorem Exact.next {d:Array Bool} {p:Nat} (h:Exact ops d p):Exact ops (d.setIfInBounds p true) (p+1):=by
 refine ⟨by simp [h.1],fun i hi=>?_⟩;by_cases e:p=i
 ·subst e; simp [h.1,hi]
 ·rw [dm e,h.2 i hi];congr 1;rw [wd];simp; omega
theorem ui {d:List Nat} {p j i:Nat} (h:waits d p=true) (e:j < d.length) (q:p≤j) (hi:i < p):(d.getD j 0).testBit i=true:=by
 unfold waits at h;rw [ap] at h;have:=h j (dc.2 e);simp only [c9,decide_eq_true_eq] at this;rcases this with h1 | h1
 ·omega
 ·rw [ap] at h1;exact h1 i (dc.2 hi)
theorem uj {aZ:List AOper} {d:List Nat} (q:d.length=aZ.length):∀ (e:List (Bool × Nat)) (p:Nat),segsOk aZ d p e=true→waits d p=true
 | [],p,h=>by simp only [segsOk,beq_iff_eq] at h;unfold waits;rw [ap];intro j y;rw [dc] at y;simp; left; omega
 | (true,n) :: r,p,h=>by simp only [segsOk,bc] at h;exact h.1.1.1
 | (false,0) :: r,p,h=>by simp only [segsOk,bc] at h;have:=uj q r (p+0) h.2;simpa using this
 | (false,n+1) :: r,p,h=>by simp only [segsOk,bc] at h;have:=h.1.2;rw [ap] at this;have:=this 0 (dc.2 (by omega));simpa using this
end
section
variable {E:Env} {lo nt:Nat} {μ0:MM} {w0:World} {ds:List Deferred} {s:Slots} {h:Heap} {a:Act} {w:World} {call:CallSem} {ops:Array Oper} {locs:List Nat} {aZ:List AOper} {Q:Exit→Act→World→Prop} {ro:Option Nat}
theorem xg {i:Nat} {o:Oper} {K:Act→World→Prop} (ho:ops[i]? = some o) (h:if Region.wanted o (yielded ops a.tmps) then o.wpIn (F0 ro) 0 E.P a w K Q else K (a.put o.dst Go.undef) w):wpOpIn (F0 ro) 0 E.P ops Q i K a w:=by
 unfold wpOpIn;rw [ho];simp only;split
 ·rename_i hw; rw [if_pos hw] at h; exact h
 ·rename_i hw; rw [if_neg hw] at h; exact ⟨fun _ _=>trivial,h⟩
theorem zby (hc:CallOK E call) (hev0:CallEvol call) (N:GidOK E) {loc:Bool} {o:Oper} {I:AOper} {s1:Slots} {h1:Heap} (B:kr E nt ops loc o=some I) (e:dy call I s { h with wmin:=h.size }=some (s1,h1))
  (C:h1.size=h.size) (j:h1.wmin=h.size) (G:At E lo nt μ0 w0 ds s h a w) {next:Act→World→Prop} (O:∀ A w',At E lo nt μ0 w0 ds s1 h A w'→next A w') :
  if Region.wanted o (yielded ops a.tmps) then o.wpIn (F0 ro) 0 E.P a w next Q else next (a.put o.dst Go.undef) w:=by
 obtain ⟨μ,ν,U,J,V,W,k5,k6⟩:=G;have p:h.size=μ.length:=J.len.symm;have q:At E lo nt μ w ds s { h with wmin:=h.size } a w:=⟨μ,ν,Step.refl _ _ _ _,J.same rfl rfl rfl,V,W,k5,k6⟩;refine pz hc hev0 N B e q fun A w' y=>O A w' ?_
 obtain ⟨μ',ν',K,j2,j3,j4,j5,j6⟩:=y;have d:=me hev0 e;rw [j,p] at K;refine ⟨μ',ν',U.trans (K.fresh h.wmin) (aj _),j2.same ?_ d.base.symm rfl,j3,j4,j5,j6⟩;apply jj;intro i;rcases bh i h.size with hi | hi
 ·exact (d.objs i hi (by rw [j]; exact hi)).symm
 ·have e1:h.objs.length≤i:=hi;have e2:h1.objs.length≤i:=by rw [show h1.objs.length=h1.size from rfl,C]; exact hi
  rw [bw e1,bw e2]
theorem seq_any (hc:CallOK E call) (hev0:CallEvol call) (hg:GidOK E) (K:ll E nt ops locs 0 ops.toList=some aZ) (hb:edgesBack ops=true) :
  ∀ (n p:Nat) (s:Slots) (h:Heap) (s1:Slots) (h1:Heap) (d:Array Bool) (a:Act) (w:World),p+n≤aZ.length→(∀ x,x≤n→waits (befs ops.toList []) (p+x)=true) →
  evOps call ((aZ.drop p).take n) s h=some (s1,h1)→Exact ops d p→At E lo nt μ0 w0 ds s h a w →
  (∀ y a' w',Exact ops y (p+n)→At E lo nt μ0 w0 ds s1 h1 a' w'→wpAnyIn (F0 ro) 0 E.P .any ops Q (ops.size - (p+n)) y a' w')→wpAnyIn (F0 ro) 0 E.P .any ops Q (ops.size - p) d a w
 | 0,p,s,h,s1,h1,d,a,w,_,_,A,q,C,N=>by simp only [List.take_zero,evOps] at A; cases A;exact N d a w q C
 | n+1,p,s,h,s1,h1,d,a,w,O,hw,A,q,C,N=>by
  obtain ⟨q1,q2⟩:=kj _ _ _ K;have U:p < ops.size:=by rw [q1] at O; simp at O; omega
  have V:ops[p]? = some ops[p]:=by simp [U]
  obtain ⟨o',G,ad⟩:=q2 p ops[p] (by simp [U])
  have I:aZ.drop p=o' :: aZ.drop (p+1):=by have W:=ah G;rw [vh W];congr 1;rw [ai W] at G;exact ce G
  rw [I,List.take_succ_cons] at A;simp only [evOps] at A;split at A;case h_2=>cases A
  rename_i s2 h2 he;have B:=m9 (ops:=ops) ops.toList [] (by simp) (fun k i N=>by simp at N);have J:=kz ops.toList [];have al:ops.size - p=(ops.size - (p+1))+1:=by omega
  rw [al];refine ⟨fun hr=>?_,fun i hi=>?_⟩
  ·have h3:=qc hb q.1 hr p U;rw [q.2 p U] at h3;simp at h3
  ·obtain ⟨oi,k1,k2,k3⟩:=ot q.1 hi;have a0:i < ops.size:=ah (l:=ops.toList) (by simpa using k1)
   have ao:p≤i:=by have:=q.2 i a0;rw [k2] at this;simpa using this
   have a6:p=i:=by
    rcases bh p i with h4 | h4
    ·exfalso;have aa:=ui (hw 1 (by omega)) (j:=i) (i:=p) (by rw [J]; simpa using a0) (by omega) (by omega);have hl:=ij (q.down hb) (B _ _ aa) fun o e ho he an=>by rw [k1] at ho; cases ho; exact k3 e he an
     rw [q.2 p U] at hl;simp at hl
    ·omega
   subst a6;rw [V] at k1; cases k1;refine xg V (pz hc hev0 hg ad he C fun a' w' ac=>?_);have e1:p+1+n=p+(n+1):=by omega
   refine seq_any hc hev0 hg K hb n (p+1) s2 h2 s1 h1 _ a' w' (by omega) (fun x hx=>?_) A q.next ac ?_
   ·have:=hw (x+1) (by omega);rwa [show p+1+x=p+(x+1) by omega]
   ·rw [e1]; exact N
theorem zbz {h0:Heap}:∀ (j:List AOper) (s s1:Slots) (h1:Heap),(∀ o ∈ j,calm o.op=true)→evQuiet call j s h0=some (s1,h1) →
  h1=h0∧∃ (S:Nat→Slots) (r:Nat→Slot),S 0=s∧S j.length=s1∧∀ (x:Nat) (o:AOper),j[x]? = some o →
   (∃ h',dy call o (S x) { h0 with wmin:=h0.size }=some (S (x+1),h')∧h'.size=h0.size∧h'.wmin=h0.size)∧S (x+1)=a9 o.dst (r x) (S x)∧(∀ cs,r x ≠ .var cs)∧∀ d,o.dst=some d→isVar (S x) d=false
 | [],s,s1,h1,_,e=>by simp only [evQuiet] at e; cases e;exact ⟨rfl,fun _=>s,fun _=>.undef,rfl,rfl,fun x o hx=>by simp at hx⟩
 | o :: j,s,s1,h1,p,e=>by
  simp only [evQuiet] at e;split at e;case h_2=>cases e
  rename_i y h2 q;split at e;case isFalse=>cases e
  rename_i A;obtain ⟨a1,a2,a3⟩:=A;obtain ⟨b1,S,r,b2,b3,b4⟩:=zbz j y s1 h1 (fun o ho=>p o (bd _ ho)) e;obtain ⟨x0,c1,_,c3⟩:=iz (S2:=s) (p o (a8 ..)) (Agree.of (fun _ _=>rfl) (fun _ _=>Iff.rfl)) q;refine ⟨b1,fun x=>match x with | 0=>s | x+1=>S x,fun x=>match x with | 0=>x0 | x+1=>r x,rfl,by simpa using b3,fun x B hx=>?_⟩;cases x with
  | zero =>
   simp at hx; subst hx;refine ⟨⟨h2,by simp only [b2]; exact q,a1,a2⟩,by simp only [b2]; exact c1,c3,fun d hd=>?_⟩;rw [hd] at a3;simpa using a3
  | succ x =>
   simp at hx;exact b4 x B hx
theorem el (d:Option Nat) (x:Slot) (s:Slots) (t:Nat):sget (a9 d x s) t=if d=some t then some x else sget s t:=by rw [ir]; rfl
theorem quiet_any (hc:CallOK E call) (hev0:CallEvol call) (hg:GidOK E) (e4:ll E nt ops locs 0 ops.toList=some aZ) (hb:edgesBack ops=true)
  {p n:Nat} {h1:Heap} {s1:Slots} (et:p+n≤aZ.length) (e5:waits (befs ops.toList []) (p+n)=true)
  (d9:∀ x y oi C,x < n→y < n→aZ[p+x]? = some oi→aZ[p+y]? = some C→apart (befs ops.toList []) (p+x) (p+y) oi C=true)
  (bx:∀ x o,x < n→aZ[p+x]? = some o→calm o.op=true)
  (e6:evQuiet call ((aZ.drop p).take n) s h=some (s1,h1))
  (hk:∀ ad a' w',Exact ops ad (p+n)→At E lo nt μ0 w0 ds s1 h1 a' w'→wpAnyIn (F0 ro) 0 E.P .any ops Q (ops.size - (p+n)) ad a' w') :
  ∀ q a w,Exact ops q p→At E lo nt μ0 w0 ds s h a w→wpAnyIn (F0 ro) 0 E.P .any ops Q (ops.size - p) q a w:=by
 obtain ⟨q1,q2⟩:=kj _ _ _ e4;simp only [gd] at q1;have a6:=m9 (ops:=ops) ops.toList [] (by simp) (fun k i hk=>by simp at hk);have c4:=kz ops.toList [];simp only [eq,dq,gd] at c4;have d2:∀ x,x < n→((aZ.drop p).take n)[x]? = aZ[p+x]?:=fun x hx=>by rw [fp hx,dt]
 have d4:((aZ.drop p).take n).length=n:=by simp; omega
 obtain ⟨e1,S,r,b2,b3,b4⟩:=zbz _ _ _ _ (fun o ho=>by
  obtain ⟨x,hx⟩:=gu ho;have V:x < n:=by have:=ah hx; omega
  exact bx x o V (by rw [← d2 x V]; exact hx)) e6
 subst e1;rw [d4] at b3
 have c5:∀ x,x < n→∃ o I,ops[p+x]? = some o∧aZ[p+x]? = some I∧kr E nt ops (locs.contains (p+x)) o=some I:=by
  intro x hx;have cv:p+x < ops.size:=by omega
  obtain ⟨I,h2,W⟩:=q2 (p+x) ops[p+x] (by simp [cv]);exact ⟨ops[p+x],I,by simp [cv],h2,by simpa using W⟩
 have text:∀ x I,x < n→aZ[p+x]? = some I→(∃ h',dy call I (S x) { h1 with wmin:=h1.size }=some (S (x+1),h')∧h'.size=h1.size∧h'.wmin=h1.size)∧S (x+1)=a9 I.dst (r x) (S x)∧(∀ cs,r x ≠ .var cs)∧∀ d,I.dst=some d→isVar (S x) d=false :=
  fun x I hx ho=>b4 x I (by rw [d2 x hx]; exact ho)
 have dst_ne:∀ x y oi C d,x < n→y < n→x≠y→aZ[p+x]? = some oi→aZ[p+y]? = some C→C.dst=some d→oi.dst≠some d:=by
  intro x y oi C d hx hy cx hi hj hd e;have:=d9 x y oi C hx hy hi hj;unfold apart at this;rw [hd] at this;simp only [bc,c9,beq_iff_eq,bne_iff_ne] at this;rcases this.1 with h2 | h2
  ·omega
  ·exact h2 e
 have text_hit:∀ x y o d,x≤n→y < x→aZ[p+y]? = some o→o.dst=some d→sget (S x) d=some (r y):=by
  intro x;induction x with
  | zero=>intro y o d _ hy; omega
  | succ x ih =>
   intro y o d hx hy ho hd;obtain ⟨_,I,_,ay,_⟩:=c5 x (by omega);obtain ⟨_,t2,_,_⟩:=text x I (by omega) ay;rw [t2,el];by_cases e:y=x
   ·subst e; rw [ho] at ay; cases ay; rw [if_pos hd]
   ·rw [if_neg (dst_ne x y I o d (by omega) (by omega) (fun e'=>e e'.symm) ay ho hd)];exact ih y o d (by omega) (by omega) ho hd
 have text_miss:∀ x t,x≤n→(∀ y o,y < x→aZ[p+y]? = some o→o.dst≠some t)→sget (S x) t=sget s t:=by
  intro x;induction x with
  | zero=>intro t _ _; rw [b2]
  | succ x ih =>
   intro t hx U;obtain ⟨_,I,_,ay,_⟩:=c5 x (by omega);obtain ⟨_,t2,_,_⟩:=text x I (by omega) ay;rw [t2,el,if_neg (U x I (by omega) ay)];exact ih t (by omega) fun y o hy=>U y o (by omega)
 have dst_novar:∀ x o d cs,x < n→aZ[p+x]? = some o→o.dst=some d→sget s d≠some (.var cs):=by
  intro x o d cs hx ho hd hv;obtain ⟨_,_,_,t4⟩:=text x o hx ho;have h2:=t4 d hd;have W:sget (S x) d=sget s d:=text_miss x d (by omega) fun y o2 hy e7=>dst_ne y x o2 o d (by omega) hx (by omega) e7 ho hd
  unfold isVar at h2;rw [W,hv] at h2;simp at h2
 have dd:∀ (k:Nat) (q:Array Bool) (sD:Slots) (a:Act) (w:World),q.size=ops.size→Down ops q→(∀ i,i < p→q[i]? = some true)→(∀ i,p+n≤i→i < ops.size→q[i]? = some false) →
   ((List.range n).filter fun x=>q[p+x]? == some false).length=k →
   (∀ x o d,x < n→aZ[p+x]? = some o→q[p+x]? = some true→o.dst=some d→sget sD d=some (r x)) →
   (∀ t,(∀ x o,x < n→aZ[p+x]? = some o→q[p+x]? = some true→o.dst≠some t)→sget sD t=sget s t) →
   At E lo nt μ0 w0 ds sD h1 a w→wpAnyIn (F0 ro) 0 E.P .any ops Q (ops.size - (p+n)+k) q a w:=by
  intro k;induction k with
  | zero =>
   intro q sD a w b7 bb b6 b5 A al G ci
   have d3:∀ x,x < n→q[p+x]? = some true:=by
    intro x hx;have cv:p+x < q.size:=by omega
    have an:x ∉ (List.range n).filter fun x=>q[p+x]? == some false:=by rw [bn A]; simp
    rw [gj] at an;have h2:¬ (q[p+x]? = some false):=fun h2=>an ⟨dc.2 hx,by simp [h2]⟩
    rw [lf cv] at h2 ⊢;cases hv:q[p+x] with
    | true=>rfl
    | false=>rw [hv] at h2; exact absurd rfl h2
   have ao:Exact ops q (p+n):=by
    refine ⟨b7,fun i hi=>?_⟩;rcases bh i p with h2 | h2
    ·rw [b6 i h2]; simp; omega
    ·rcases bh i (p+n) with W | W
     ·have:=d3 (i - p) (by omega);rw [show p+(i - p)=i by omega] at this;rw [this]; simp [W]
     ·rw [b5 i W hi]; simp; omega
   refine hk q a w ao ?_;obtain ⟨μ,ν,k1,k2,k3,k4⟩:=ci;refine ⟨μ,ν,k1,k2,k3.congr fun t=>?_,k4⟩;rw [← b3];by_cases hx:∃ x o,x < n∧aZ[p+x]? = some o∧o.dst=some t
   ·obtain ⟨x,o,h2,W,h4⟩:=hx;rw [text_hit n x o t (aj _) h2 W h4,al x o t h2 W (d3 x h2) h4]
   ·have U:∀ x o,x < n→aZ[p+x]? = some o→o.dst≠some t:=fun x o h2 W h4=>hx ⟨x,o,h2,W,h4⟩
    rw [text_miss n t (aj _) U,G t fun x o h2 W _=>U x o h2 W]
  | succ k ih =>
   intro q sD a w b7 bb b6 b5 A al G ci
   have d5:∃ x,x < n∧q[p+x]? = some false:=by
    have cx:(List.range n).filter (fun x=>q[p+x]? == some false)≠[]:=fun e=>by rw [e] at A; simp at A
    obtain ⟨x,hx⟩:=vg _ cx;rw [gj,dc] at hx;exact ⟨x,hx.1,by simpa using hx.2⟩
   obtain ⟨xu,ez,dl⟩:=d5;refine ⟨fun hr=>?_,fun i hi=>?_⟩
   ·have:=qc hb b7 hr (p+xu) (by omega);rw [dl] at this; cases this
   ·obtain ⟨oi,k1,k2,k3⟩:=ot b7 hi;have e0:i < ops.size:=ah (l:=ops.toList) (by simpa using k1)
    have f0:p≤i:=by
     rcases bh i p with h2 | h2
     ·rw [b6 i h2] at k2; cases k2
     ·exact h2
    have f1:i < p+n:=by
     rcases bh i (p+n) with h2 | h2
     ·exact h2
     ·exfalso;have cp:=ui e5 (j:=i) (i:=p+xu) (by rw [c4]; exact e0) h2 (by omega);have hl:=ij bb (a6 _ _ cp) fun o e ho he ax=>by rw [k1] at ho; cases ho; exact k3 e he ax
      rw [dl] at hl; cases hl
    obtain ⟨x,rfl⟩:∃ x,i=p+x:=⟨i - p,by omega⟩;have V:x < n:=by omega
    obtain ⟨o,I,h2,W,h4⟩:=c5 x V;rw [h2] at k1; cases k1;obtain ⟨⟨h',t1,e8,e9⟩,t2,t3,t4⟩:=text x I V W
    have cy:∀ j,(((befs ops.toList []).getD (p+x) 0).testBit j=true)→q[j]? = some true:=fun j cp =>
     ij bb (a6 _ _ cp) fun o2 e ho he ax=>by rw [h2] at ho; cases ho; exact k3 e he ax
    have ea:Agree (S x) sD I.reads:=by
     refine Agree.of ?_ ?_
     ·intro t ht;by_cases hy:∃ y C,y < n∧aZ[p+y]? = some C∧C.dst=some t
      ·obtain ⟨y,C,aa,K,a0⟩:=hy;have O:∀ z N,z < n→z≠y→aZ[p+z]? = some N→N.dst≠some t:=fun z N hz cx B=>dst_ne z y N C t hz aa cx B K a0
       by_cases eb:y=x
       ·-- its own slot
        subst eb;rw [text_miss y t (by omega) fun z N hz B=>O z N (by omega) (by omega) B]
        rw [G t fun z N hz B hl=>by
         by_cases e:z=y
         ·subst e; rw [k2] at hl; cases hl
         ·exact O z N hz e B]
       ·have:=d9 x y I C V aa W K;unfold apart at this;rw [a0] at this;simp only [bc,c9,beq_iff_eq,ep,sy,decide_eq_false_iff_not,decide_eq_true_eq] at this;rcases this.2 with ((h5 | h5) | h5) | h5
        ·omega
        ·exact absurd ht h5
        ·obtain ⟨h5,h6⟩:=h5;rw [text_hit x y C t (by omega) (by omega) K a0,al y C t aa K (cy _ h6) a0]
        ·obtain ⟨h5,h6⟩:=h5
         have ec:q[p+y]?≠some true:=by
          intro hl;have:=ij bb (a6 _ _ h6) fun o2 e ho he ax=>bb _ _ _ hl ho he ax
          rw [k2] at this; cases this
         rw [text_miss x t (by omega) fun z N hz B=>O z N (by omega) (by omega) B]
         rw [G t fun z N hz B hl=>by
          by_cases e:z=y
          ·subst e; exact absurd hl ec
          ·exact O z N hz e B]
      ·have U:∀ z N,z < n→aZ[p+z]? = some N→N.dst≠some t:=fun z N hz B hd=>hy ⟨z,N,hz,B,hd⟩
       rw [text_miss x t (by omega) fun z N hz B=>U z N (by omega) B,G t fun z N hz B _=>U z N hz B]
     ·intro t cs
      have v1:sget (S x) t=some (.var cs) ↔ sget s t=some (.var cs):=by
       by_cases hy:∃ y C,y < x∧aZ[p+y]? = some C∧C.dst=some t
       ·obtain ⟨y,C,aa,K,a0⟩:=hy;rw [text_hit x y C t (by omega) aa K a0];constructor
        ·intro e; exact absurd (ce e) ((text y C (by omega) K).2.2.1 cs)
        ·intro e; exact absurd e (dst_novar y C t cs (by omega) K a0)
       ·rw [text_miss x t (by omega) fun z N hz B hd=>hy ⟨z,N,hz,B,hd⟩]
      have v2:sget sD t=some (.var cs) ↔ sget s t=some (.var cs):=by
       by_cases hy:∃ y C,y < n∧aZ[p+y]? = some C∧q[p+y]? = some true∧C.dst=some t
       ·obtain ⟨y,C,aa,K,eh,a0⟩:=hy;rw [al y C t aa K eh a0];constructor
        ·intro e; exact absurd (ce e) ((text y C aa K).2.2.1 cs)
        ·intro e; exact absurd e (dst_novar y C t cs aa K a0)
       ·rw [G t fun z N hz B hl hd=>hy ⟨z,N,hz,B,hl,hd⟩]
      exact v1.trans v2.symm
    obtain ⟨x',c1,c2,c3⟩:=iz (bx x I V W) ea t1;refine xg h2 (zby hc hev0 hg h4 c2 e8 e9 ci fun a' w' e2=>?_);have J:∀ j,j≠p+x→(q.setIfInBounds (p+x) true)[j]? = q[j]?:=fun j hj=>dm (fun e=>hj e.symm)
    have ac:(q.setIfInBounds (p+x) true)[p+x]? = some true:=by simp [b7,e0]
    have ei:∀ d,I.dst=some d→x'=r x:=by intro d hd;rw [t2] at c1;rw [hd] at c1;simp only [a9] at c1;injection c1 with c1 _;injection c1 with _ c1;exact c1.symm
    refine ih (q.setIfInBounds (p+x) true) (a9 I.dst x' sD) a' w' (by simp [b7]) ?_ ?_ ?_ ?_ ?_ ?_ e2
    ·intro j C e hj d6 he ax;by_cases ej:j=p+x
     ·subst ej;rw [h2] at d6; cases d6;have:=k3 e he ax;by_cases ee:e.on=p+x
      ·rw [ee]; exact ac
      ·rw [J _ ee]; exact this
     ·rw [J _ ej] at hj;have:=bb j C e hj d6 he ax;by_cases ee:e.on=p+x
      ·rw [ee]; exact ac
      ·rw [J _ ee]; exact this
    ·intro j hj; rw [J j (by omega)]; exact b6 j hj
    ·intro j hj ek; rw [J j (by omega)]; exact b5 j hj ek
    ·-- one less is to come
     have d8:((List.range n).filter fun y=>(q.setIfInBounds (p+x) true)[p+y]? == some false)=((List.range n).filter fun y=>q[p+y]? == some false).filter fun y=>y != x:=by
      rw [List.filter_filter];apply List.filter_congr;intro y _;by_cases ey:y=x
      ·subst ey; rw [ac]; simp
      ·rw [J _ (by omega)]; simp [ey]
     rw [d8]
     have an:x ∈ (List.range n).filter fun y=>q[p+y]? == some false:=by rw [gj]; exact ⟨dc.2 V,by simp [k2]⟩
     have e3:((List.range n).filter fun y=>q[p+y]? == some false).Nodup:=List.nodup_range.sublist List.filter_sublist;generalize (List.range n).filter (fun y=>q[p+y]? == some false)=L at A an e3;have d1:L.filter (fun y=>y != x)=L.erase x:=(e3.erase_eq_filter x).symm;rw [d1,List.length_erase_of_mem an,A];rfl
    ·intro y oy d hy bm hl hd;rw [el];by_cases ey:y=x
     ·subst ey; rw [W] at bm; cases bm;rw [if_pos hd,ei d hd]
     ·rw [J _ (by omega)] at hl;rw [if_neg (dst_ne x y I oy d V hy (fun e=>ey e.symm) W bm hd)];exact al y oy d hy bm hl hd
    ·intro t U;rw [el,if_neg (U x I V W ac)];refine G t fun y oy hy bm hl=>?_
     by_cases ey:y=x
     ·subst ey; rw [k2] at hl; cases hl
     ·exact U y oy hy bm (by rw [J _ (by omega)]; exact hl)
 intro q a w ao ci
 have A:((List.range n).filter fun x=>q[p+x]? == some false).length=n:=by
  have:(List.range n).filter (fun x=>q[p+x]? == some false)=List.range n:=by rw [List.filter_eq_self];intro x hx;rw [dc] at hx;rw [ao.2 (p+x) (by omega)];simp
  rw [this,mb]
 have:=dd n q s a w ao.1 (ao.down hb) (fun i hi=>by rw [ao.2 i (by omega)]; simp [hi]) (fun i hi em=>by rw [ao.2 i em]; simp; omega) A
  (fun x o d hx ho hl _=>by have h5:=ao.2 (p+x) (by omega);rw [hl] at h5;have h6:=of_decide_eq_true (ce h5).symm;omega) (fun t _=>rfl) ci
 rwa [show ops.size - (p+n)+n=ops.size - p by omega] at this
end
end Go.Abs

namespace Go.Abs
section
variable {E:Env}
theorem LoopRel.same {μ μ':MM} {g:Nat} {st:LoopSt} {p:Option AExit} {sl:List (Nat × AVal)} {r:Loop} (h:LoopRel E μ g st p sl r) (hm:∀ j ∈ AObj.ids (.loop g st p sl),j < μ.length→μ'[j]? = μ[j]?):LoopRel E μ' g st p sl r :=
 ⟨h.code,h.st,h.pend,fun k x d=>by obtain ⟨v',h1,h2⟩:=h.slots k x d;refine ⟨v',h1,ji (fun j e=>hm j ?_) h2⟩;simp only [AObj.ids];exact n6 (k:=k) (a:=x.2) (by rw [bp,d]; rfl) e⟩
theorem ORel.same {μ μ':MM} {b i:Nat} {w:World} {o:AObj} (h:ORel E μ b i w o) (hi:μ'[i]? = μ[i]?) (hm:∀ j ∈ o.ids,j < μ.length→μ'[j]? = μ[j]?):ORel E μ' b i w o:=by
 cases o with
 | dead=>exact hi.trans h
 | cells esz cs =>
  obtain ⟨m,c,e,fr,h1,h2,q,C,G,I,J⟩:=h;refine ⟨m,c,e,fr,hi.trans h1,h2,q,C,G,fun k v A=>?_,J⟩;obtain ⟨K,v',N,O⟩:=I k v A;exact ⟨K,v',N,ji (fun j d=>hm j (n6 A d)) O⟩
 | map es clock =>
  obtain ⟨m,es',h1,h2,q,C⟩:=h;refine ⟨m,es',hi.trans h1,h2,q,fun k x A=>?_⟩;obtain ⟨y,y1,P,U,V⟩:=C k x A
  have B:∀ j,j ∈ x.1.ids∨j ∈ x.2.1.ids→j ∈ AObj.ids (.map es clock):=fun j d=>by simp only [AObj.ids,dx,bz];exact ⟨x,br A,d⟩
  exact ⟨y,y1,ji (fun j d=>hm j (B j (.inl d))) P,ji (fun j d=>hm j (B j (.inr d))) U,V⟩
 | iter s pos =>
  obtain ⟨m,h1,h2⟩:=h;exact ⟨m,hi.trans h1,h2⟩
 | mapIter r a b c =>
  obtain ⟨m,W,⟨h1,h0⟩,h2,q⟩:=h;exact ⟨m,W,⟨hi.trans h1,h0⟩,h2,ji (fun j d=>hm j (by cases r <;> exact d)) q⟩
 | loop g st p sl =>
  obtain ⟨m,r,h1,h2,q⟩:=h;exact ⟨m,r,hi.trans h1,h2,q.same hm⟩
theorem ORel.moved {μ μ':MM} {b i G:Nat} {w:World} {o:AObj} (h:ORel E μ b i w o) (hi:μ'[G]? = μ[i]?) (hm:∀ j ∈ o.ids,j < μ.length→μ'[j]? = μ[j]?) (hb:b≤i):ORel E μ' b G w o:=by
 cases o with
 | dead=>exact hi.trans h
 | cells esz cs =>
  obtain ⟨m,c,e,fr,h1,h2,q,C,I,J,K⟩:=h;refine ⟨m,c,e,fr,hi.trans h1,h2,q,C,I,fun k v A=>?_,fun _=>K hb⟩;obtain ⟨N,v',O,P⟩:=J k v A;exact ⟨N,v',O,ji (fun j d=>hm j (n6 A d)) P⟩
 | map es clock =>
  obtain ⟨m,es',h1,h2,q,C⟩:=h;refine ⟨m,es',hi.trans h1,h2,q,fun k x A=>?_⟩;obtain ⟨y,y1,U,V,W⟩:=C k x A
  have B:∀ j,j ∈ x.1.ids∨j ∈ x.2.1.ids→j ∈ AObj.ids (.map es clock):=fun j d=>by simp only [AObj.ids,dx,bz];exact ⟨x,br A,d⟩
  exact ⟨y,y1,ji (fun j d=>hm j (B j (.inl d))) U,ji (fun j d=>hm j (B j (.inr d))) V,W⟩
 | iter s pos =>
  obtain ⟨m,h1,h2⟩:=h;exact ⟨m,hi.trans h1,h2⟩
 | mapIter r a b c =>
  obtain ⟨m,r',⟨h1,h0⟩,h2,q⟩:=h;exact ⟨m,r',⟨hi.trans h1,h0⟩,h2,ji (fun j d=>hm j (by cases r <;> exact d)) q⟩
 | loop g st p sl =>
  obtain ⟨m,r,h1,h2,q⟩:=h;exact ⟨m,r,hi.trans h1,h2,q.same hm⟩
variable {lo nt:Nat} {μ0:MM} {w0:World} {ds:List Deferred} {s:Slots} {h:Heap} {a:Act} {w:World}
theorem At.move {N r wm:Nat} {d:Option Nat} {x:Slot} {ob:AObj} (G:At E lo nt μ0 w0 ds (a9 d x s) ⟨h.objs++[ob],h.base,wm⟩ a w) (hN:h.objs.length=N) (hr:h.objs[r]? = some .dead) (b5:h.base≤r) (h0:μ0.length≤r)
  (hs:∀ t y,sget s t=some y→∀ i ∈ y.ids,i < N∧i≠r) (hx:∀ v,x = .val v→∀ i ∈ v.ids,i≠r) (ac:∀ cs,x ≠ .var cs) (ad:∀ i ∈ ob.ids,i < N∧i≠r)
  (ho:∀ (k:Nat) (o:AObj),h.objs[k]? = some o→∀ i ∈ o.ids,i < N∧i≠r) :
  At E lo nt μ0 w0 ds (a9 d (x.ren (mv N r)) s) ⟨h.objs.set r ob,h.base,wm⟩ a w:=by
 obtain ⟨μ,ν,V,k2,J,k4,k5,k6⟩:=G;have b6:r < N:=by rw [← hN]; exact ah hr
 have W:μ.length=N+1:=by have:=k2.len; simpa [hN] using this
 let μ':MM:=(μ.take N).set r ((μ[N]?).getD none)
 have a0:μ'.length=N:=by simp [μ',W]
 have G:∀ i,i < N→i≠r→μ'[i]? = μ[i]?:=fun i hi a6=>by simp only [μ'];rw [aq (Ne.symm a6),eo,if_pos hi]
 have P:μ'[r]? = μ[N]?:=by simp only [μ'];rw [ii,if_pos rfl,if_pos (by simp [W]; omega),ai (by omega)];rfl
 have C:∀ i,i < N∧i≠r→i < μ.length→μ'[i]? = μ[i]?:=fun i hi _=>G i hi.1 hi.2
 have A:∀ i m,μ'[i]? = some (some m)→∃ p,μ[p]? = some (some m)∧((i=r∧p=N)∨(i≠r∧p=i∧i < N)):=fun i m hm=>by
  by_cases e:i=r
  ·subst e;exact ⟨N,P.symm.trans hm,.inl ⟨rfl,rfl⟩⟩
  ·have hi:i < N:=by rw [← a0]; exact ah hm
   exact ⟨i,(G i hi e).symm.trans hm,.inr ⟨e,rfl,hi⟩⟩
 refine ⟨μ',ν,?_,?_,?_,k4,k5,k6⟩
 ·refine ⟨V.os,V.tape,V.output,V.size,V.block,by rw [a0]; omega,fun i hi=>?_,fun i m hi hm=>?_⟩
  ·rw [G i (by omega) (by omega)]; exact V.old i hi
  ·obtain ⟨p,O,h1 | h1⟩:=A i m hm
   ·exact V.new p m (by omega) O
   ·exact V.new p m (by omega) O
 ·have al:=k2.bs;constructor
  ·rw [a0]; simp [hN]
  ·simp only [az]; simp at al; omega
  ·intro i o hi;simp only at hi ⊢;rw [ii] at hi;split at hi
   ·rename_i e;subst e;split at hi
    ·cases hi;have hb:h.base≤N:=by omega
     exact (k2.obj N ob (by simp [← hN])).moved P (fun j hj=>C j (ad j hj)) hb
    ·cases hi
   ·rename_i e;have an:i < N:=by rw [← hN]; exact ah hi
    exact (k2.obj i o (by rw [ag (by omega)]; exact hi)).same (G i an (Ne.symm e)) fun j hj=>C j (ho i o hi j hj)
  ·intro i j mi mj b7 hi ao ax;obtain ⟨p,O,U⟩:=A i mi ao;obtain ⟨q,hq,ay⟩:=A j mj ax;refine k2.sep p q mi mj ?_ ?_ O hq
   ·rcases U with ⟨a1,a2⟩ | ⟨a1,a2,a3⟩ <;> rcases ay with ⟨b1,b2⟩ | ⟨b1,b2,b3⟩ <;> omega
   ·simp only at hi ⊢;rcases U with ⟨a1,a2⟩ | ⟨a1,a2,a3⟩ <;> omega
  ·intro i m hm;obtain ⟨p,O,_⟩:=A i m hm;exact k2.lt p m O
  ·refine k2.tab.less fun i m hi hm=>?_
   obtain ⟨p,O,U⟩:=A i m hm;simp only at hi;exact ⟨p,m,by simp only; rcases U with ⟨a1,a2⟩ | ⟨a1,a2,a3⟩ <;> omega,O,rfl⟩
 ·have I:∀ t y,sget (a9 d (x.ren (mv N r)) s) t=some y→(d=some t∧y=x.ren (mv N r))∨(d≠some t∧sget s t=some y):=fun t y hy=>by
   rw [el] at hy;split at hy
   ·rename_i e; cases hy; exact .inl ⟨e,rfl⟩
   ·rename_i e; exact .inr ⟨e,hy⟩
  have B:∀ t cs,sget (a9 d (x.ren (mv N r)) s) t=some (.var cs)→sget (a9 d x s) t=some (.var cs)∧∀ i ∈ AVal.idsL cs,i < N∧i≠r:=fun t cs hy=>by
   rcases I t _ hy with ⟨e,h1⟩ | ⟨e,h1⟩
   ·exfalso;cases x <;> simp [Slot.ren] at h1
    exact ac _ rfl
   ·exact ⟨by rw [el,if_neg e]; exact h1,hs t _ h1⟩
  constructor
  ·intro t v K;rcases I t _ K with ⟨e,h1⟩ | ⟨e,h1⟩
   ·cases x with
    | val u =>
     simp only [Slot.ren] at h1;cases h1;obtain ⟨v',j1,j2⟩:=J.val t u (by rw [el,if_pos e]);refine ⟨v',j1,ql (mv N r) (fun i hi hl=>?_) j2⟩;unfold mv;split
     ·rename_i e2; subst e2; exact P
     ·rename_i e2;exact G i (by omega) (hx u rfl i hi)
    | _=>simp [Slot.ren] at h1
   ·obtain ⟨v',j1,j2⟩:=J.val t v (by rw [el,if_neg e]; exact h1);exact ⟨v',j1,ji (fun i hi=>C i (hs t _ h1 i hi)) j2⟩
  ·intro t K;rcases I t _ K with ⟨e,h1⟩ | ⟨e,h1⟩
   ·cases x <;> simp [Slot.ren] at h1
    exact J.undef t (by rw [el,if_pos e])
   ·exact J.undef t (by rw [el,if_neg e]; exact h1)
  ·intro t cs K;obtain ⟨j1,j2⟩:=B t cs K;obtain ⟨q1,q2,c,e,fr,q3,q4,q5,q6⟩:=J.var t cs j1;refine ⟨q1,q2,c,e,fr,q3,q4,fun k v hk=>?_,q6⟩;obtain ⟨z1,v',z2,z3⟩:=q5 k v hk;exact ⟨z1,v',z2,ji (fun i hi=>C i (j2 i (n6 hk hi))) z3⟩
  ·intro t t' o cs K aa;obtain ⟨j1,_⟩:=B t' cs aa;rcases I t _ K with ⟨e,h1⟩ | ⟨e,h1⟩
   ·cases x <;> simp [Slot.ren] at h1
    obtain ⟨rfl,rfl⟩:=h1;exact J.loc t _ _ cs (by rw [el,if_pos e]) j1
   ·exact J.loc t t' o cs (by rw [el,if_neg e]; exact h1) j1
  ·intro t t' cs cs' a6 K aa;exact J.sepv t t' cs cs' a6 (B t cs K).1 (B t' cs' aa).1
  ·intro t cs i m K hm;obtain ⟨p,O,_⟩:=A i m hm;exact J.sepm t cs p m (B t cs K).1 O
  ·exact J.ds
  ·refine fun q hq=>⟨fun i m hm=>?_,fun t cs K=>(J.sepd q hq).2 t cs (B t cs K).1⟩
   obtain ⟨p,O,_⟩:=A i m hm;exact (J.sepd q hq).1 p m O
  ·exact J.nodup
end
end Go.Abs

namespace Go.Abs
section
variable {E:Env} {X:Nat→Prop}
theorem At.reserve {lo nt:Nat} {μ0:MM} {w0:World} {ds:List Deferred} {s:Slots} {h:Heap} {a:Act} {w:World} (q:At E lo nt μ0 w0 ds s h a w) (n:Nat) :
  At E lo nt μ0 w0 ds s ⟨h.objs++List.replicate n .dead,h.base,h.wmin⟩ a w:=by
 obtain ⟨μ,ν,e,p,y,I,J,K⟩:=q;have A:Later μ (μ++List.replicate n none):=⟨by simp,fun i hi=>.inl (ag hi)⟩;have hold:∀ i,i < μ.length→(μ++List.replicate n none)[i]? = μ[i]?:=fun i hi=>ag hi
 have d:∀ i m,(μ++List.replicate n none)[i]? = some (some m)→μ[i]? = some (some m):=fun i m hm=>by
  rcases bh i μ.length with h1 | h1
  ·rw [← hold i h1]; exact hm
  ·rw [aw h1,ft] at hm;split at hm
   ·cases hm
   ·cases hm
 refine ⟨μ++List.replicate n none,ν,?_,?_,?_,I,J,K⟩
 ·refine ⟨e.os,e.tape,e.output,e.size,e.block,de e.len A.len,fun i hi=>?_,fun i m hi hm=>e.new i m hi (d i m hm)⟩;rw [hold i (fg hi e.len)]; exact e.old i hi
 ·constructor
  ·simp [p.len]
  ·have:=p.bs; simp; omega
  ·intro i o hi;simp only at hi;rcases bh i h.objs.length with h1 | h1
   ·rw [ag h1] at hi;exact (p.obj i o hi).keep A fun m hm=>⟨by rw [hold i (by rw [p.len]; exact h1)]; exact hm,rfl⟩
   ·have N:=ah hi;rw [aw h1,ft] at hi;split at hi
    ·cases hi;show (μ++_)[i]? = _;rw [aw (by rw [p.len]; exact h1),ft,p.len];rw [if_pos (by assumption)]
    ·cases hi
  ·intro i j mi mj B hi C G;exact p.sep i j mi mj B hi (d _ _ C) (d _ _ G)
  ·intro i m hm; exact p.lt i m (d _ _ hm)
  ·exact p.tab.less fun i m hi hm=>⟨i,m,hi,d _ _ hm,rfl⟩
 ·exact y.keep A (fun _ _ _=>rfl) (fun t cs i m O hi hm=>y.sepm t cs i m O (d _ _ hm)) fun r hr=>⟨rfl,fun i m hi hm=>(y.sepd r hr).1 i m (d _ _ hm)⟩
theorem At.ids {lo nt:Nat} {μ0:MM} {w0:World} {ds:List Deferred} {s:Slots} {h:Heap} {a:Act} {w:World} (A:At E lo nt μ0 w0 ds s h a w) :
  (∀ t y,sget s t=some y→∀ i ∈ y.ids,i < h.size)∧(∀ (k:Nat) (o:AObj),h.objs[k]? = some o→∀ i ∈ o.ids,i < h.size)∧μ0.length≤h.size:=by
 obtain ⟨μ,ν,O,J,K,P,U,V⟩:=A;have d:μ.length=h.size:=J.len
 have j:∀ {cs:List AVal} {c:Array Value} {b:Nat},CRel E μ cs c b→∀ i ∈ AVal.idsL cs,i < h.size:=by
  intro cs c b hc i hi
  have:∀ {cs:List AVal},i ∈ AVal.idsL cs→∃ (k:Nat) (v:AVal),cs[k]? = some v∧i ∈ v.ids:=by
   intro cs;induction cs with
   | nil=>intro h; simp [AVal.idsL] at h
   | cons v cs ih =>
    intro h;simp only [AVal.idsL,bz] at h;rcases h with h | h
    ·exact ⟨0,v,rfl,h⟩
    ·obtain ⟨k,v',h1,h2⟩:=ih h;exact ⟨k+1,v',by simpa using h1,h2⟩
  obtain ⟨k,v,h1,h2⟩:=this hi;obtain ⟨_,v',_,q⟩:=hc k v h1;rw [← d]; exact q.ids_lt i h2
 refine ⟨fun t y N i hi=>?_,fun k o ho i hi=>?_,by rw [← d]; exact O.len⟩
 ·cases y with
  | val v =>
   obtain ⟨v',_,h2⟩:=K.val t v N;rw [← d]; exact h2.ids_lt i hi
  | var cs =>
   obtain ⟨_,_,c,e,fr,_,_,B,_⟩:=K.var t cs N;exact j B i hi
  | _=>simp [Slot.ids] at hi
 ·have:=J.obj k o ho;cases o with
  | dead=>simp [AObj.ids] at hi
  | cells esz cs =>
   obtain ⟨m,c,e,fr,_,_,_,_,_,C,_⟩:=this;exact j C i hi
  | map es clock =>
   obtain ⟨m,es',_,_,_,G⟩:=this;simp only [AObj.ids,dx,bz] at hi;obtain ⟨x,hx,hi⟩:=hi;obtain ⟨k',I⟩:=gu hx;obtain ⟨y,_,B,C,_⟩:=G k' x I;rw [← d];rcases hi with hi | hi
   ·exact B.ids_lt i hi
   ·exact C.ids_lt i hi
  | iter s pos=>simp [AObj.ids] at hi
  | mapIter r a b c =>
   obtain ⟨m,W,_,_,q⟩:=this;rw [← d];exact q.ids_lt i (by cases r <;> exact hi)
  | loop g st p sl =>
   obtain ⟨m,r,_,_,q⟩:=this;simp only [AObj.ids] at hi
   have:∀ {l:List AVal},i ∈ AVal.idsL l→∃ (k:Nat) (v:AVal),l[k]? = some v∧i ∈ v.ids:=by
    intro l;induction l with
    | nil=>intro h; simp [AVal.idsL] at h
    | cons v l ih =>
     intro h;simp only [AVal.idsL,bz] at h;rcases h with h | h
     ·exact ⟨0,v,rfl,h⟩
     ·obtain ⟨k,v',h1,h2⟩:=ih h;exact ⟨k+1,v',by simpa using h1,h2⟩
   obtain ⟨k,v,h1,h2⟩:=this hi;rw [bp,ae] at h1;obtain ⟨x,hx,rfl⟩:=h1;obtain ⟨v',_,G⟩:=q.slots k x hx;rw [← d]; exact G.ids_lt i h2
theorem noCall_ok (E:Env):CallOK E noCall:=⟨fun _ _ _ _ _ h=>by simp [noCall] at h,fun _ _ _ _ _ _ _ _ _ _ h=>by simp [noCall] at h⟩
theorem zd:CallEvol noCall:=fun _ _ _ _ _ h=>by simp [noCall] at h
variable {ops:Array Oper} {lo nt:Nat} {μ0:MM} {w0:World} {ds:List Deferred} {s:Slots} {a:Act} {w:World} {Q:Exit→Act→World→Prop} {ro:Option Nat}
theorem rb (C:GidOK E) {loc:Bool} {o:Oper} {B:AOper} {s1:Slots} {h1:Heap} {os:List AObj} {base wm N:Nat} (y:kr E nt ops loc o=some B)
  (e:dy noCall B s ⟨os,base,N⟩=some (s1,h1)) (hw:wm≤h1.wmin) (A:At E lo nt μ0 w0 ds s ⟨os,base,wm⟩ a w) {next:Act→World→Prop} (G:∀ q w',At E lo nt μ0 w0 ds s1 ⟨h1.objs,base,wm⟩ q w'→next q w') :
  if Region.wanted o (yielded ops a.tmps) then o.wpIn (F0 ro) 0 E.P a w next Q else next (a.put o.dst Go.undef) w:=by
 obtain ⟨μ,ν,I,J,K,O,U,V⟩:=A;have d:=me zd e;have j:At E lo nt μ w ds s ⟨os,base,N⟩ a w:=⟨μ,ν,Step.refl _ _ _ _,J.same rfl rfl rfl,K,O,U,V⟩;refine pz (noCall_ok E) zd C y e j fun q w' p=>G q w' ?_
 obtain ⟨μ',W,j1,j2,j3,j4,j5,j6⟩:=p;exact ⟨μ',W,I.trans (j1.weaken hw fun _ h _=>h) (aj _),j2.same rfl d.base.symm rfl,j3,j4,j5,j6⟩
theorem pn {call:CallSem} {o:AOper} {h1 h2:Heap} {j:Slots} {h':Heap} (A:soft o.op=true) (B:o.op.isCall=false) (hb:h2.base=h1.base) (ha:∀ x ∈ ef o.op,∀ v,x.ev s=some v→∀ i ∈ v.ids,h2.get i=h1.get i)
  (e:dy call o s h1=some (j,h')) :
  (∃ x,j=a9 o.dst x s∧h'=h1∧dy call o s h2=some (a9 o.dst x s,h2)) ∨
  (∃ ob f,NewF f∧j=a9 o.dst (f h1.size) s∧h'=h1.push ob∧dy call o s h2=some (a9 o.dst (f h2.size) s,h2.push ob)) ∨
   (∃ i ob f,NewF f∧h1.base≤i∧i < h1.size∧i ∈ ew o.op s∧j=a9 o.dst (f h1.size) s∧h'=(h1.put i .dead).push ob∧dy call o s h2=some (a9 o.dst (f h2.size) s,(h2.put i .dead).push ob)) ∨
   (∃ i ob v,h1.base≤i∧i < h1.size∧i ∈ ew o.op s∧j=a9 o.dst (.val v) s∧h'=h1.put i ob∧dy call o s h2=some (j,h2.put i ob)):=by
 have run:∀ {j h'},evRun call o s h1=some (j,h')→(∃ x,j=a9 o.dst x s∧h'=h1∧evRun call o s h2=some (a9 o.dst x s,h2)) ∨
  (∃ ob f,NewF f∧j=a9 o.dst (f h1.size) s∧h'=h1.push ob∧evRun call o s h2=some (a9 o.dst (f h2.size) s,h2.push ob)) ∨
   (∃ i ob f,NewF f∧h1.base≤i∧i < h1.size∧i ∈ ew o.op s∧j=a9 o.dst (f h1.size) s∧h'=(h1.put i .dead).push ob∧evRun call o s h2=some (a9 o.dst (f h2.size) s,(h2.put i .dead).push ob)) ∨
   (∃ i ob v,h1.base≤i∧i < h1.size∧i ∈ ew o.op s∧j=a9 o.dst (.val v) s∧h'=h1.put i ob∧evRun call o s h2=some (j,h2.put i ob)):=by
  intro j h' e;unfold evRun at e ⊢;split at e;case h_2=>cases e
  rename_i x s1 J I;cases e;obtain ⟨rfl,hm⟩:=op_heap (d:=o.dst.getD 0) A B hb ha x s1 _ I;rcases hm with ⟨rfl,hm⟩ | ⟨ob,f,C,rfl,rfl,hm⟩ | ⟨i,ob,f,C,hi,p,q,rfl,rfl,hm⟩ | ⟨i,ob,hi,p,q,⟨v,rfl⟩,rfl,hm⟩
  ·exact .inl ⟨x,rfl,rfl,by rw [hm]⟩
  ·exact .inr (.inl ⟨ob,f,C,rfl,rfl,by rw [hm]⟩)
  ·exact .inr (.inr (.inl ⟨i,ob,f,C,hi,p,q,rfl,rfl,by rw [hm]⟩))
  ·exact .inr (.inr (.inr ⟨i,ob,v,hi,p,q,rfl,rfl,by rw [hm]⟩))
 unfold dy at e ⊢;split at e
 ·exact run e
 ·rename_i t G K;split at e
  ·split at e
   ·rename_i y;rw [if_pos y];exact run e
   ·rename_i y;rw [if_neg y];cases e;exact .inl ⟨.undef,rfl,rfl,rfl⟩
  ·cases e;exact .inl ⟨.undef,rfl,rfl,rfl⟩
  ·cases e
end
end Go.Abs

namespace Go.Abs
section
variable {E:Env} {nt:Nat} {s:Slots} {ops:Array Oper} {locs:List Nat} {aZ:List AOper} {Q:Exit→Act→World→Prop} {ro:Option Nat}
def Ld (listed:Array Bool) (p n x:Nat):Bool:=decide (x < n) && (listed[p+x]? == some true)
theorem any_order (e2:ll E nt ops locs 0 ops.toList=some aZ) (hb:edgesBack ops=true)
  {p n:Nat} (ek:p+n≤aZ.length) (e3:waits (befs ops.toList []) (p+n)=true)
  (d8:∀ x y oi C,x < n→y < n→aZ[p+x]? = some oi→aZ[p+y]? = some C→apart (befs ops.toList []) (p+x) (p+y) oi C=true)
  (S:Nat→Slots) (r:Nat→Slot) (b2:S 0=s) (text:∀ x J,x < n→aZ[p+x]? = some J→S (x+1)=a9 J.dst (r x) (S x)∧(∀ cs,r x ≠ .var cs)∧∀ d,J.dst=some d→isVar (S x) d=false)
  (Inv:(Nat→Bool)→Slots→Act→World→Prop)
  (d3:∀ (L:Nat→Bool) (sD:Slots) (a:Act) (w:World) (x:Nat) (o:Oper) (J:AOper),x < n→ops[p+x]? = some o→aZ[p+x]? = some J→kr E nt ops (locs.contains (p+x)) o=some J→L x=false →
   (∀ y,y < n→((befs ops.toList []).getD (p+x) 0).testBit (p+y)=true→L y=true)→(∀ y,y < n→L y=true→((befs ops.toList []).getD (p+y) 0).testBit (p+x)=false)→Agree (S x) sD J.reads→Inv L sD a w →
   ∀ (next:Act→World→Prop),(∀ a' w',Inv (fun y=>y == x || L y) (a9 J.dst (r x) sD) a' w'→next a' w')→if Region.wanted o (yielded ops a.tmps) then o.wpIn (F0 ro) 0 E.P a w next Q else next (a.put o.dst Go.undef) w)
  (hk:∀ an sD a' w',Exact ops an (p+n)→(∀ t,sget sD t=sget (S n) t)→Inv (fun x=>decide (x < n)) sD a' w'→wpAnyIn (F0 ro) 0 E.P .any ops Q (ops.size - (p+n)) an a' w') :
  ∀ q a w,Exact ops q p→Inv (fun _=>false) s a w→wpAnyIn (F0 ro) 0 E.P .any ops Q (ops.size - p) q a w:=by
 obtain ⟨q1,q2⟩:=kj _ _ _ e2;simp only [gd] at q1;have O:=m9 (ops:=ops) ops.toList [] (by simp) (fun k i hk=>by simp at hk);have ci:=kz ops.toList [];simp only [eq,dq,gd] at ci
 have cp:∀ x,x < n→∃ o J,ops[p+x]? = some o∧aZ[p+x]? = some J∧kr E nt ops (locs.contains (p+x)) o=some J:=by
  intro x hx;have cx:p+x < ops.size:=by omega
  obtain ⟨J,h2,h3⟩:=q2 (p+x) ops[p+x] (by simp [cx]);exact ⟨ops[p+x],J,by simp [cx],h2,by simpa using h3⟩
 have dst_ne:∀ x y oi C d,x < n→y < n→x≠y→aZ[p+x]? = some oi→aZ[p+y]? = some C→C.dst=some d→oi.dst≠some d:=by
  intro x y oi C d hx V cy hi hj hd e;have:=d8 x y oi C hx V hi hj;unfold apart at this;rw [hd] at this;simp only [bc,c9,beq_iff_eq,bne_iff_ne] at this;rcases this.1 with h2 | h2
  ·omega
  ·exact h2 e
 have text_hit:∀ x y o d,x≤n→y < x→aZ[p+y]? = some o→o.dst=some d→sget (S x) d=some (r y):=by
  intro x;induction x with
  | zero=>intro y o d _ V; omega
  | succ x ih =>
   intro y o d hx V ho hd;obtain ⟨_,J,_,b6,_⟩:=cp x (by omega);obtain ⟨t2,_,_⟩:=text x J (by omega) b6;rw [t2,el];by_cases e:y=x
   ·subst e; rw [ho] at b6; cases b6; rw [if_pos hd]
   ·rw [if_neg (dst_ne x y J o d (by omega) (by omega) (fun e'=>e e'.symm) b6 ho hd)];exact ih y o d (by omega) (by omega) ho hd
 have text_miss:∀ x t,x≤n→(∀ y o,y < x→aZ[p+y]? = some o→o.dst≠some t)→sget (S x) t=sget s t:=by
  intro x;induction x with
  | zero=>intro t _ _; rw [b2]
  | succ x ih =>
   intro t hx W;obtain ⟨_,J,_,b6,_⟩:=cp x (by omega);obtain ⟨t2,_,_⟩:=text x J (by omega) b6;rw [t2,el,if_neg (W x J (by omega) b6)];exact ih t (by omega) fun y o V=>W y o (by omega)
 have dst_novar:∀ x o d cs,x < n→aZ[p+x]? = some o→o.dst=some d→sget s d≠some (.var cs):=by
  intro x o d cs hx ho hd hv;obtain ⟨_,_,t4⟩:=text x o hx ho;have h2:=t4 d hd;have h3:sget (S x) d=sget s d:=text_miss x d (by omega) fun y o2 V e4=>dst_ne y x o2 o d (by omega) hx (by omega) e4 ho hd
  unfold isVar at h2;rw [h3,hv] at h2;simp at h2
 have d9:∀ (k:Nat) (q:Array Bool) (sD:Slots) (a:Act) (w:World),q.size=ops.size→Down ops q→(∀ i,i < p→q[i]? = some true)→(∀ i,p+n≤i→i < ops.size→q[i]? = some false) →
   ((List.range n).filter fun x=>q[p+x]? == some false).length=k →
   (∀ x o d,x < n→aZ[p+x]? = some o→q[p+x]? = some true→o.dst=some d→sget sD d=some (r x)) →
   (∀ t,(∀ x o,x < n→aZ[p+x]? = some o→q[p+x]? = some true→o.dst≠some t)→sget sD t=sget s t) →
   Inv (Ld q p n) sD a w→wpAnyIn (F0 ro) 0 E.P .any ops Q (ops.size - (p+n)+k) q a w:=by
  intro k;induction k with
  | zero =>
   intro q sD a w c4 ao bm b7 A ax G bb
   have cv:∀ x,x < n→q[p+x]? = some true:=by
    intro x hx;have cx:p+x < q.size:=by omega
    have ay:x ∉ (List.range n).filter fun x=>q[p+x]? == some false:=by rw [bn A]; simp
    rw [gj] at ay;have h2:¬ (q[p+x]? = some false):=fun h2=>ay ⟨dc.2 hx,by simp [h2]⟩
    rw [lf cx] at h2 ⊢;cases hv:q[p+x] with
    | true=>rfl
    | false=>rw [hv] at h2; exact absurd rfl h2
   have ad:Exact ops q (p+n):=by
    refine ⟨c4,fun i hi=>?_⟩;rcases bh i p with h2 | h2
    ·rw [bm i h2]; simp; omega
    ·rcases bh i (p+n) with h3 | h3
     ·have:=cv (i - p) (by omega);rw [show p+(i - p)=i by omega] at this;rw [this]; simp [h3]
     ·rw [b7 i h3 hi]; simp; omega
   have e5:Ld q p n=fun x=>decide (x < n):=by
    funext x
    unfold Ld;by_cases hx:x < n
    ·rw [cv x hx]; simp [hx]
    ·simp [hx]
   rw [e5] at bb;refine hk q sD a w ad (fun t=>?_) bb;by_cases hx:∃ x o,x < n∧aZ[p+x]? = some o∧o.dst=some t
   ·obtain ⟨x,o,h2,h3,h4⟩:=hx;rw [text_hit n x o t (aj _) h2 h3 h4,ax x o t h2 h3 (cv x h2) h4]
   ·have W:∀ x o,x < n→aZ[p+x]? = some o→o.dst≠some t:=fun x o h2 h3 h4=>hx ⟨x,o,h2,h3,h4⟩
    rw [text_miss n t (aj _) W,G t fun x o h2 h3 _=>W x o h2 h3]
  | succ k ih =>
   intro q sD a w c4 ao bm b7 A ax G bb
   have d4:∃ x,x < n∧q[p+x]? = some false:=by
    have cy:(List.range n).filter (fun x=>q[p+x]? == some false)≠[]:=fun e=>by rw [e] at A; simp at A
    obtain ⟨x,hx⟩:=vg _ cy;rw [gj,dc] at hx;exact ⟨x,hx.1,by simpa using hx.2⟩
   obtain ⟨xu,em,dd⟩:=d4;refine ⟨fun hr=>?_,fun i hi=>?_⟩
   ·have:=qc hb c4 hr (p+xu) (by omega);rw [dd] at this; cases this
   ·obtain ⟨oi,k1,k2,k3⟩:=ot c4 hi;have dl:i < ops.size:=ah (l:=ops.toList) (by simpa using k1)
    have et:p≤i:=by
     rcases bh i p with h2 | h2
     ·rw [bm i h2] at k2; cases k2
     ·exact h2
    have ez:i < p+n:=by
     rcases bh i (p+n) with h2 | h2
     ·exact h2
     ·exfalso;have a0:=ui e3 (j:=i) (i:=p+xu) (by rw [ci]; exact dl) h2 (by omega);have hl:=ij ao (O _ _ a0) fun o e ho he aa=>by rw [k1] at ho; cases ho; exact k3 e he aa
      rw [dd] at hl; cases hl
    obtain ⟨x,rfl⟩:∃ x,i=p+x:=⟨i - p,by omega⟩;have b5:x < n:=by omega
    obtain ⟨o,J,h2,h3,h4⟩:=cp x b5;rw [h2] at k1; cases k1;obtain ⟨t2,t3,t4⟩:=text x J b5 h3
    have bx:∀ j,(((befs ops.toList []).getD (p+x) 0).testBit j=true)→q[j]? = some true:=fun j a0 =>
     ij ao (O _ _ a0) fun o2 e ho he aa=>by rw [h2] at ho; cases ho; exact k3 e he aa
    have e6:Agree (S x) sD J.reads:=by
     refine Agree.of ?_ ?_
     ·intro t ht;by_cases V:∃ y C,y < n∧aZ[p+y]? = some C∧C.dst=some t
      ·obtain ⟨y,C,al,K,ac⟩:=V;have U:∀ z N,z < n→z≠y→aZ[p+z]? = some N→N.dst≠some t:=fun z N hz cy B=>dst_ne z y N C t hz al cy B K ac
       by_cases e7:y=x
       ·-- its own slot
        subst e7;rw [text_miss y t (by omega) fun z N hz B=>U z N (by omega) (by omega) B]
        rw [G t fun z N hz B hl=>by
         by_cases e:z=y
         ·subst e; rw [k2] at hl; cases hl
         ·exact U z N hz e B]
       ·have:=d8 x y J C b5 al h3 K;unfold apart at this;rw [ac] at this;simp only [bc,c9,beq_iff_eq,ep,sy,decide_eq_false_iff_not,decide_eq_true_eq] at this;rcases this.2 with ((h5 | h5) | h5) | h5
        ·omega
        ·exact absurd ht h5
        ·obtain ⟨h5,h6⟩:=h5;rw [text_hit x y C t (by omega) (by omega) K ac,ax y C t al K (bx _ h6) ac]
        ·obtain ⟨h5,h6⟩:=h5
         have e8:q[p+y]?≠some true:=by
          intro hl;have:=ij ao (O _ _ h6) fun o2 e ho he aa=>ao _ _ _ hl ho he aa
          rw [k2] at this; cases this
         rw [text_miss x t (by omega) fun z N hz B=>U z N (by omega) (by omega) B]
         rw [G t fun z N hz B hl=>by
          by_cases e:z=y
          ·subst e; exact absurd hl e8
          ·exact U z N hz e B]
      ·have W:∀ z N,z < n→aZ[p+z]? = some N→N.dst≠some t:=fun z N hz B hd=>V ⟨z,N,hz,B,hd⟩
       rw [text_miss x t (by omega) fun z N hz B=>W z N (by omega) B,G t fun z N hz B _=>W z N hz B]
     ·intro t cs
      have v1:sget (S x) t=some (.var cs) ↔ sget s t=some (.var cs):=by
       by_cases V:∃ y C,y < x∧aZ[p+y]? = some C∧C.dst=some t
       ·obtain ⟨y,C,al,K,ac⟩:=V;rw [text_hit x y C t (by omega) al K ac];constructor
        ·intro e; exact absurd (ce e) ((text y C (by omega) K).2.1 cs)
        ·intro e; exact absurd e (dst_novar y C t cs (by omega) K ac)
       ·rw [text_miss x t (by omega) fun z N hz B hd=>V ⟨z,N,hz,B,hd⟩]
      have v2:sget sD t=some (.var cs) ↔ sget s t=some (.var cs):=by
       by_cases V:∃ y C,y < n∧aZ[p+y]? = some C∧q[p+y]? = some true∧C.dst=some t
       ·obtain ⟨y,C,al,K,e9,ac⟩:=V;rw [ax y C t al K e9 ac];constructor
        ·intro e; exact absurd (ce e) ((text y C al K).2.1 cs)
        ·intro e; exact absurd e (dst_novar y C t cs al K ac)
       ·rw [G t fun z N hz B hl hd=>V ⟨z,N,hz,B,hl,hd⟩]
      exact v1.trans v2.symm
    have ea:Ld q p n x=false:=by unfold Ld; rw [k2]; simp
    refine xg h2 (d3 (Ld q p n) sD a w x _ J b5 h2 h3 h4 ea (fun y V a0=>?_) (fun y V hl=>?_) e6 bb _ fun a' w' d2=>?_)
    ·unfold Ld; rw [bx _ a0]; simp [V]
    ·have eb:q[p+y]? = some true:=by unfold Ld at hl; simpa [V] using hl
     cases a0:((befs ops.toList []).getD (p+y) 0).testBit (p+x) with
     | false=>rfl
     | true =>
      exfalso;have:=ij ao (O _ _ a0) fun o2 e ho he aa=>ao _ _ _ eb ho he aa
      rw [k2] at this; cases this
    have I:∀ j,j≠p+x→(q.setIfInBounds (p+x) true)[j]? = q[j]?:=fun j hj=>dm (fun e=>hj e.symm)
    have a6:(q.setIfInBounds (p+x) true)[p+x]? = some true:=by simp [c4,dl]
    have e0:(fun y=>y == x || Ld q p n y)=Ld (q.setIfInBounds (p+x) true) p n:=by
     funext y
     unfold Ld;by_cases ey:y=x
     ·subst ey; rw [a6]; simp [b5]
     ·rw [I (p+y) (by omega)]; simp [ey]
    rw [e0] at d2;refine ih (q.setIfInBounds (p+x) true) (a9 J.dst (r x) sD) a' w' (by simp [c4]) ?_ ?_ ?_ ?_ ?_ ?_ d2
    ·intro j C e hj d5 he aa;by_cases ej:j=p+x
     ·subst ej;rw [h2] at d5; cases d5;have:=k3 e he aa;by_cases ee:e.on=p+x
      ·rw [ee]; exact a6
      ·rw [I _ ee]; exact this
     ·rw [I _ ej] at hj;have:=ao j C e hj d5 he aa;by_cases ee:e.on=p+x
      ·rw [ee]; exact a6
      ·rw [I _ ee]; exact this
    ·intro j hj; rw [I j (by omega)]; exact bm j hj
    ·intro j hj ec; rw [I j (by omega)]; exact b7 j hj ec
    ·-- one less is to come
     have d6:((List.range n).filter fun y=>(q.setIfInBounds (p+x) true)[p+y]? == some false)=((List.range n).filter fun y=>q[p+y]? == some false).filter fun y=>y != x:=by
      rw [List.filter_filter];apply List.filter_congr;intro y _;by_cases ey:y=x
      ·subst ey; rw [a6]; simp
      ·rw [I _ (by omega)]; simp [ey]
     rw [d6]
     have ay:x ∈ (List.range n).filter fun y=>q[p+y]? == some false:=by rw [gj]; exact ⟨dc.2 b5,by simp [k2]⟩
     have e1:((List.range n).filter fun y=>q[p+y]? == some false).Nodup:=List.nodup_range.sublist List.filter_sublist;generalize (List.range n).filter (fun y=>q[p+y]? == some false)=L at A ay e1;have d1:L.filter (fun y=>y != x)=L.erase x:=(e1.erase_eq_filter x).symm;rw [d1,List.length_erase_of_mem ay,A];rfl
    ·intro y oy d V c5 hl hd;rw [el];by_cases ey:y=x
     ·subst ey; rw [h3] at c5; cases c5;rw [if_pos hd]
     ·rw [I _ (by omega)] at hl;rw [if_neg (dst_ne x y J oy d b5 V (fun e=>ey e.symm) h3 c5 hd)];exact ax y oy d V c5 hl hd
    ·intro t W;rw [el,if_neg (W x J b5 h3 a6)];refine G t fun y oy V c5 hl=>?_
     by_cases ey:y=x
     ·subst ey; rw [k2] at hl; cases hl
     ·exact W y oy V c5 (by rw [I _ (by omega)]; exact hl)
 intro q a w ad bb
 have A:((List.range n).filter fun x=>q[p+x]? == some false).length=n:=by
  have:(List.range n).filter (fun x=>q[p+x]? == some false)=List.range n:=by rw [List.filter_eq_self];intro x hx;rw [dc] at hx;rw [ad.2 (p+x) (by omega)];simp
  rw [this,mb]
 have eh:Ld q p n=fun _=>false:=by
  funext x
  unfold Ld;by_cases hx:x < n
  ·rw [ad.2 (p+x) (by omega)]; simp
  ·simp [hx]
 rw [← eh] at bb
 have:=d9 n q s a w ad.1 (ad.down hb) (fun i hi=>by rw [ad.2 i (by omega)]; simp [hi]) (fun i hi ei=>by rw [ad.2 i ei]; simp; omega) A
  (fun x o d hx ho hl _=>by have h5:=ad.2 (p+x) (by omega);rw [hl] at h5;have h6:=of_decide_eq_true (ce h5).symm;omega) (fun t _=>rfl) bb
 rwa [show ops.size - (p+n)+n=ops.size - p by omega] at this
end
end Go.Abs

namespace Go.Abs
section
variable {E:Env} {lo nt:Nat} {ν:Fr} {μ:MM} {s:Slots} {h:Heap} {a:Act} {w:World} {call:CallSem} {ro:Option Nat} {ops:Array Oper}
theorem cOp_call {loc:Bool} {o:Oper} {j:AOp} (d:cOp E loc o.op=some j) (e:(∃ f aZ,j = .call f aZ)∨(∃ g aZ,j = .callg g aZ)):∃ c,o.op = .call c∧cCall E c=some j:=by
  cases ho:o.op with
  | call c=>exact ⟨c,rfl,by rw [ho] at d; simpa only [cOp] using d⟩
  | makeFunc fn x1 p =>
    rw [ho] at d;exfalso;cases fn <;> simp only [cOp] at d <;> (try (cases d; done))
    rcases e with ⟨f,aZ,rfl⟩ | ⟨g,aZ,rfl⟩ <;> (split at d <;> cases d)
  | makeMap t hint =>
    rw [ho] at d;exfalso
    rcases e with ⟨f,aZ,rfl⟩ | ⟨g,aZ,rfl⟩ <;>
      (cases hint with
       | none=>simp [cOp] at d
       | some y =>
         cases y with
         | const v=>cases v <;> simp only [cOp] at d <;> first | (cases d; done) | (split at d <;> cases d)
         | _=>simp [cOp] at d)
  | _ =>
    rw [ho] at d;exfalso
    rcases e with ⟨f,aZ,rfl⟩ | ⟨g,aZ,rfl⟩ <;>
      (simp only [cOp,cBin,cConv,cEq] at d
       repeat' split at d
       all_goals first
         | (cases d; done)
         | (rw [ae] at d; obtain ⟨_,_,d⟩:=d; first | (cases d; done) | (split at d <;> cases d)))
def SlotIs (E:Env) (μ:MM) (x:Slot) (v:Value):Prop:=(x = .undef∧v=Go.undef)∨∃ u,x = .val u∧VRel E μ u v
theorem call_step (hc:CallOK E call) (hg:GidOK E) {loc:Bool} {o:Oper} {o':AOper} {s':Slots} {h':Heap} (J:kr E nt ops loc o=some o') (K:o'.op.isCall=true) (G:dy call o' s h=some (s',h'))
    (k3:FRel E lo ν μ (sget s) a.tmps w) (k2:Rel E μ h w) {next:Act→World→Prop} {Q:Exit→Act→World→Prop}
    (hn:∀ x v w' μ',s'=a9 o'.dst x s→SlotIs E μ' x v→Step (fun _=>False) h'.wmin μ w μ' w'→Rel E μ' h' w'→next (a.put o.dst v) w') :
    if Region.wanted o (yielded ops a.tmps) then o.wpIn (F0 ro) 0 E.P a w next Q else next (a.put o.dst Go.undef) w:=by
  unfold kr at J;split at J;case isFalse=>cases J
  rename_i hh
  have run:o'.dst=o.dst→o'.op=cOpS E loc o.op→evRun call o' s h=some (s',h')→o.wpIn (F0 ro) 0 E.P a w next Q:=by
    intro e1 e0 G
    have c4:∃ ao,cOp E loc o.op=some ao∧o'.op=ao:=by
      cases b6:cOp E loc o.op with
      | some ao=>exact ⟨ao,rfl,by rw [e0,cOpS,b6]⟩
      | none=>rw [e0,cOpS,b6] at K; simp [AOp.isCall] at K
    obtain ⟨ao,an,e2⟩:=c4;rw [e2] at K
    have ad:(∃ f aZ,ao = .call f aZ)∨(∃ g aZ,ao = .callg g aZ):=by
      cases ao <;> simp only [AOp.isCall,cg] at K
      · exact .inl ⟨_,_,rfl⟩
      · exact .inr ⟨_,_,rfl⟩
    unfold evRun at G;rw [e2] at G;split at G;case h_2=>cases G
    rename_i x s1 h1 q;injection G with G;injection G with b7 bb;subst bb;have c5:∀ c,o.op ≠ .defer c:=fun c ci=>by rw [ci] at an; simp [cOp] at an
    refine ⟨fun _ _=>trivial,?_⟩;rw [Oper.semAt_eq _ _ _ c5]
    have al:∀ (v:AVal) (e:Ending) (w':World),Ends E μ w v h1 e w'→x = .val v→s1=s→(match e with | .returned v=>next (a.put o.dst v) w' | .panicked chain=>Q (.panic chain) a w' | .outgrown=>LetsOut Q):=by rintro v e w' ⟨v',μ',rfl,j1,j2,j3⟩ hx hs;subst hx; subst hs;exact hn _ _ _ μ' b7.symm (.inr ⟨v,rfl,j2⟩) j1 j3
    have I:∀ (g:Nat) (f:FuncId) (aZ:List AVal) (args':Array Value) (v:AVal),call g aZ h=some (v,h1)→E.gid f=some g→VRels E μ aZ args'.toList →
        (execOp a.eval o).run E.P w = .ok (.enter f args') w→x = .val v→s1=s→o.uponIn (F0 ro) 0 E.P a next Q ((execOp a.eval o).run E.P w):=by
      intro g f aZ args' v A a6 B U hx hs;rw [U,Oper.uponIn_enter];refine ⟨fun hh=>by simp [F0,Fence.wide] at hh,?_⟩
      exact CallsIn.mono (F:=F0 ro) (n:=0) (hc.fn g aZ h v h1 A f a6 μ w args' B k2) fun e w' he=>by have:=al v e w' he hx hs;cases e <;> exact this
    have N:∀ (g i:Nat) (aZ:List AVal) (args':Array Value) (v:AVal) (st:LoopSt) (p:Option AExit) (sl:List (Nat × AVal)),call g (.ptr (some (i,0)) :: aZ) h=some (v,h1)→h.get i=some (.loop g st p sl)→VRels E μ aZ args'.toList →
        (∀ (m:M),μ[i]? = some (some m)→(execOp a.eval o).run E.P w=(Instr.yield m.blk args').run E.P w)→x = .val v→s1=s→o.uponIn (F0 ro) 0 E.P a next Q ((execOp a.eval o).run E.P w):=by
      intro g i aZ args' v st p sl A ax B U hx hs;obtain ⟨m,r,q1,q2,q3,q4⟩:=hc.round g i 0 aZ h v h1 st p sl A ax μ w args' B k2;rw [U m q1,run_yield q2 q3,Oper.uponIn_round];refine ⟨fun hh=>by simp [F0,Fence.wide] at hh,?_⟩
      exact RoundIn.mono (F:=F0 ro) (n:=0) q4 fun e w' he=>by have:=al v e w' he hx hs;cases e <;> exact this
    obtain ⟨c,V,C⟩:=cOp_call an ad;have K:=ad;unfold cCall at C;split at C
    · rename_i f O
      split at C
      case h_2 =>
        exfalso;rw [ae] at C;obtain ⟨_,_,C⟩:=C;rcases K with ⟨f,aZ,rfl⟩ | ⟨g,aZ,rfl⟩ <;> cases C
      case h_3=>cases C
      rename_i g aZ a6 aa;cases C;simp only [c7] at q;split at q;case h_2=>cases q
      rename_i vs W;rw [ae] at q;obtain ⟨⟨v,h2⟩,A,q⟩:=q;cases q;have B:=jr k3 aa W;refine I g f vs (c.args.map a.eval) v A a6 (by simpa using B) ?_ rfl rfl;have:=jd hg a6 (c.args.map a.eval) w;simp [execOp,V,resolve,O,Act.eval,Deferred.ofValue,invoke,this]
    · rename_i y cv O
      split at C;case h_2=>cases C
      rename_i y' aZ hy aa;cases C;simp only [c7] at q;split at q
      · rename_i g first caps vs ay W
        rw [ae] at q;obtain ⟨⟨v,h2⟩,A,q⟩:=q;cases q;have B:=jr k3 aa W;have a0:=cd k3 hy ay;simp only [VRel] at a0;obtain ⟨cp,f',c',q1,q2,q3,q4⟩:=a0;refine I g cp (first++vs++caps) (f'++c.args.map a.eval++c') v A q2 ?_ ?_ rfl rfl
        · simpa using (q3.append B).append q4
        · have:=jd hg q2 (f'++(c.args.map a.eval++c')) w
          simp [execOp,V,resolve,O,q1,Deferred.ofValue,invoke,this]
      · rename_i i vs ay W
        split at q;case h_2=>cases q
        rename_i g st p sl ax;rw [ae] at q;obtain ⟨⟨v,h2⟩,A,q⟩:=q;cases q;have B:=jr k3 aa W;have a0:=cd k3 hy ay;simp only [VRel] at a0;obtain ⟨l,xx,q1,q2,q3⟩:=a0;refine N g i vs (c.args.map a.eval) v st p sl A ax (by simpa using B) (fun m hm=>?_) rfl rfl;rw [hm] at q2; cases q2;have:=q3 m rfl; subst this;simp [execOp,V,resolve,O,q1,Deferred.ofValue,invoke]
      · cases q
    · -- a built-in is no call
      exfalso
      rcases K with ⟨f,aZ,rfl⟩ | ⟨g,aZ,rfl⟩ <;>
        (repeat' split at C
         all_goals first
           | (cases C; done)
           | (rw [ae] at C; obtain ⟨_,_,C⟩:=C; cases C))
    · cases C
  unfold dy at G;split at J
  · rename_i ac
    cases J;simp only at G;have:Region.wanted o (yielded ops a.tmps)=true:=by simp [Region.wanted,ac]
    rw [if_pos this];exact run rfl rfl G
  · rename_i j bm ac
    split at J;case h_2=>cases J
    rename_i d bx;cases J;simp only at G;split at G
    · rename_i b hb
      obtain ⟨v',hv,hr⟩:=k3.val d _ hb;simp only [VRel] at hr; subst hr;have hy:yielded ops a.tmps j=some b:=by simp [yielded,bx,hv]
      have hw:Region.wanted o (yielded ops a.tmps)=(b == bm):=by simp [Region.wanted,ac,hy]
      split at G
      · rename_i b5
        rw [if_pos (by rw [hw]; simpa using b5)];exact run rfl rfl G
      · rename_i b5
        cases G;rw [if_neg (by rw [hw]; simpa using b5)];exact hn _ _ _ μ rfl (.inl ⟨rfl,rfl⟩) (Step.refl _ _ _ _) k2
    · rename_i hb
      cases G;have hv:=k3.undef d hb;have hy:yielded ops a.tmps j=none:=by simp [yielded,bx,hv,Go.undef]
      have hw:Region.wanted o (yielded ops a.tmps)=false:=by simp [Region.wanted,ac,hy]
      rw [if_neg (by simp [hw])];exact hn _ _ _ μ rfl (.inl ⟨rfl,rfl⟩) (Step.refl _ _ _ _) k2
    · cases G
end
end Go.Abs

namespace Go.Abs
section
variable {call:CallSem} {n0:Nat}
def dsl (D:Nat→Did) (x:Nat):List Did:=(List.range x).map D
theorem sg {D:Nat→Did} {x y:Nat} (h:y < x):(dsl D x)[y]? = some (D y):=by simp [dsl,h]
theorem zbj (D:Nat→Did) (x:Nat):(dsl D x).length=x:=by simp [dsl]
theorem open_text:∀ (j:List AOper) (ms:List Nat) (ds:List Did) (s s1:Slots) (h h1:Heap),ik call n0 ms j ds s h=some (s1,h1) →
  ∃ (S:Nat→Slots) (H:Nat→Heap) (r:Nat→Slot) (D:Nat→Did),S 0=s∧H 0=h∧S j.length=s1∧H j.length=h1 ∧
   ∀ (x:Nat) (o:AOper),j[x]? = some o→lj call n0 (ms.getD x 0) (ds++dsl D x) o (S x) (H x)=some (r x,H (x+1),D x)∧S (x+1)=a9 o.dst (r x) (S x) ∧
    (∀ d,o.dst=some d→isVar (S x) d=false)∧je (H (x+1)) (ms.getD x 0) (D x) 0 (ds++dsl D x)=true
 | [],ms,ds,s,s1,h,h1,e=>by simp only [ik] at e; cases e;exact ⟨fun _=>s,fun _=>h,fun _=>.undef,fun _=>⟨false,[],none,none,0,0,none⟩,rfl,rfl,rfl,rfl,fun x o hx=>by simp at hx⟩
 | o :: j,ms,ds,s,s1,h,h1,e=>by
  simp only [ik] at e;split at e;case h_2=>cases e
  rename_i y h2 d A;split at e;case isFalse=>cases e
  rename_i B;obtain ⟨a1,a2⟩:=B;obtain ⟨S,H,r,D,b1,b2,b3,b4,C⟩:=open_text j ms.tail (ds++[d]) _ s1 h2 h1 e;have p:ms.headD 0=ms.getD 0 0:=by cases ms <;> rfl
  refine ⟨fun x=>match x with | 0=>s | x+1=>S x,fun x=>match x with | 0=>h | x+1=>H x,fun x=>match x with | 0=>y | x+1=>r x,fun x=>match x with | 0=>d | x+1=>D x,
   rfl,rfl,by simpa using b3,by simpa using b4,fun x G hx=>?_⟩
  cases x with
  | zero =>
   simp at hx; subst hx;rw [← p];refine ⟨by simp only [b2,dsl]; simpa using A,by simp only [b1],fun d hd=>?_,by simpa [dsl,b2] using a2⟩;rw [hd] at a1;simpa using a1
  | succ x =>
   simp at hx;have q:=C x G hx
   have I:ds++[d]++dsl D x=ds++dsl (fun x=>match x with | 0=>d | x+1=>D x) (x+1):=by rw [ba];congr 1;simp only [dsl,List.range_succ_eq_map,bi,ut,List.singleton_append];rfl
   have J:ms.tail.getD x 0=ms.getD (x+1) 0:=by cases ms <;> simp
   rw [I,J] at q;exact q
structure OneCall (call:CallSem) (n0 m:Nat) (ds:List Did) (o:AOper) (s:Slots) (h:Heap) (y:Slot) (h':Heap) (d:Did):Prop where
 isc:o.op.isCall=true
 run:∃ s1 g,dy call o s ⟨hide m 0 ds h.objs,h.base,h.size⟩=some (s1,g)∧y=gn o.dst s1∧h'.size=g.size ∧
  ((allSeen m 0 ds=true∧g.wmin < h.size∧d.wr=some (g.wmin,h.objs,g.objs)∧h'=⟨g.objs,h.base,min h.wmin g.wmin⟩)∨(allSeen m 0 ds=true∧h.size≤g.wmin∧d.wr=none∧h'=⟨g.objs,h.base,h.wmin⟩) ∨
   (h.size≤g.wmin∧d.wr=none∧(∀ i ∈ y.ids++(g.objs.drop h.size).flatMap AObj.ids,okId n0 m ds i=true∨h.size≤i)∧h'=⟨h.objs++g.objs.drop h.size,h.base,h.wmin⟩))
 did:d.isCall=true∧d.rd=[]∧d.ch=none
 ld:d.ld=none
structure OneSoft (n0 m:Nat) (ds:List Did) (o:AOper) (s:Slots) (h:Heap) (y:Slot) (h':Heap) (d:Did):Prop where
 isc:o.op.isCall=false
 run:∃ s1 g,dy noCall o s ⟨h.objs,h.base,h.size⟩=some (s1,g)∧y=gn o.dst s1 ∧
  ((g.size=h.size∧g.wmin=h.size∧(∀ i ∈ y.ids,okId n0 m ds i=true)∧h'=h∧d.ch=none) ∨
   (∃ ob,g.size=h.size∧g.wmin < h.size∧g.objs[g.wmin]? = some ob∧(∀ i ∈ y.ids++ob.ids,okId n0 m ds i=true)∧d.ch=some g.wmin∧h'=⟨g.objs,h.base,min h.wmin g.wmin⟩) ∨
   (∃ ob,g.size=h.size+1∧g.objs[h.size]? = some ob∧(∀ i ∈ ob.ids,okId n0 m ds i=true)∧((g.wmin=h.size∧d.ch=none∧h'=⟨g.objs,h.base,h.wmin⟩)∨(g.wmin≠h.size∧d.ch=some g.wmin∧h'=⟨g.objs,h.base,min h.wmin g.wmin⟩))))
 did:d.isCall=false∧d.rd=ew o.op s∧d.wr=none
 ld:d.ld=ldOf o s y
theorem openOne_spec (hev0:CallEvol call) {m:Nat} {ds:List Did} {o:AOper} {s:Slots} {h:Heap} {y:Slot} {h':Heap} {d:Did} (e:lj call n0 m ds o s h=some (y,h',d)) :
  ((∀ t ∈ o.reads,∀ i ∈ slotIds s t,okId n0 m ds i=true)∧∀ i ∈ ew o.op s,okId n0 m ds i=true)∧d.lo=h.size∧d.hi=h'.size∧h'.base=h.base∧(OneCall call n0 m ds o s h y h' d∨OneSoft n0 m ds o s h y h' d):=by
 unfold lj at e;split at e
 ·cases e
 rename_i hr
 have C:(∀ t ∈ o.reads,∀ i ∈ slotIds s t,okId n0 m ds i=true)∧∀ i ∈ ew o.op s,okId n0 m ds i=true:=by simp only [Bool.not_eq_false,ap,dx,bz] at hr;exact ⟨fun t J i hi=>hr i (.inl ⟨t,J,hi⟩),fun i hi=>hr i (.inr hi)⟩
 refine ⟨C,?_⟩;split at e
 ·rename_i hc;split at e
  ·cases e
  rename_i s1 g A;simp only at e;split at e
  ·rename_i hw;split at e
   ·rename_i q;cases e;exact ⟨rfl,rfl,rfl,.inl ⟨hc,⟨s1,g,A,rfl,rfl,.inl ⟨q,hw,rfl,rfl⟩⟩,⟨rfl,rfl,rfl⟩,rfl⟩⟩
   ·cases e
  ·rename_i hw;split at e
   ·rename_i q;cases e;exact ⟨rfl,rfl,rfl,.inl ⟨hc,⟨s1,g,A,rfl,rfl,.inr (.inl ⟨q,by omega,rfl,rfl⟩)⟩,⟨rfl,rfl,rfl⟩,rfl⟩⟩
   ·split at e
    ·rename_i j;cases e;rw [ap] at j
     have G:h.size≤g.size:=by have:=(me hev0 A).size;simp only [Heap.size,ky] at this;exact this
     have p:({ objs:=h.objs++List.drop h.size g.objs,base:=h.base,wmin:=h.wmin }:Heap).size=g.size:=by simp only [Heap.size,au,gh] at G ⊢; omega
     refine ⟨rfl,p.symm,rfl,.inl ⟨hc,⟨s1,g,A,rfl,p,.inr (.inr ⟨by omega,rfl,fun i hi=>?_,rfl⟩)⟩,⟨rfl,rfl,rfl⟩,rfl⟩⟩;have:=j i hi;simpa using this
    ·cases e
 ·rename_i hc;have hc:o.op.isCall=false:=by simpa using hc
  split at e
  ·cases e
  rename_i s1 g A;simp only at e;split at e
  ·rename_i p;split at e
   ·rename_i I;split at e
    ·rename_i ob B;split at e
     ·rename_i j;cases e;exact ⟨rfl,p.symm,rfl,.inr ⟨hc,⟨s1,g,A,rfl,.inr (.inl ⟨ob,p,I,B,ap.1 j,rfl,rfl⟩)⟩,⟨rfl,rfl,rfl⟩,rfl⟩⟩
     ·cases e
    ·cases e
   ·split at e
    ·rename_i hw;cases e;exact ⟨rfl,rfl,rfl,.inr ⟨hc,⟨s1,g,A,rfl,.inl ⟨p,hw.1,ap.1 hw.2,rfl,rfl⟩⟩,⟨rfl,rfl,rfl⟩,rfl⟩⟩
    ·cases e
  ·split at e
   ·rename_i p;split at e
    ·rename_i ob B;split at e
     ·rename_i j;rw [ap] at j;split at e
      ·rename_i hw;cases e;exact ⟨rfl,p.symm,rfl,.inr ⟨hc,⟨s1,g,A,rfl,.inr (.inr ⟨ob,p,B,j,.inl ⟨hw,rfl,rfl⟩⟩)⟩,⟨rfl,rfl,rfl⟩,rfl⟩⟩
      ·rename_i hw;cases e;exact ⟨rfl,p.symm,rfl,.inr ⟨hc,⟨s1,g,A,rfl,.inr (.inr ⟨ob,p,B,j,.inr ⟨hw,rfl,rfl⟩⟩)⟩,⟨rfl,rfl,rfl⟩,rfl⟩⟩
     ·cases e
    ·cases e
   ·cases e
def touched (D:Nat→Did) (sz:Nat→Nat) (x i:Nat):Prop:=i < sz (x+1)∧(sz x≤i∨(D x).writes i=true)
open Classical in
noncomputable def upd (D:Nat→Did) (sz:Nat→Nat) (H:Nat→Heap) (x i:Nat):Option AObj:=if touched D sz x i then (H (x+1)).objs[i]? else none
noncomputable def mem (D:Nat→Did) (sz:Nat→Nat) (H:Nat→Heap) (L:Nat→Bool):Nat→Nat→AObj
 | 0,i=>((H 0).objs[i]?).getD .dead
 | k+1,i=>if L k then (upd D sz H k i).getD (mem D sz H L k i) else mem D sz H L k i
section
variable {D:Nat→Did} {sz:Nat→Nat} {H:Nat→Heap} {L L':Nat→Bool} {i:Nat}
theorem q9:∀ (k:Nat),(∀ y,y < k→upd D sz H y i≠none→L y=L' y)→mem D sz H L k i=mem D sz H L' k i
 | 0,_=>rfl
 | k+1,h=>by
  have d:=q9 k fun y j=>h y (by omega)
  simp only [mem];cases e:upd D sz H k i with
  | none=>simp only [Option.getD_none,d,ite_self]
  | some o =>
   have:=h k (by omega) (by rw [e]; simp);rw [this,d]
theorem zbk {n:Nat} (e:∀ x,sz x=(H x).size) (d:∀ x,x < n→sz x≤sz (x+1)) (j:∀ x i,x < n→i < sz x→(D x).writes i=false→(H (x+1)).objs[i]? = (H x).objs[i]?) :
  ∀ (x:Nat),x≤n→mem D sz H (fun _=>true) x i=((H x).objs[i]?).getD .dead
 | 0,_=>rfl
 | x+1,hx=>by
  simp only [mem,if_true,zbk e d j x (by omega)];unfold upd;by_cases p:touched D sz x i
  ·rw [if_pos p];cases q:(H (x+1)).objs[i]? with
   | some o=>rfl
   | none =>
    exfalso;have:=p.1;rw [e] at this;rw [List.getElem?_eq_none_iff] at q;unfold Heap.size at this;omega
  ·rw [if_neg p];simp only [Option.getD_none];by_cases h1:i < sz (x+1)
   ·have h2:i < sz x:=by
     rcases bh i (sz x) with h | h
     ·exact h
     ·exact absurd ⟨h1,.inl h⟩ p
    have y:(D x).writes i=false:=by
     cases hw:(D x).writes i with
     | false=>rfl
     | true=>exact absurd ⟨h1,.inr hw⟩ p
    rw [j x i (by omega) h2 y]
   ·have A:(H (x+1)).objs[i]? = none:=by rw [List.getElem?_eq_none_iff]; have:=e (x+1); unfold Heap.size at this; omega
    have B:(H x).objs[i]? = none:=by rw [List.getElem?_eq_none_iff]; have C:=e x; have:=d x (by omega); unfold Heap.size at C; omega
    rw [A,B]
theorem zbl (x:Nat):∀ (k:Nat),mem D sz H (fun y=>decide (y < x)) (x+k) i=mem D sz H (fun _=>true) x i
 | 0=>q9 x fun y d _=>decide_eq_true d
 | k+1=>by rw [← lz];simp only [mem];rw [if_neg (by simp),zbl x k]
theorem zbm {x n:Nat} {o:AObj} (hx:x < n) (j:upd D sz H x i=some o) (d:∀ y,y < n→x < y→L y=true→upd D sz H y i=none):mem D sz H (fun y=>y == x || L y) n i=o:=by
 obtain ⟨k,rfl⟩:∃ k,n=x+1+k:=⟨n - (x+1),by omega⟩;clear hx;induction k with
 | zero=>simp [mem,j]
 | succ k e =>
  have e:=e fun y A=>d y (by omega)
  rw [← lz];simp only [mem];rw [e];have p:(x+1+k == x)=false:=by simp; omega
  simp only [p,Bool.false_or];split
  ·rename_i q;rw [d (x+1+k) (by omega) (by omega) q]; rfl
  ·rfl
theorem jg {x n:Nat} (d:upd D sz H x i=none):mem D sz H (fun y=>y == x || L y) n i=mem D sz H L n i :=
 q9 n fun y _ j=>by
  by_cases e:y=x
  ·subst e; exact absurd d j
  ·simp [e]
theorem tm:∀ (n:Nat),mem D sz H L n i=((H 0).objs[i]?).getD .dead∧(∀ y,y < n→L y=true→upd D sz H y i=none)∨∃ y o,y < n∧L y=true∧upd D sz H y i=some o∧mem D sz H L n i=o
 | 0=>.inl ⟨rfl,fun y A=>by omega⟩
 | n+1=>by
  simp only [mem];by_cases d:L n=true
  ·rw [if_pos d];cases B:upd D sz H n i with
   | some o=>exact .inr ⟨n,o,by omega,d,B,rfl⟩
   | none =>
    simp only [Option.getD_none];rcases tm n with ⟨h1,h2⟩ | ⟨y,o,h1,h2,p,q⟩
    ·refine .inl ⟨h1,fun y A j=>?_⟩;by_cases e:y=n
     ·subst e; exact B
     ·exact h2 y (by omega) j
    ·exact .inr ⟨y,o,by omega,h2,p,q⟩
  ·rw [if_neg d];rcases tm n with ⟨h1,h2⟩ | ⟨y,o,h1,h2,p,q⟩
   ·refine .inl ⟨h1,fun y A j=>?_⟩;by_cases e:y=n
    ·subst e; exact absurd j d
    ·exact h2 y (by omega) j
   ·exact .inr ⟨y,o,by omega,h2,p,q⟩
end
end
end Go.Abs

namespace Go.Abs
section
theorem zbi {m:Nat} {i:Nat}:∀ (ds:List Did) (k:Nat),seenBy m k ds i=true ↔ ∃ y d,ds[y]? = some d∧m.testBit (k+y)=true∧d.lo≤i∧i < d.hi
 | [],k=>by simp [seenBy]
 | d :: ds,k=>by
  simp only [seenBy,c9,bc,decide_eq_true_eq,zbi ds (k+1)];constructor
  ·rintro (⟨⟨h1,h2⟩,e⟩ | ⟨y,j,h1,h2,e⟩)
   ·exact ⟨0,d,rfl,h1,h2,e⟩
   ·exact ⟨y+1,j,by simpa using h1,by rw [show k+(y+1)=k+1+y by omega]; exact h2,e⟩
  ·rintro ⟨y,j,h1,h2,e⟩;cases y with
   | zero=>simp at h1; subst h1; exact .inl ⟨⟨h2,e.1⟩,e.2⟩
   | succ y=>exact .inr ⟨y,j,by simpa using h1,by rw [show k+1+y=k+(y+1) by omega]; exact h2,e⟩
theorem tl {m:Nat}:∀ (ds:List Did) (k:Nat),allSeen m k ds=true→∀ y d,ds[y]? = some d→m.testBit (k+y)=true∨d.hi≤d.lo
 | [],k,_,y,d,h=>by simp at h
 | d :: ds,k,h,y,j,e=>by
  simp only [allSeen,bc,c9,decide_eq_true_eq] at h;cases y with
  | zero=>simp at e; subst e; exact h.1
  | succ y =>
   rw [show k+(y+1)=k+1+y by omega];exact tl ds (k+1) h.2 y j (by simpa using e)
theorem zc {h':Heap} {m:Nat} {x:Did}:∀ (ds:List Did) (k:Nat),je h' m x k ds=true→∀ y d,ds[y]? = some d→m.testBit (k+y)=true∨clash x d=false∨benign h' x d=true
 | [],k,_,y,d,h=>by simp at h
 | d :: ds,k,h,y,j,e=>by
  simp only [je,bc,c9,ep] at h;cases y with
  | zero=>simp at e; subst e; exact h.1
  | succ y =>
   rw [show k+(y+1)=k+1+y by omega];exact zc ds (k+1) h.2 y j (by simpa using e)
def Hid (m k:Nat) (ds:List Did) (i:Nat):Prop:=∃ y d,ds[y]? = some d∧m.testBit (k+y)=false∧d.lo≤i∧i < d.hi
theorem hide_get {m:Nat} {i:Nat}:∀ (ds:List Did) (k:Nat) (os:List AObj),(Hid m k ds i→(hide m k ds os)[i]? = (os[i]?).map fun _=>.dead)∧(¬ Hid m k ds i→(hide m k ds os)[i]? = os[i]?)
 | [],k,os=>⟨fun ⟨y,d,h,_⟩=>by simp at h,fun _=>rfl⟩
 | d :: ds,k,os=>by
  simp only [hide];have j:=hide_get (m:=m) (i:=i) ds (k+1) (if (m.testBit k || decide (d.hi≤d.lo))=true then os else killRange d.lo d.hi os)
  have e:Hid m k (d :: ds) i ↔ (m.testBit k=false∧d.lo≤i∧i < d.hi)∨Hid m (k+1) ds i:=by
   constructor
   ·rintro ⟨y,A,h1,h2,p⟩;cases y with
    | zero=>simp at h1; subst h1; exact .inl ⟨h2,p⟩
    | succ y=>exact .inr ⟨y,A,by simpa using h1,by rw [show k+1+y=k+(y+1) by omega]; exact h2,p⟩
   ·rintro (⟨h1,h2⟩ | ⟨y,A,h1,h2,p⟩)
    ·exact ⟨0,d,rfl,h1,h2⟩
    ·exact ⟨y+1,A,by simpa using h1,by rw [show k+(y+1)=k+1+y by omega]; exact h2,p⟩
  by_cases h1:m.testBit k=false∧d.lo≤i∧i < d.hi
  ·have hc:¬ ((m.testBit k || decide (d.hi≤d.lo))=true):=by simp [h1.1]; omega
   rw [if_neg hc] at j ⊢
   have q:(killRange d.lo d.hi os)[i]? = (os[i]?).map fun _=>.dead:=by
    simp only [killRange,List.getElem?_mapIdx];cases os[i]? with
    | none=>rfl
    | some o=>simp [h1.2.1,h1.2.2]
   refine ⟨fun _=>?_,fun h=>absurd (e.2 (.inl h1)) h⟩;by_cases h2:Hid m (k+1) ds i
   ·rw [j.1 h2,q]; cases os[i]? <;> rfl
   ·rw [j.2 h2,q]
  ·have q:(if (m.testBit k || decide (d.hi≤d.lo))=true then os else killRange d.lo d.hi os)[i]? = os[i]?:=by
    split
    ·rfl
    ·rename_i B;simp only [c9,decide_eq_true_eq,not_or,Bool.not_eq_true] at B;simp only [killRange,List.getElem?_mapIdx];cases os[i]? with
     | none=>rfl
     | some o =>
      have:¬ (d.lo≤i∧i < d.hi):=fun h2=>h1 ⟨B.1,h2⟩
      simp [this]
   rw [q] at j;exact ⟨fun h=>j.1 ((e.1 h).resolve_left h1),fun h=>j.2 fun h2=>h (e.2 (.inr h2))⟩
structure Txt (call:CallSem) (n:Nat) (ops:Nat→Option AOper) (ms:Nat→Nat) (S:Nat→Slots) (H:Nat→Heap) (r:Nat→Slot) (D:Nat→Did):Prop where
 one:∀ x o,x < n→ops x=some o→lj call (H 0).size (ms x) (dsl D x) o (S x) (H x)=some (r x,H (x+1),D x)∧S (x+1)=a9 o.dst (r x) (S x)∧(∀ d,o.dst=some d→isVar (S x) d=false)∧je (H (x+1)) (ms x) (D x) 0 (dsl D x)=true
 all:∀ x,x < n→∃ o,ops x=some o
 soft:∀ x o,x < n→ops x=some o→soft o.op=true
 back:∀ x y,x < n→(ms x).testBit y=true→y < x
 trans:∀ x y z,x < n→(ms x).testBit y=true→(ms y).testBit z=true→(ms x).testBit z=true
variable {call:CallSem} {n:Nat} {ops:Nat→Option AOper} {ms:Nat→Nat} {S:Nat→Slots} {H:Nat→Heap} {r:Nat→Slot} {D:Nat→Did}
def Vis (ms:Nat→Nat) (H:Nat→Heap) (x i:Nat):Prop:=i < (H 0).size∨∃ y,y < x∧(ms x).testBit y=true∧(H y).size≤i∧i < (H (y+1)).size
namespace Txt
variable (T:Txt call n ops ms S H r D) (hev0:CallEvol call)
include T hev0
theorem spec {x:Nat} {o:AOper} (hx:x < n) (ho:ops x=some o):((∀ t ∈ o.reads,∀ i ∈ slotIds (S x) t,okId (H 0).size (ms x) (dsl D x) i=true)∧∀ i ∈ ew o.op (S x),okId (H 0).size (ms x) (dsl D x) i=true)∧(D x).lo=(H x).size∧(D x).hi=(H (x+1)).size∧(H (x+1)).base=(H x).base ∧
  (OneCall call (H 0).size (ms x) (dsl D x) o (S x) (H x) (r x) (H (x+1)) (D x)∨OneSoft (H 0).size (ms x) (dsl D x) o (S x) (H x) (r x) (H (x+1)) (D x)) :=
 openOne_spec hev0 (T.one x o hx ho).1
theorem evol {x:Nat} (hx:x < n):Evol (H x) (H (x+1)):=by obtain ⟨o,ho⟩:=T.all x hx;exact xe hev0 (T.one x o hx ho).1
theorem lo {x:Nat} (hx:x < n):(D x).lo=(H x).size:=by obtain ⟨o,ho⟩:=T.all x hx;exact (T.spec hev0 hx ho).2.1
theorem hi {x:Nat} (hx:x < n):(D x).hi=(H (x+1)).size:=by obtain ⟨o,ho⟩:=T.all x hx;exact (T.spec hev0 hx ho).2.2.1
theorem mono:∀ {x y:Nat},x≤y→y≤n→(H x).size≤(H y).size:=by
 intro x y d;induction d with
 | refl=>intro _; exact aj _
 | step _ ih=>intro h; exact de (ih (by omega)) (T.evol hev0 (by omega)).size
theorem base:∀ {x:Nat},x≤n→(H x).base=(H 0).base
 | 0,_=>rfl
 | x+1,h=>(T.evol hev0 (by omega)).base.trans (base (by omega))
theorem wmin:∀ {x y:Nat},x≤y→y≤n→(H y).wmin≤(H x).wmin:=by
 intro x y d;induction d with
 | refl=>intro _; exact aj _
 | step _ ih=>intro h; exact de (T.evol hev0 (by omega)).wmin (ih (by omega))
theorem okId_iff {x i:Nat} (hx:x < n):okId (H 0).size (ms x) (dsl D x) i=true ↔ Vis ms H x i:=by
 unfold okId Vis;simp only [c9,decide_eq_true_eq,zbi,dq];constructor
 ·rintro (h | ⟨y,d,h1,h2,j,p⟩)
  ·exact .inl h
  ·have e:y < x:=by have:=ah h1; rwa [zbj] at this
   rw [sg e] at h1; cases h1;exact .inr ⟨y,e,h2,by rw [← T.lo hev0 (by omega)]; exact j,by rw [← T.hi hev0 (by omega)]; exact p⟩
 ·rintro (h | ⟨y,e,h2,j,p⟩)
  ·exact .inl h
  ·exact .inr ⟨y,D y,sg e,h2,by rw [T.lo hev0 (by omega)]; exact j,by rw [T.hi hev0 (by omega)]; exact p⟩
theorem apart {x y i:Nat} (hx:x < n) (d:y < n) (h1:(H x).size≤i) (h2:i < (H (x+1)).size) (e:(H y).size≤i) (j:i < (H (y+1)).size):x=y:=by
 rcases Nat.lt_trichotomy x y with h | h | h
 ·have:=T.mono hev0 (show x+1≤y from h) (by omega); omega
 ·exact h
 ·have:=T.mono hev0 (show y+1≤x from h) (by omega); omega
omit T hev0 in
theorem inRange {i:Nat} (h0:(H 0).size≤i):∀ {x:Nat},x≤n→i < (H x).size→∃ y,y < x∧(H y).size≤i∧i < (H (y+1)).size
 | 0,_,h=>by omega
 | x+1,hx,h=>by
  rcases bh i (H x).size with h1 | h1
  ·obtain ⟨y,d,h2⟩:=inRange h0 (by omega) h1;exact ⟨y,by omega,h2⟩
  ·exact ⟨x,by omega,h1,h⟩
omit hev0 in
theorem noclash {x y:Nat} (hx:x < n) (d:y < x) (h:(ms x).testBit y=false):clash (D x) (D y)=false∨benign (H (x+1)) (D x) (D y)=true:=by
 obtain ⟨o,ho⟩:=T.all x hx;rcases zc _ 0 (T.one x o hx ho).2.2.2 y (D y) (sg d) with h1 | h1
 ·rw [dq,h] at h1; cases h1
 ·exact h1
theorem writer {x y:Nat} (hx:x < n) (hw:(D x).wr≠none) (d:y < x) (e:(H y).size < (H (y+1)).size):(ms x).testBit y=true:=by
 obtain ⟨o,ho⟩:=T.all x hx;obtain ⟨_,_,_,_,hs | hs⟩:=T.spec hev0 hx ho
 ·obtain ⟨s1,g,_,_,_,h1 | h1 | h1⟩:=hs.run
  ·have:=tl _ 0 h1.1 y (D y) (sg d);rw [dq,T.lo hev0 (by omega),T.hi hev0 (by omega)] at this;rcases this with h2 | h2
   ·exact h2
   ·omega
  ·exact absurd h1.2.2.1 hw
  ·exact absurd h1.2.1 hw
 ·exact absurd hs.did.2.2 hw
end Txt
end
end Go.Abs

namespace Go.Abs
section
variable {E:Env}
open Classical in
noncomputable def maskM (vis:Nat→Prop) (k:Nat) (μ:MM):MM:=(List.range k).map fun i=>if vis i then (μ[i]?).getD none else none
theorem pi (vis:Nat→Prop) (k:Nat) (μ:MM):(maskM vis k μ).length=k:=by simp [maskM]
theorem ng {vis:Nat→Prop} {k i:Nat} {μ:MM} (hi:i < k) (d:k≤μ.length):(vis i→(maskM vis k μ)[i]? = μ[i]?)∧(¬ vis i→(maskM vis k μ)[i]? = some none):=by
 unfold maskM;rw [bp,List.getElem?_range hi];simp only [b8];constructor
 ·intro h;rw [if_pos h,ai (by omega)]; rfl
 ·intro h;rw [if_neg h]
theorem l9 {vis:Nat→Prop} {k i:Nat} {μ:MM} {m:M} (e:k≤μ.length) (h:(maskM vis k μ)[i]? = some (some m)):vis i∧i < k∧μ[i]? = some (some m):=by
 have hi:i < k:=by have:=ah h; rwa [pi] at this
 by_cases d:vis i
 ·exact ⟨d,hi,((ng hi e).1 d).symm.trans h⟩
 ·rw [(ng hi e).2 d] at h; cases h
variable {lo nt:Nat} {μ0 μ:MM} {w0 w:World} {ds:List Deferred} {s:Slots} {a:Act} {ν:Fr}
theorem Rel.mask {vis:Nat→Prop} {k:Nat} {objs os:List AObj} {base wm wm':Nat} (hr:Rel E μ ⟨objs,base,wm⟩ w) (C:k≤objs.length) (hb:base≤k) (e:os.length=k)
  (h1:∀ i,i < k→vis i→os[i]? = objs[i]?) (h2:∀ i,i < k→¬ vis i→os[i]? = some .dead) (p:∀ i o,i < k→vis i→objs[i]? = some o→∀ j ∈ o.ids,j < k∧vis j):Rel E (maskM vis k μ) ⟨os,base,wm'⟩ w:=by
 have d:k≤μ.length:=by rw [hr.len]; exact C
 constructor
 ·rw [pi]; exact e.symm
 ·simp only [e]; exact hb
 ·intro i o ho;simp only at ho;have hi:i < k:=by rw [← e]; exact ah ho
  by_cases q:vis i
  ·rw [h1 i hi q] at ho
   exact (hr.obj i o ho).same ((ng hi d).1 q) fun j G K=>by obtain ⟨I,J⟩:=p i o hi q ho j G;exact (ng I d).1 J
  ·rw [h2 i hi q] at ho; cases ho;exact (ng hi d).2 q
 ·intro i j mi mj y hi A B;exact hr.sep i j mi mj y hi (l9 d A).2.2 (l9 d B).2.2
 ·intro i m hm; exact hr.lt i m (l9 d hm).2.2
 ·exact hr.tab.less fun i m hi hm=>⟨i,m,hi,(l9 d hm).2.2,rfl⟩
theorem FRel.mask {vis:Nat→Prop} {k:Nat} {g:SlotFn} {tmps:Array Value} (h:FRel E lo ν μ g tmps w) (p:k≤μ.length) (d:∀ t y,g t=some y→∀ i ∈ y.ids,i < k∧vis i):FRel E lo ν (maskM vis k μ) g tmps w where
 val:=fun t v j=>by obtain ⟨v',h1,h2⟩:=h.val t v j;exact ⟨v',h1,ji (fun i hi _=>by obtain ⟨A,B⟩:=d t _ j i hi; exact (ng A p).1 B) h2⟩
 undef:=h.undef
 var:=fun t cs j=>by obtain ⟨h1,h2,c,e,fr,G,I,J,K⟩:=h.var t cs j;refine ⟨h1,h2,c,e,fr,G,I,fun q v C=>?_,K⟩;obtain ⟨N,v',O,P⟩:=J q v C;exact ⟨N,v',O,ji (fun i hi _=>by obtain ⟨A,B⟩:=d t _ j i (n6 C hi); exact (ng A p).1 B) P⟩
 loc:=h.loc
 sepv:=h.sepv
 sepm:=fun t cs i m j hm=>h.sepm t cs i m j (l9 p hm).2.2
 ds:=h.ds
 sepd:=fun r hr=>⟨fun i m hm=>(h.sepd r hr).1 i m (l9 p hm).2.2,(h.sepd r hr).2⟩
 nodup:=h.nodup
open Classical in
noncomputable def joinM (vis:Nat→Prop) (lo1 hi1:Nat) (μ μ':MM):MM :=
 (List.range μ.length).map fun i=>if (i < lo1∧vis i)∨(lo1≤i∧i < hi1) then (μ'[i]?).getD none else (μ[i]?).getD none
theorem ww (vis:Nat→Prop) (lo1 hi1:Nat) (μ μ':MM):(joinM vis lo1 hi1 μ μ').length=μ.length:=by simp [joinM]
def Now (vis:Nat→Prop) (lo1 hi1 i:Nat):Prop:=(i < lo1∧vis i)∨(lo1≤i∧i < hi1)
theorem joinM_get {vis:Nat→Prop} {lo1 hi1 i:Nat} {μ μ':MM} (hi:i < μ.length) (d:μ'.length=hi1):(Now vis lo1 hi1 i→i < hi1→(joinM vis lo1 hi1 μ μ')[i]? = μ'[i]?)∧(¬ Now vis lo1 hi1 i→(joinM vis lo1 hi1 μ μ')[i]? = μ[i]?):=by
 unfold joinM Now;rw [bp,List.getElem?_range hi];simp only [b8];constructor
 ·intro h h2;rw [if_pos h,ai (by omega)]; rfl
 ·intro h;rw [if_neg h,ai hi]; rfl
theorem At.join {objs objs':List AObj} {base wF lo1 hi1:Nat} {vis:Nat→Prop} {g:Heap} {μ':MM} {w':World} {d:Option Nat} {x:Slot} {v:Value}
  (N:Step (fun k=>lo≤k) wF μ0 w0 μ w) (W:Rel E μ ⟨objs,base,wF⟩ w) (K:FRel E lo ν μ (sget s) a.tmps w) (k4:a.tmps.size=nt) (k5:a.defers=ν.ds.map markOf++ds) (k6:lo≤w.heap.size)
  (e4:lo1≤hi1) (e5:hi1≤objs.length) (hb:base≤lo1)
  (j1:Step (fun _=>False) g.wmin (maskM vis lo1 μ) w μ' w') (j2:Rel E μ' g w') (hg:g.size=hi1) (bb:g.base=base)
  (ci:∀ i,i < lo1→¬ vis i→base≤i) (d9:μ0.length≤lo1∧∀ i,i < μ0.length→vis i) (hw:wF≤g.wmin∨lo1≤g.wmin)
  (_hdead:∀ i,lo1≤i→i < hi1→objs[i]? = some .dead) (a0:objs'.length=objs.length)
  (cp:∀ i,Now vis lo1 hi1 i→objs'[i]? = g.objs[i]?) (cv:∀ i,i < objs.length→¬ Now vis lo1 hi1 i→objs'[i]? = objs[i]?)
  (cx:∀ i o,Now vis lo1 hi1 i→g.objs[i]? = some o→∀ j ∈ o.ids,Now vis lo1 hi1 j) (cy:∀ (i:Nat) o,objs[i]? = some o→∀ j ∈ o.ids,¬ (lo1≤j∧j < hi1))
  (b5:∀ t y,sget s t=some y→∀ j ∈ y.ids,¬ (lo1≤j∧j < hi1)) (hx:SlotIs E μ' x v) (d1:∀ j ∈ x.ids,Now vis lo1 hi1 j) (hd:∀ t,d=some t→t < nt) :
  At E lo nt μ0 w0 ds (a9 d x s) ⟨objs',base,wF⟩ (a.put d v) w':=by
 have dd:μ.length=objs.length:=W.len;have bm:lo1≤μ.length:=by omega
 have d2:μ'.length=hi1:=by rw [j2.len]; exact hg
 have now_lt:∀ i,Now vis lo1 hi1 i→i < hi1:=fun i h=>by rcases h with h | h <;> omega
 have G:∀ i,i < lo1→vis i→μ'[i]? = μ[i]?∨(g.wmin≤i∧μ'[i]? = some none):=fun i hi J=>by
  rcases j1.old i (by rw [pi]; exact hi) with h | h
  ·exact .inl (h.trans ((ng hi bm).1 J))
  ·exact .inr h
 have a6:∀ i m,lo1≤i→μ'[i]? = some (some m)→w.heap.size≤m.blk∨∃ r m0,g.wmin≤r∧r < lo1∧vis r∧μ[r]? = some (some m0)∧m0.blk=m.blk:=fun i m hi hm=>by
  rcases j1.new i m (by rw [pi]; exact hi) hm with h | ⟨r,m0,h1,h2,I⟩
  ·exact .inl h
  ·obtain ⟨q1,q2,q3⟩:=l9 bm h2;exact .inr ⟨r,m0,h1,q2,q1,q3,I⟩
 have O:∀ b,b < w.heap.size→(∀ i m,g.wmin≤i→i < lo1→vis i→μ[i]? = some (some m)→m.blk≠b)→w'.heap[b]? = w.heap[b]?:=fun b hb hn =>
  j1.block b hb (fun h=>h) fun i m hi hm=>by obtain ⟨q1,q2,q3⟩:=l9 bm hm;exact hn i m hi q2 q1 q3
 let μ1:MM:=joinM vis lo1 lo1 μ μ'
 have aa:μ1.length=μ.length:=ww ..
 have U:∀ i,i < μ.length→(i < lo1∧vis i→μ1[i]? = μ'[i]?)∧(¬ (i < lo1∧vis i)→μ1[i]? = μ[i]?):=fun i hi=>by
  show _∧_
  unfold μ1 joinM;rw [bp,List.getElem?_range hi];simp only [b8];constructor
  ·intro h;rw [if_pos (.inl h),ai (show i < μ'.length by omega)]; rfl
  ·intro h;rw [if_neg (by rintro (h2 | h2); exact h h2; omega),ai hi]; rfl
 have P:Later μ μ1:=⟨by rw [aa]; exact aj _,fun i hi=>by
  by_cases h:i < lo1∧vis i
  ·rcases G i h.1 h.2 with h1 | ⟨_,h1⟩
   ·exact .inl (((U i hi).1 h).trans h1)
   ·exact .inr (((U i hi).1 h).trans h1)
  ·exact .inl ((U i hi).2 h)⟩
 let μ2:MM:=joinM vis lo1 hi1 μ μ'
 have ac:μ2.length=μ.length:=ww ..;have B:∀ i,Now vis lo1 hi1 i→μ2[i]? = μ'[i]?:=fun i h=>(joinM_get (by have:=now_lt i h; omega) d2).1 h (now_lt i h)
 have ad:∀ i,i < μ.length→¬ Now vis lo1 hi1 i→μ2[i]? = μ[i]?:=fun i hi h=>(joinM_get hi d2).2 h
 have bx:∀ i,i < μ.length→¬ (lo1≤i∧i < hi1)→μ2[i]? = μ1[i]?:=fun i hi h=>by
  by_cases h1:i < lo1∧vis i
  ·rw [B i (.inl h1),(U i hi).1 h1]
  ·rw [ad i hi (by rintro (h2 | h2); exact h1 h2; exact h h2),(U i hi).2 h1]
 have C:∀ i m,μ2[i]? = some (some m)→(Now vis lo1 hi1 i∧μ'[i]? = some (some m))∨(¬ Now vis lo1 hi1 i∧μ[i]? = some (some m)):=fun i m hm=>by
  have hi:i < μ.length:=by rw [← ac]; exact ah hm
  by_cases h:Now vis lo1 hi1 i
  ·exact .inl ⟨h,(B i h).symm.trans hm⟩
  ·exact .inr ⟨h,(ad i hi h).symm.trans hm⟩
 have b6:∀ i m,¬ Now vis lo1 hi1 i→μ[i]? = some (some m)→base≤i:=fun i m h hm=>by
  rcases bh i lo1 with h1 | h1
  ·exact ci i h1 fun J=>h (.inl ⟨h1,J⟩)
  ·omega
 have al:∀ i m,¬ Now vis lo1 hi1 i→μ[i]? = some (some m)→w'.heap[m.blk]? = w.heap[m.blk]?:=fun i m h hm =>
  O m.blk (W.lt i m hm) fun j m' _ hj J dl=>(W.sep i j m m' (fun e=>h (.inl ⟨by omega,by rw [e]; exact J⟩)) (b6 i m h hm) hm dl).symm
 have d3:=j1.size;refine ⟨μ2,ν,?_,?_,?_,by rw [nu]; exact k4,by rw [li]; exact k5,de k6 d3⟩
 ·-- since the frame began
  refine ⟨j1.os.trans N.os,j1.tape.trans N.tape,j1.output.trans N.output,de N.size d3,?_,?_,?_,?_⟩
  ·intro b hb hx hn;rw [← N.block b hb hx hn];refine O b (fg hb N.size) fun i m hi c4 J hm=>?_
   rcases bh i μ0.length with h1 | h1
   ·rcases N.old i h1 with h2 | ⟨_,h2⟩
    ·exact hn i m (show wF≤_ by rcases hw with hw | hw <;> omega) (h2.symm.trans hm)
    ·rw [h2] at hm; cases hm
   ·rcases N.new i m h1 hm with h2 | ⟨r,m0,h2,I,A⟩
    ·omega
    ·rw [← A]; exact hn r m0 h2 I
  ·rw [ac]; exact N.len
  ·intro i hi;have J:=d9.2 i hi;have c4:i < lo1:=by omega
   rw [B i (.inl ⟨c4,J⟩)];rcases G i c4 J with h1 | ⟨h1,h2⟩
   ·rw [h1]; exact N.old i hi
   ·exact .inr ⟨show wF≤_ by rcases hw with hw | hw <;> omega,h2⟩
  ·intro i m hi hm;rcases C i m hm with ⟨h1,h2⟩ | ⟨h1,h2⟩
   ·rcases bh i lo1 with I | I
    ·have J:vis i:=by rcases h1 with h1 | h1; exact h1.2; omega
     rcases G i I J with A | ⟨_,A⟩
     ·exact N.new i m hi (A.symm.trans h2)
     ·rw [h2] at A; cases A
    ·rcases a6 i m I h2 with A | ⟨r,m0,A,h5,h6,h7,h8⟩
     ·exact .inl (de N.size A)
     ·rcases bh r μ0.length with h9 | h9
      ·rcases N.old r h9 with q | ⟨_,q⟩
       ·exact .inr ⟨r,m0,show wF≤_ by rcases hw with hw | hw <;> omega,q.symm.trans h7,h8⟩
       ·rw [q] at h7; cases h7
      ·rcases N.new r m0 h9 h7 with q | ⟨r',m1,q1,q2,q3⟩
       ·exact .inl (by rw [← h8]; exact q)
       ·exact .inr ⟨r',m1,q1,q2,q3.trans h8⟩
   ·exact N.new i m hi h2
 ·-- memory
  constructor
  ·rw [ac,dd]; exact a0.symm
  ·simp only [a0]; have:=W.bs; exact this
  ·intro i o ho;simp only at ho ⊢;have hi:i < objs.length:=by rw [← a0]; exact ah ho
   by_cases h:Now vis lo1 hi1 i
   ·rw [cp i h] at ho;have:=j2.obj i o ho;rw [bb] at this;exact this.same (B i h) fun j hj _=>B j (cx i o h ho j hj)
   ·rw [cv i hi h] at ho
    have h1:ORel E μ1 base i w' o:=(W.obj i o ho).keep P fun m hm=>by have e0:i < μ.length:=ah hm;exact ⟨((U i e0).2 fun h2=>h (.inl h2)).trans hm,al i m h hm⟩
    exact h1.same (bx i (by omega) fun h2=>h (.inr h2)) fun j hj hl=>bx j (by rw [aa] at hl; exact hl) (cy i o ho j hj)
  ·intro i j mi mj ax hi e1 e2;simp only at hi
   have b7:∀ p q mp mq,p≠q→Now vis lo1 hi1 p→μ'[p]? = some (some mp)→¬ Now vis lo1 hi1 q→μ[q]? = some (some mq)→mp.blk≠mq.blk:=by
    intro p q mp mq e3 hp c5 V ay;have d4:=b6 q mq V ay;rcases bh p lo1 with I | I
    ·have J:vis p:=by rcases hp with h1 | h1; exact h1.2; omega
     rcases G p I J with A | ⟨_,A⟩
     ·exact (W.sep q p mq mp (fun e=>e3 e.symm) d4 ay (A.symm.trans c5)).symm
     ·rw [c5] at A; cases A
    ·rcases a6 p mp I c5 with A | ⟨r,m0,A,h5,h6,h7,h8⟩
     ·have:=W.lt q mq ay; omega
     ·rw [← h8];exact (W.sep q r mq m0 (fun e=>V (.inl ⟨by omega,by rw [e]; exact h6⟩)) d4 ay h7).symm
   rcases C i mi e1 with ⟨h1,h2⟩ | ⟨h1,h2⟩ <;> rcases C j mj e2 with ⟨I,A⟩ | ⟨I,A⟩
   ·exact j2.sep i j mi mj ax (by rw [bb]; exact hi) h2 A
   ·exact b7 i j mi mj ax h1 h2 I A
   ·exact (b7 j i mj mi (fun e=>ax e.symm) I A h1 h2).symm
   ·exact W.sep i j mi mj ax hi h2 A
  ·intro i m hm;rcases C i m hm with ⟨_,h2⟩ | ⟨_,h2⟩
   ·exact j2.lt i m h2
   ·have:=W.lt i m h2; omega
  ·refine ⟨j2.tab.1,fun p hp=>⟨(j2.tab.2 p hp).1,(j2.tab.2 p hp).2.1,fun i m hi hm=>?_⟩⟩;rcases C i m hm with ⟨_,h2⟩ | ⟨_,h2⟩
   ·exact (j2.tab.2 p hp).2.2 i m (by rw [bb]; exact hi) h2
   ·exact (W.tab.2 p hp).2.2 i m hi h2
 ·-- slots
  have d5:∀ t cs,sget s t=some (.var cs)→w'.heap[ν t]? = w.heap[ν t]?:=fun t cs J=>O (ν t) (K.lt J) fun i m _ _ _ hm=>K.sepm t cs i m J hm
  have an:∀ (i:Nat) (m:M),μ2[i]? = some (some m)→(∃ (r:Nat) (m0:M),μ[r]? = some (some m0)∧m0.blk=m.blk)∨w.heap.size≤m.blk:=fun i m hm=>by
   rcases C i m hm with ⟨h1,h2⟩ | ⟨h1,h2⟩
   ·rcases bh i lo1 with I | I
    ·have J:vis i:=by rcases h1 with h1 | h1; exact h1.2; omega
     rcases G i I J with A | ⟨_,A⟩
     ·exact .inl ⟨i,m,A.symm.trans h2,rfl⟩
     ·rw [h2] at A; cases A
    ·rcases a6 i m I h2 with A | ⟨r,m0,_,_,_,h7,h8⟩
     ·exact .inr A
     ·exact .inl ⟨r,m0,h7,h8⟩
   ·exact .inl ⟨i,m,h2,rfl⟩
  have d6:FRel E lo ν μ2 (sget s) a.tmps w':=by
   have ao:∀ {cs:AVal} {v:Value},(∀ j ∈ cs.ids,¬ (lo1≤j∧j < hi1))→VRel E μ cs v→VRel E μ2 cs v:=fun h1 h2=>ji (fun j hj hl=>bx j (by rw [aa] at hl; exact hl) (h1 j hj)) (h2.later P)
   refine ⟨fun t u hu=>?_,K.undef,fun t cs hu=>?_,K.loc,K.sepv,fun t cs i m hu hm=>?_,fun q V=>?_,fun q V=>⟨fun i m hm=>?_,(K.sepd q V).2⟩,K.nodup⟩
   ·obtain ⟨v',h1,h2⟩:=K.val t u hu;exact ⟨v',h1,ao (b5 t _ hu) h2⟩
   ·obtain ⟨h1,h2,c,e,fr,I,A,h5,h6⟩:=K.var t cs hu;refine ⟨h1,h2,c,e,fr,(d5 t cs hu).trans I,A,fun q v V=>?_,h6⟩;obtain ⟨z1,v',z2,z3⟩:=h5 q v V;exact ⟨z1,v',z2,ao (fun j hj=>b5 t _ hu j (n6 V hj)) z3⟩
   ·rcases an i m hm with ⟨r,m0,h1,h2⟩ | h1
    ·rw [← h2]; exact K.sepm t cs r m0 hu h1
    ·have:=K.lt hu; omega
   ·obtain ⟨h1,h2⟩:=K.ds q V;refine ⟨h1,?_⟩;rw [O q (K.lt_ds V) fun i m _ _ _ hm=>(K.sepd q V).1 i m hm]; exact h2
   ·rcases an i m hm with ⟨r,m0,h1,h2⟩ | h1
    ·rw [← h2]; exact (K.sepd q V).1 r m0 h1
    ·have:=K.lt_ds V; omega
  rw [ig];have d8:∀ t,d=some t→t < a.tmps.size:=fun t ht=>by rw [k4]; exact hd t ht
  rcases hx with ⟨rfl,rfl⟩ | ⟨u,rfl,hu⟩
  ·exact (d6.setUndef d8).congr fun t=>ir _ _ _ _
  ·exact (d6.setVal d8 (ji (fun j hj _=>B j (d1 j hj)) hu)).congr fun t=>ir _ _ _ _
end
end Go.Abs

namespace Go.Abs
section
variable {ops:Array Oper}
theorem chain_trans {i j k:Nat} (h1:Chain ops i j) (h2:Chain ops j k):Chain ops i k:=by
 induction h1 with
 | one ho d hb=>exact .step ho d hb h2
 | step ho d hb _ ih=>exact .step ho d hb (ih h2)
theorem zbf (hb:edgesBack ops=true) {j i:Nat} (h:Chain ops j i):i < j:=by
 have step:∀ {j:Nat} {o:Oper} {e:Edge},ops[j]? = some o→e ∈ o.after→Region.binds .any e=true→e.on < j:=by intro j o e ho p d;have q:j < ops.size:=ah (l:=ops.toList) (by simpa using ho);unfold edgesBack at hb;rw [ap] at hb;have:=hb j (dc.2 q);rw [ho] at this;simp only [Array.all_eq_true'] at this;have:=this e p;simpa [d] using this
 induction h with
 | one ho p d=>exact step ho p d
 | step ho p d _ ih=>have:=step ho p d; omega
theorem mask_edge (d:List Nat) (l:List Edge) (s i:Nat) (e:Edge) (j:e ∈ l) (hb:Region.binds .any e=true) (h:e.on=i∨(d.getD e.on 0).testBit i=true) :
  (l.foldl (fun s e=>if Region.binds .any e then s ||| 2 ^ e.on ||| d.getD e.on 0 else s) s).testBit i=true:=by
 have keep:∀ (l:List Edge) (s:Nat),s.testBit i=true→(l.foldl (fun s e=>if Region.binds .any e then s ||| 2 ^ e.on ||| d.getD e.on 0 else s) s).testBit i=true:=by
  intro l;induction l with
  | nil=>exact fun s h=>h
  | cons x l ih =>
   intro s h;simp only [jw];refine ih _ ?_;split
   ·rw [Nat.testBit_or,Nat.testBit_or,h]; rfl
   ·exact h
 induction l generalizing s with
 | nil=>cases j
 | cons x l ih =>
  simp only [jw];rcases cj.1 j with rfl | j
  ·refine keep l _ ?_;rw [if_pos hb,Nat.testBit_or,Nat.testBit_or,Nat.testBit_two_pow];rcases h with h | h
   ·simp [h]
   ·rw [h]; simp
  ·exact ih _ j
theorem chain_bit (hb:edgesBack ops=true):∀ (l:List Oper) (d:List Nat),ops.toList.drop d.length=l→(∀ k i,k < d.length→Chain ops k i→(d.getD k 0).testBit i=true) →
  ∀ k i,k < d.length+l.length→Chain ops k i→((befs l d).getD k 0).testBit i=true
 | [],d,_,h,k,i,A,hc=>h k i (by simpa using A) hc
 | o :: l,d,hd,h,k,i,A,hc=>by
  simp only [befs]
  have ho:ops[d.length]? = some o:=by have:=congrArg (fun l=>l[0]?) hd;simpa using this
  refine chain_bit hb l (d++[maskOf d o]) ?_ (fun k' C B q=>?_) k i (by simp at A ⊢; omega) hc
  ·have:=congrArg List.tail hd;simpa using this
  ·rcases bh k' d.length with h1 | h1
   ·rw [jb,ag h1,← jb];exact h k' C h1 q
   ·have h2:k'=d.length:=by simp at B; omega
    subst h2;rw [jb,aw (aj _)];simp only [qh,List.getElem?_cons_zero,ed];unfold maskOf;cases q with
    | one e y j=>rw [ho] at e; cases e; exact mask_edge d _ 0 _ _ (by simpa using y) j (.inl rfl)
    | step e y j p =>
     rw [ho] at e; cases e;refine mask_edge d _ 0 _ _ (by simpa using y) j (.inr (h _ _ ?_ p));exact zbf hb (.one ho y j)
end
section
theorem zbg {o:AOp} {x:Opd} (hx:x ∈ ef o):∀ t ∈ x.reads,t ∈ o.reads:=by
 intro t d
 have j:∀ {xs:List Opd},x ∈ xs→t ∈ readsL xs:=by
  intro xs;induction xs with
  | nil=>intro h; cases h
  | cons y ys ih =>
   intro h;simp only [readsL,bz];rcases cj.1 h with rfl | h
   ·exact .inl d
   ·exact .inr (ih h)
 cases o <;> simp only [ef,cj,List.not_mem_nil,or_false] at hx <;> (try (cases hx; done))
 case ext k xs=>cases k <;> (try simp only [List.not_mem_nil] at hx) <;> exact j hx
 case append e b y z =>
  simp only [AOp.reads,bz];rcases hx with rfl | rfl
  ·exact .inl d
  ·exact .inr d
 case slice k y a b c=>subst hx; simp only [AOp.reads,bz]; exact .inl (.inl (.inl d))
 all_goals (subst hx; simpa [AOp.reads] using d)
theorem zb {S S2:Slots} {o:AOp} (ha:Agree S S2 o.reads):ew o S2=ew o S:=by
 unfold ew
 have:∀ (l:List Opd),(∀ x ∈ l,x.ev S2=x.ev S)→(l.flatMap fun x=>match x.ev S2 with | some v=>v.ids | none=>[])=l.flatMap fun x=>match x.ev S with | some v=>v.ids | none=>[]:=by
  intro l;induction l with
  | nil=>intro _; rfl
  | cons y l ih =>
   intro h;rw [d0,d0,ih fun x hx=>h x (bd _ hx),h y (a8 ..)]
 exact this _ fun x hx=>eu (ha.sub fun t d=>zbg hx t d)
theorem rdIds_mem {o:AOp} {s:Slots} {x:Opd} {v:AVal} {i:Nat} (hx:x ∈ ef o) (d:x.ev s=some v) (hi:i ∈ v.ids):i ∈ ew o s:=by unfold ew;rw [dx];exact ⟨x,hx,by rw [d]; exact hi⟩
theorem nf (d:Option Nat) (x:Slot) (s e:Slots):a9 d (gn d (a9 d x s)) e=a9 d x e:=by
 cases d with
 | none=>rfl
 | some d=>simp [gn,a9,sget]
variable {call:CallSem} {n:Nat} {ops:Nat→Option AOper} {ms:Nat→Nat} {S:Nat→Slots} {H:Nat→Heap} {r:Nat→Slot} {D:Nat→Did}
inductive SForm (o:AOper) (Sx:Slots) (Hx Hx':Heap) (rx:Slot) (d:Did):Prop where
 | none (x:Slot):dy noCall o Sx ⟨Hx.objs,Hx.base,Hx.size⟩=some (a9 o.dst x Sx,⟨Hx.objs,Hx.base,Hx.size⟩)→rx=gn o.dst (a9 o.dst x Sx)→Hx'=Hx→d.ch=Option.none→SForm o Sx Hx Hx' rx d
 | push (ob:AObj) (f:Nat→Slot):NewF f→dy noCall o Sx ⟨Hx.objs,Hx.base,Hx.size⟩=some (a9 o.dst (f Hx.size) Sx,(⟨Hx.objs,Hx.base,Hx.size⟩:Heap).push ob)→rx=gn o.dst (a9 o.dst (f Hx.size) Sx) →
   Hx'.objs=Hx.objs++[ob]→d.ch=Option.none→SForm o Sx Hx Hx' rx d
 | kill (i:Nat) (ob:AObj) (f:Nat→Slot):NewF f→i < Hx.size→Hx.base≤i→i ∈ ew o.op Sx→dy noCall o Sx ⟨Hx.objs,Hx.base,Hx.size⟩=some (a9 o.dst (f Hx.size) Sx,((⟨Hx.objs,Hx.base,Hx.size⟩:Heap).put i .dead).push ob) →
   rx=gn o.dst (a9 o.dst (f Hx.size) Sx)→Hx'.objs=Hx.objs.set i .dead++[ob]→d.ch=some i→Hx'.wmin≤i→SForm o Sx Hx Hx' rx d
 | put (i:Nat) (ob:AObj) (v:AVal):i < Hx.size→Hx.base≤i→i ∈ ew o.op Sx→dy noCall o Sx ⟨Hx.objs,Hx.base,Hx.size⟩=some (a9 o.dst (.val v) Sx,(⟨Hx.objs,Hx.base,Hx.size⟩:Heap).put i ob) →
   rx=gn o.dst (a9 o.dst (.val v) Sx)→Hx'.objs=Hx.objs.set i ob→d.ch=some i→Hx'.wmin≤i→SForm o Sx Hx Hx' rx d
theorem qy {n0 m:Nat} {ds:List Did} {o:AOper} {s:Slots} {h h':Heap} {y:Slot} {d:Did} (hs:soft o.op=true) (h1:OneSoft n0 m ds o s h y h' d):SForm o s h h' y d∧(h'.size=h.size→∀ i ∈ y.ids,okId n0 m ds i=true) ∧
  (∀ ob,h'.size=h.size+1→h'.objs[h.size]? = some ob→∀ i ∈ ob.ids,okId n0 m ds i=true)∧∀ i ob,h'.size=h.size→d.ch=some i→h'.objs[i]? = some ob→∀ j ∈ ob.ids,okId n0 m ds j=true:=by
 obtain ⟨s1,g,he,hy,p⟩:=h1.run;have P:=pn hs h1.isc (h2:=⟨h.objs,h.base,h.size⟩) rfl (fun _ _ _ _ _ _=>rfl) he;rcases P with ⟨x,U,V,N⟩ | ⟨ob,f,hf,U,V,N⟩ | ⟨i,ob,f,hf,hb,hi,W,U,V,N⟩ | ⟨i,ob,v,hb,hi,W,U,V,N⟩
 ·subst U; subst V;rcases p with ⟨_,_,q,G,A⟩ | ⟨e,_,q,_⟩ | ⟨e,q,_⟩
  ·subst G;exact ⟨.none x N hy rfl A,fun _=>q,fun ob h2=>by omega,fun i ob _ h2=>by rw [A] at h2; cases h2⟩
  ·simp only at q; omega
  ·simp only [Heap.size] at q; omega
 ·subst U; subst V;rcases p with ⟨q,_⟩ | ⟨e,q,_⟩ | ⟨e,q,G,A,q4⟩
  ·simp [Heap.push,Heap.size] at q
  ·simp [Heap.push,Heap.size] at q
  ·have C:e=ob:=by simp only [Heap.push,Heap.size] at G;rw [aw (aj _)] at G;simpa using G.symm
   subst C;rcases q4 with ⟨O,I,q7⟩ | ⟨O,I,q7⟩
   ·subst q7;refine ⟨.push _ f hf N hy rfl I,fun h2=>by simp [Heap.push,Heap.size] at h2,fun J _ B=>?_,fun i ob _ h2=>by rw [I] at h2; cases h2⟩;simp only [Heap.push,Heap.size] at B;rw [aw (aj _)] at B;simp at B; subst B;exact A
   ·simp [Heap.push] at O
 ·subst U; subst V;have a6:(((⟨h.objs,h.base,h.size⟩:Heap).put i .dead).push ob).size=h.size+1:=by simp [Heap.push,Heap.put,Heap.size]
  rcases p with ⟨q,_⟩ | ⟨e,q,_⟩ | ⟨e,q,G,A,q4⟩
  ·omega
  ·omega
  ·have C:e=ob:=by simp only [Heap.push,Heap.put,Heap.size] at G;rw [aw (by simp)] at G;simpa using G.symm
   subst C
   have K:(((⟨h.objs,h.base,h.size⟩:Heap).put i .dead).push e).wmin=i:=by have a0:i < h.size:=hi;simp only [Heap.push,Heap.put]; omega
   rcases q4 with ⟨O,I,q7⟩ | ⟨O,I,q7⟩
   ·have a0:i < h.size:=hi;omega
   ·rw [K] at I;subst q7;refine ⟨.kill i _ f hf hi hb W N hy rfl I (by simp only [K]; exact fj _ _),fun h2=>by simp [Heap.push,Heap.put,Heap.size] at h2,fun J _ B=>?_,fun i2 J h2=>by simp [Heap.push,Heap.put,Heap.size] at h2⟩;simp only [Heap.push,Heap.put,Heap.size] at B;rw [aw (by simp)] at B;simp at B; subst B;exact A
 ·have a0:i < h.size:=hi;have a6:((⟨h.objs,h.base,h.size⟩:Heap).put i ob).size=h.size:=by simp [Heap.put,Heap.size]
  have K:((⟨h.objs,h.base,h.size⟩:Heap).put i ob).wmin=i:=by simp only [Heap.put]; omega
  subst V;rcases p with ⟨_,q,_⟩ | ⟨e,q,G,A,q4,O,I⟩ | ⟨e,q,_⟩
  ·omega
  ·rw [K] at A O I
   have C:e=ob:=by have aa:i < h.objs.length:=hi;simp only [Heap.put] at A;rw [ii,if_pos rfl,if_pos aa] at A;exact (ce A).symm
   subst C;rw [U] at N hy;subst I;refine ⟨.put i _ v hi hb W N hy rfl O (fj _ _),fun _ i2 h2=>q4 i2 (dr _ h2),fun J h2=>by simp [Heap.put,Heap.size] at h2,fun i2 J _ h2 B j hj=>?_⟩;rw [O] at h2; cases h2;rw [A] at B; cases B;exact q4 j (gb _ hj)
  ·omega
namespace Txt
variable (T:Txt call n ops ms S H r D) (hev0:CallEvol call)
include T hev0
theorem form {x:Nat} {o:AOper} (hx:x < n) (ho:ops x=some o) (hc:o.op.isCall=false):SForm o (S x) (H x) (H (x+1)) (r x) (D x)∧(D x).isCall=false∧(D x).rd=ew o.op (S x)∧(D x).wr=none:=by
 obtain ⟨_,_,_,_,hs | hs⟩:=T.spec hev0 hx ho
 ·rw [hs.isc] at hc; cases hc
 ·exact ⟨(qy (T.soft x o hx ho) hs).1,hs.did⟩
theorem unwritten {x i:Nat} (hx:x < n) (hi:i < (H x).size) (hw:(D x).writes i=false):(H (x+1)).objs[i]? = (H x).objs[i]?:=by
 obtain ⟨o,ho⟩:=T.all x hx
 have d:(D x).ch≠some i∧∀ w A B,(D x).wr=some (w,A,B)→i < w∨sameAt A B i=true:=by
  unfold Did.writes at hw;simp only [i9,beq_eq_false_iff_ne] at hw;refine ⟨hw.1,fun w A B h=>?_⟩;have:=hw.2;rw [h] at this;simp only [Bool.and_eq_false_iff,decide_eq_false_iff_not,Bool.not_eq_false'] at this;rcases this with h1 | h1
  ·exact .inl (by omega)
  ·exact .inr h1
 obtain ⟨_,_,_,_,hs | hs⟩:=T.spec hev0 hx ho
 ·obtain ⟨s1,g,J,_,_,h1⟩:=hs.run;have q:=me hev0 J
  have p:i < g.wmin→allSeen (ms x) 0 (dsl D x)=true→g.objs[i]? = (H x).objs[i]?:=fun h2 K=>by have:=q.objs i (by simp only [Heap.size,ky]; exact hi) h2;simp only [xd _ _ 0 _ K] at this;exact this
  rcases h1 with ⟨a1,a2,a3,a4⟩ | ⟨a1,a2,a3,a4⟩ | ⟨a1,a2,a3,a4⟩
  ·rw [a4];rcases d.2 _ _ _ a3 with C | C
   ·exact p C a1
   ·exact sameAt_eq C
  ·rw [a4]; exact p (by omega) a1
  ·rw [a4]; exact ag hi
 ·rcases (qy (T.soft x o hx ho) hs).1 with ⟨y,_,_,e,_⟩ | ⟨ob,f,_,_,_,e,_⟩ | ⟨j,ob,f,_,_,_,_,_,_,e,G,_⟩ | ⟨j,ob,_,_,_,_,_,_,e,G,_⟩
  ·rw [e]
  ·rw [e]; exact ag hi
  ·rw [e,ag (by rw [az]; exact hi),aq];intro I; subst I; exact d.1 G
  ·rw [e,aq];intro I; subst I; exact d.1 G
abbrev sz (H:Nat→Heap) (x:Nat):Nat:=(H x).size
omit T hev0 in
theorem qz {x i:Nat} (h:upd D (sz H) H x i≠none):i < (H (x+1)).size∧((H x).size≤i∨(D x).writes i=true):=by
 unfold upd at h;split at h
 ·rename_i d; exact d
 ·exact absurd rfl h
theorem untouched {x y i:Nat} (hx:x < n) (p:y < n) (q:y≠x) (h1:(ms x).testBit y=false) (e:Vis ms H x i) (j:(D y).writes i=false):upd D (sz H) H y i=none:=by
 cases A:upd D (sz H) H y i with
 | none=>rfl
 | some o =>
  exfalso;obtain ⟨h2,d⟩:=qz (D:=D) (H:=H) (x:=y) (i:=i) (by rw [A]; simp);rcases d with d | d
  ·rcases e with G | ⟨z,I,hb,B,C⟩
   ·have:=T.mono hev0 (fk y) (by omega); omega
   ·have:=T.apart hev0 (by omega) p B C d h2;subst this;rw [hb] at h1; cases h1
  ·rw [j] at d; cases d
omit hev0 in
theorem noclash2 {x y:Nat} (hx:x < n) (e:y < n) (j:y≠x) (h1:(ms x).testBit y=false) (h2:(ms y).testBit x=false):(clash (D x) (D y)=false∨clash (D y) (D x)=false)∨(y < x∧benign (H (x+1)) (D x) (D y)=true)∨(x < y∧benign (H (y+1)) (D y) (D x)=true):=by
 rcases bh y x with h | h
 ·rcases T.noclash hx h h1 with d | d
  ·exact .inl (.inl d)
  ·exact .inr (.inl ⟨h,d⟩)
 ·rcases T.noclash e (show x < y by omega) h2 with d | d
  ·exact .inl (.inr d)
  ·exact .inr (.inr ⟨by omega,d⟩)
omit T hev0 in
theorem yf {h:Heap} {x d:Did} (hb:benign h x d=true):x.isCall=true∧d.isCall=false∧d.ch=none∧d.wr=none∧again h d.ld=true:=by unfold benign at hb;simp only [bc,ep,Option.isNone_iff_eq_none] at hb;exact ⟨hb.1.1.1.1,hb.1.1.1.2,hb.1.1.2,hb.1.2,hb.2⟩
omit T hev0 in
theorem o7 {h:Heap} {x d:Did} (hb:benign h x d=true) (i:Nat):d.writes i=false:=by obtain ⟨_,_,h1,h2,_⟩:=yf hb;simp [Did.writes,h1,h2]
omit T hev0 in
theorem clash_rd {x y:Did} (h:clash x y=false∨clash y x=false) (i:Nat) (hi:i ∈ x.rd++x.ch.toList):y.writes i=false:=by
 unfold clash at h;simp only [i9,List.any_eq_false] at h;rcases h with h | h
 ·have:=h.2 i hi; simpa using this
 ·have:=h.1.2 i hi; simpa using this
omit T hev0 in
theorem zbh {x y:Did} (h:clash x y=false∨clash y x=false) (hx:x.isCall=true):y.isCall=false∧y.ch=none:=by
 unfold clash at h;simp only [i9,List.any_eq_false,Bool.and_eq_false_iff] at h;rcases h with h | h
 ·obtain ⟨⟨⟨⟨h1,h2⟩,d⟩,p⟩,q⟩:=h;refine ⟨?_,?_⟩
  ·rcases h1 with h1 | h1
   ·rw [hx] at h1; cases h1
   ·exact h1
  ·rcases d with d | d
   ·cases e:y.ch with
    | none=>rfl
    | some j=>rw [e] at d; cases d
   ·rw [hx] at d; cases d
 ·obtain ⟨⟨⟨⟨h1,h2⟩,d⟩,p⟩,q⟩:=h;refine ⟨?_,?_⟩
  ·rcases h1 with h1 | h1
   ·exact h1
   ·rw [hx] at h1; cases h1
  ·rcases h2 with h2 | h2
   ·cases e:y.ch with
    | none=>rfl
    | some j=>rw [e] at h2; cases h2
   ·rw [hx] at h2; cases h2
theorem wr_call {y:Nat} (d:y < n):(D y).isCall=false→(D y).wr=none:=by
 intro h;obtain ⟨o,ho⟩:=T.all y d;obtain ⟨_,_,_,_,hs | hs⟩:=T.spec hev0 d ho
 ·rw [hs.did.1] at h; cases h
 ·exact hs.did.2.2
theorem ch_rd {y i:Nat} (d:y < n) (h:(D y).ch=some i):i ∈ (D y).rd∧i < (H y).size∧Vis ms H y i:=by
 obtain ⟨o,ho⟩:=T.all y d;obtain ⟨⟨_,p⟩,_,_,_,hs | hs⟩:=T.spec hev0 d ho
 ·rw [hs.did.2.2] at h; cases h
 ·rcases (qy (T.soft y o d ho) hs).1 with ⟨_,_,_,_,e⟩ | ⟨_,_,_,_,_,_,e⟩ | ⟨j,_,_,_,q,_,hr,_,_,_,e,_⟩ | ⟨j,_,_,q,_,hr,_,_,_,e,_⟩
  ·rw [e] at h; cases h
  ·rw [e] at h; cases h
  ·rw [e] at h; cases h;exact ⟨by rw [hs.did.2.1]; exact hr,q,(T.okId_iff hev0 d).1 (p i hr)⟩
  ·rw [e] at h; cases h;exact ⟨by rw [hs.did.2.1]; exact hr,q,(T.okId_iff hev0 d).1 (p i hr)⟩
theorem cvis {x y i:Nat} (hx:x < n) (j:y < n) (d:y≠x) (h1:(ms x).testBit y=false) (h2:(ms y).testBit x=false) (hc:(D x).isCall=true) (e:Vis ms H x i):upd D (sz H) H y i=none:=by
 refine T.untouched hev0 hx j d h1 e ?_;rcases T.noclash2 hx j d h1 h2 with p | ⟨_,hb⟩ | ⟨_,hb⟩
 ·obtain ⟨q,A⟩:=zbh p hc;simp [Did.writes,A,T.wr_call hev0 j q]
 ·exact o7 hb i
 ·rw [(yf hb).2.1] at hc; cases hc
theorem crd {x y i:Nat} (hx:x < n) (q:y < n) (d:y≠x) (h1:(ms x).testBit y=false) (h2:(ms y).testBit x=false) (hi:i ∈ (D x).rd) (e:Vis ms H x i) (j:¬ (x < y∧benign (H (y+1)) (D y) (D x)=true)):upd D (sz H) H y i=none:=by
 refine T.untouched hev0 hx q d h1 e ?_;rcases T.noclash2 hx q d h1 h2 with p | ⟨_,hb⟩ | hb
 ·exact clash_rd p i (dr _ hi)
 ·exact o7 hb i
 ·exact absurd hb j
theorem cww {x y i:Nat} (hx:x < n) (j:y < n) (d:y≠x) (h1:(ms x).testBit y=false) (h2:(ms y).testBit x=false) (G:upd D (sz H) H x i≠none):upd D (sz H) H y i=none:=by
 cases A:upd D (sz H) H y i with
 | none=>rfl
 | some o =>
  exfalso;obtain ⟨a1,a2⟩:=qz G;obtain ⟨b1,b2⟩:=qz (D:=D) (H:=H) (x:=y) (i:=i) (by rw [A]; simp);have p:=T.noclash2 hx j d h1 h2
  have mk:∀ {x y:Nat},x < n→y < n→y≠x→(ms y).testBit x=false→i < (H (x+1)).size→(H x).size≤i→(D y).writes i=true→i < (H (y+1)).size→i < (H y).size→False:=by
   intro x y hx j d h2 a1 a2 b2 b1 b3
   have B:x < y:=by
    rcases Nat.lt_trichotomy x y with h | h | h
    ·exact h
    ·exact absurd h.symm d
    ·have:=T.mono hev0 (show y≤x by omega) (by omega); omega
   unfold Did.writes at b2;simp only [c9,beq_iff_eq] at b2;rcases b2 with b2 | b2
   ·obtain ⟨_,_,C⟩:=T.ch_rd hev0 j b2;rcases C with C | ⟨z,P,hb,I,J⟩
    ·have:=T.mono hev0 (fk x) (by omega); omega
    ·have:=T.apart hev0 (by omega) hx I J a2 a1;subst this;rw [hb] at h2; cases h2
   ·have:=T.writer hev0 j (fun e=>by rw [e] at b2; cases b2) B (by omega);rw [this] at h2; cases h2
  by_cases a3:(H x).size≤i
  ·by_cases b3:(H y).size≤i
   ·exact d (T.apart hev0 j hx b3 b1 a3 a1)
   ·exact mk hx j d h2 a1 a3 (b2.resolve_left b3) b1 (by omega)
  ·by_cases b3:(H y).size≤i
   ·exact mk j hx (fun e=>d e.symm) h1 b1 b3 (a2.resolve_left a3) a1 (by omega)
   ·have a4:=a2.resolve_left a3;have b4:=b2.resolve_left b3;rcases p with q | ⟨_,hb⟩ | ⟨_,hb⟩;rotate_left
    ·rw [o7 hb i] at b4; cases b4
    ·rw [o7 hb i] at a4; cases a4
    unfold Did.writes at a4;simp only [c9,beq_iff_eq] at a4;rcases a4 with a4 | a4
    ·have:=clash_rd q i (gb _ (by rw [a4]; simp));rw [this] at b4; cases b4
    ·have hc:(D x).isCall=true:=by
      cases K:(D x).isCall with
      | true=>rfl
      | false=>rw [T.wr_call hev0 hx K] at a4; cases a4
     obtain ⟨N,O⟩:=zbh q hc;simp [Did.writes,O,T.wr_call hev0 j N] at b4
end Txt
end
end Go.Abs
