/-
  Texts joined.
-/
import Derived.Test.YtkdkjjokckokfaaGreatQ0
import Derived.Test.YtkdkjjokckokfaaGreatQ3
import Derived.Test.YtkdkjjokckokfaaGreatQ2
set_option linter.unusedVariables false
set_option linter.unusedSimpArgs false
set_option maxRecDepth 100000
namespace Go.Abs
section
variable {s:Slots} {h1 h2:Heap} {X:List Nat}
inductive NewF:(Nat→Slot)→Prop where
 | ptr:NewF fun k=>.val (.ptr (some (k,0)))
 | slice (n:Nat) (c:Option Nat):NewF fun k=>.val (.slice (some (k,0)) n c)
 | map:NewF fun k=>.val (.map (some k))
theorem NewF.ids {f:Nat→Slot} (h:NewF f) (k:Nat):(f k).ids=[k]:=by cases h <;> rfl
theorem NewF.ren {f:Nat→Slot} (h:NewF f) (N r:Nat):(f N).ren (mv N r)=f r:=by cases h <;> simp [Slot.ren,AVal.ren,mv]
theorem NewF.novar {f:Nat→Slot} (h:NewF f) (k:Nat) (cs:List AVal):f k ≠ .var cs:=by cases h <;> simp
def Moved (o:AOp) (s:Slots) (h1 h2:Heap) (a b:Option (Slot × Slots × Heap)):Prop :=
 ∀ x s' h',a=some (x,s',h')→s'=s∧((h'=h1∧b=some (x,s,h2))∨(∃ ob f,NewF f∧x=f h1.size∧h'=h1.push ob∧b=some (f h2.size,s,h2.push ob)) ∨
  (∃ i ob f,NewF f∧h1.base≤i∧i < h1.size∧i ∈ fj o s∧x=f h1.size∧h'=(h1.put i .dead).push ob∧b=some (f h2.size,s,(h2.put i .dead).push ob)) ∨
  (∃ i ob,h1.base≤i∧i < h1.size∧i ∈ fj o s∧(∃ v,x = .val v)∧h'=h1.put i ob∧b=some (x,s,h2.put i ob)))
variable {o:AOp}
theorem bu (b:Option (Slot × Slots × Heap)):Moved o s h1 h2 none b:=fun _ _ _ e=>by cases e
theorem gp (v:Option AVal):Moved o s h1 h2 (ok1 s h1 v) (ok1 s h2 v):=fun x s' h' e=>by unfold ok1 at e ⊢;rw [ae] at e;obtain ⟨u,rfl,e⟩:=e;cases e;exact ⟨rfl,.inl ⟨rfl,rfl⟩⟩
theorem m4 (y:Slot):Moved o s h1 h2 (some (y,s,h1)) (some (y,s,h2)):=fun x s' h' e=>by cases e;exact ⟨rfl,.inl ⟨rfl,rfl⟩⟩
theorem moved_map {α:Type} (v:Option α) (f:α→Slot):Moved o s h1 h2 (v.map fun j=>(f j,s,h1)) (v.map fun j=>(f j,s,h2)):=fun x s' h' e=>by rw [ae] at e;obtain ⟨u,rfl,e⟩:=e;cases e;exact ⟨rfl,.inl ⟨rfl,rfl⟩⟩
theorem ka {f:Nat→Slot} (hf:NewF f) (ob:AObj):Moved o s h1 h2 (some (f h1.size,s,h1.push ob)) (some (f h2.size,s,h2.push ob)):=fun x s' h' e=>by cases e;exact ⟨rfl,.inr (.inl ⟨ob,f,hf,rfl,rfl,rfl⟩)⟩
theorem uj {e:Nat} {v:AVal} (ha:∀ i ∈ v.ids,h2.get i=h1.get i):iw e h2 v=iw e h1 v:=by
 unfold iw;split
 ·rfl
 ·rename_i i o n c;rw [ha i (by simp [AVal.ids])]
 ·rfl
 ·rfl
theorem adr_get {x:Opd} {i o:Nat} (ha:∀ v,x.ev s=some v→∀ i ∈ v.ids,h2.get i=h1.get i) (hx:x.adr s=some (.glob i o)):h2.get i=h1.get i:=by
 unfold Opd.adr at hx;split at hx
 ·rename_i t;split at hx <;> cases hx
  rename_i hs;exact ha (.ptr (some (i,o))) (by simp [Opd.ev,hs]) i (by simp [AVal.ids])
 ·cases hx
theorem nl:∀ {xs:List Opd} {vs:List AVal} {v:AVal},evs s xs=some vs→v ∈ vs→∃ x ∈ xs,x.ev s=some v
 | [],vs,v,h,hv=>by simp only [evs] at h; cases h; cases hv
 | x :: xs,vs,v,h,hv=>by
  simp only [evs] at h;split at h
  ·rename_i u us hu hus;cases h;rcases dy.1 hv with rfl | hv
   ·exact ⟨x,bg ..,hu⟩
   ·obtain ⟨y,hy,h3⟩:=nl hus hv;exact ⟨y,bj _ hy,h3⟩
  ·cases h
theorem op_heap {call:CallSem} {d:Nat} {o:AOp} (hc:soft o=true) (hcc:o.isCall=false) (hb:h2.base=h1.base) (ha:∀ x ∈ fk o,∀ v,x.ev s=some v→∀ i ∈ v.ids,h2.get i=h1.get i) :
  Moved o s h1 h2 (df call d o s h1) (df call d o s h2):=by
 cases o with
 | lalloc z=>cases hc
 | lbox x=>cases hc
 | store n a x=>cases hc
 | copy e d s=>cases hc
 | call f args=>cases hcc
 | callg g args=>cases hcc
 | alloc e z=>simp only [df]; exact ka .ptr _
 | box x =>
  simp only [df];split
  ·exact ka .ptr _
  ·exact bu _
 | mkslice e n z ps =>
  simp only [df];split
  ·exact ka (.slice _ _) _
  ·exact bu _
 | make e b z l c =>
  simp only [df];split
  ·split
   ·exact ka (.slice _ _) _
   ·exact bu _
  ·exact bu _
 | load n a =>
  simp only [df];split
  ·rename_i ad had
   have:loadAt s h2 ad n=loadAt s h1 ad n:=by
    unfold loadAt cellsAt;cases ad with
    | glob i o=>simp only; rw [adr_get (ha a (by simp [fk])) had]
    | loc t o=>rfl
   rw [this];exact gp _
  ·exact bu _
 | len k x =>
  simp only [df];split
  ·rename_i v hv
   have:evLen k v h2=evLen k v h1:=by
    unfold evLen;split
    ·rfl
    ·rfl
    ·split
     ·rfl
     ·rename_i r;rw [ha x (by simp [fk]) _ hv r (by simp [AVal.ids])]
     ·rfl
   rw [this];exact gp _
  ·exact bu _
 | conv k x =>
  simp only [df];split
  ·rename_i v hv;have hav:=ha x (by simp [fk]) v hv;unfold n7;split
   ·split
    ·exact gp _
    ·exact bu _
   ·split
    ·exact gp _
    ·exact bu _
   ·split
    ·split
     ·exact ka (.slice _ _) _
     ·exact bu _
    ·exact bu _
   ·split
    ·rename_i a n c;rw [uj hav];split
     ·exact gp _
     ·exact bu _
    ·exact bu _
   ·split
    ·rename_i i o' n c;have hgi:=hav i (by simp [AVal.ids]);intro x' s' h' e;split at e;case h_2=>cases e
     rename_i e1 cs hcs;split at e;case isFalse=>cases e
     rename_i hh;cases e;refine ⟨rfl,.inr (.inr (.inr ⟨i,_,hh.2,ah hcs,?_,⟨_,rfl⟩,rfl,?_⟩))⟩
     ·unfold fj;rw [dz];exact ⟨x,by simp [fk],by rw [hv]; simp [AVal.ids]⟩
     ·rw [hgi,hcs];simp only;rw [if_pos ⟨hh.1,by rw [hb]; exact hh.2⟩]
    ·exact bu _
  ·exact bu _
 | slice k x lo hi mx =>
  simp only [df];split
  ·rename_i lo' hi' mx' _ _ _;have hav:=ha x (by simp [fk])
   have:aSlice k s h2 x lo' hi' mx'=aSlice k s h1 x lo' hi' mx':=by
    unfold aSlice;cases k with
    | str=>rfl
    | sl e =>
     simp only;cases hx:x.ev s with
     | none=>rfl
     | some v =>
      cases v with
      | slice p n c =>
       cases p with
       | none=>rfl
       | some p =>
        obtain ⟨i,o⟩:=p;have h3:=hav _ hx i (by simp [AVal.ids]);have h4:eszIs h2 i e=eszIs h1 i e:=by unfold eszIs; rw [h3]
        simp only [h4]
      | _=>rfl
    | arr n e =>
     simp only;cases hx:x.adr s with
     | none=>rfl
     | some ad =>
      cases ad with
      | glob i o=>simp only [adr_get hav hx]
      | loc t o=>rfl
   rw [this];exact gp _
  ·exact bu _
 | append e b x y =>
  simp only [df];split
  ·rename_i vx vy hx hy;have hax:=ha x (by simp [fk]) vx hx;have hay:=ha y (by simp [fk]) vy hy;unfold ex;split
   ·rename_i a n c;rw [uj hax,uj hay];split
    ·rename_i old new _ _;unfold aApp;split
     ·exact m4 _
     ·split
      ·cases a with
       | none=>simp only; exact ka (.slice _ _) _
       | some p =>
        obtain ⟨i,o⟩:=p;simp only;split
        ·exact ka (.slice _ _) _
        ·have hr:rowIs h2 i e=rowIs h1 i e:=by unfold rowIs;rw [hax i (by simp [AVal.ids])]
         rw [hb,hr];split
         ·rename_i hh;intro x' s' h' e';cases e'
          have hlt:i < h1.size:=by
           have h3:=hh.2;unfold rowIs at h3;split at h3
           ·rename_i hg; exact ah hg
           ·cases h3
          refine ⟨rfl,.inr (.inr (.inl ⟨i,_,_,.slice _ _,hh.1,hlt,?_,rfl,rfl,?_⟩))⟩
          ·simp [fj,fk,hx,AVal.ids]
          ·simp [Heap.size,Heap.put]
         ·exact bu _
      ·exact bu _
    ·exact bu _
   ·exact bu _
  ·exact bu _
 | val x=>exact gp _
 | build z ps=>exact gp _
 | faddr x off =>
  simp only [df];split
  ·exact gp _
  ·split
   ·exact m4 _
   ·exact bu _
  ·exact bu _
 | pick c x y =>
  simp only [df];split
  ·exact gp _
  ·exact gp _
  ·exact bu _
 | bin op x y =>
  simp only [df];split
  ·exact gp _
  ·exact bu _
 | un op x =>
  simp only [df];split
  ·exact gp _
  ·exact bu _
 | mkfunc g f c =>
  simp only [df];split
  ·exact gp _
  ·exact bu _
 | field x off n =>
  simp only [df];split
  ·exact gp _
  ·exact bu _
 | iaddr e x i =>
  simp only [df];split
  ·exact gp _
  ·exact bu _
 | aaddr n e x i =>
  simp only [df];split
  ·exact gp _
  ·split
   ·exact moved_map _ _
   ·exact bu _
  ·exact bu _
 | index x i =>
  simp only [df];split
  ·exact gp _
  ·exact bu _
 | aindex n e k x i =>
  simp only [df];split
  ·exact gp _
  ·exact bu _
 | extract x i =>
  simp only [df];split
  ·exact gp _
  ·exact bu _
 | minmax m xs =>
  simp only [df];split
  ·exact gp _
  ·exact bu _
 | nilcheck x =>
  simp only [df];split
  ·exact gp _
  ·split
   ·split
    ·exact m4 _
    ·exact bu _
   ·exact bu _
 | eqnil k neg x y =>
  simp only [df];split
  ·exact gp _
  ·exact bu _
 | beq neg x y =>
  simp only [df];split
  ·exact gp _
  ·exact bu _
 | ext k xs =>
  simp only [df];split
  ·rename_i vs hvs
   have hent:(∀ x ∈ xs,∀ v,x.ev s=some v→∀ i ∈ v.ids,h2.get i=h1.get i)→∀ v ∈ vs,entriesOf h2 v=entriesOf h1 v:=by
    intro ha v hv;have:=nl hvs hv;obtain ⟨x,hx,hxv⟩:=this;unfold entriesOf;split
    ·rfl
    ·rename_i r;rw [ha x hx _ hxv r (by simp [AVal.ids])]
    ·rfl
   cases k with
   | mkmap =>
    cases vs with
    | nil=>simp only [dj,b9]; exact ka .map _
    | cons v vs=>exact bu _
   | mkiter =>
    have hent:=hent (fun x hx=>ha x (by simpa [fk] using hx));cases vs with
    | nil=>exact bu _
    | cons m vs =>
     cases vs with
     | cons _ _ =>
      cases m with
      | map r=>cases r <;> exact bu _
      | _=>exact bu _
     | nil =>
      cases m with
      | map r =>
       cases r with
       | none=>simp only [dj,b9]; exact ka .ptr _
       | some r =>
        have hg:h2.get r=h1.get r:=by obtain ⟨x,hx,hxv⟩:=nl hvs (eo _);exact ha x (by simpa [fk] using hx) _ hxv r (by simp [AVal.ids])
        simp only [dj,hg];split
        ·simp only [b9]; exact ka .ptr _
        ·exact bu _
      | _=>exact bu _
   | mapupd kn =>
    have hg:∀ v ∈ vs,∀ i ∈ v.ids,h2.get i=h1.get i∧i ∈ fj (.ext (.mapupd kn) xs) s:=fun v hv i hi=>by
     obtain ⟨x,hx,hxv⟩:=nl hvs hv;have hx':x ∈ fk (.ext (.mapupd kn) xs):=by simpa [fk] using hx
     refine ⟨ha x hx' v hxv i hi,?_⟩;unfold fj;rw [dz];exact ⟨x,hx',by rw [hxv]; exact hi⟩
    intro x' s' h' e;rw [ae] at e;obtain ⟨⟨v,h3⟩,e,e'⟩:=e;cases e'
    have hsh:∃ r k v',vs=[.map (some r),k,v']:=by
     rcases vs with _ | ⟨v1,_ | ⟨k,_ | ⟨v',_ | ⟨v4,vs⟩⟩⟩⟩
     ·simp [dj] at e
     ·cases v1 <;> simp [dj] at e
     ·cases v1 <;> simp [dj] at e
     ·cases v1 <;> simp only [dj,reduceCtorEq] at e
      rename_i q;cases q with
      | none=>simp [dj] at e
      | some r=>exact ⟨r,k,v',rfl⟩
     ·cases v1 <;> simp [dj] at e
    obtain ⟨r,k,v',rfl⟩:=hsh;simp only [dj] at e;obtain ⟨hg1,hg2⟩:=hg (.map (some r)) (bg ..) r (by simp [AVal.ids]);split at e;case isFalse=>cases e
    rename_i hh;split at e;case h_2=>cases e
    rename_i es clock hes;have hlt:r < h1.size:=ah hes;split at e
    ·rename_i j v0 hfd;cases e;refine ⟨rfl,.inr (.inr (.inr ⟨r,_,hh.2,hlt,hg2,⟨_,rfl⟩,rfl,?_⟩))⟩;simp only [dj];rw [if_pos ⟨hh.1,by rw [hb]; exact hh.2⟩,hg1,hes];simp only [hfd,b9]
    ·rename_i hfd;cases e;refine ⟨rfl,.inr (.inr (.inr ⟨r,_,hh.2,hlt,hg2,⟨_,rfl⟩,rfl,?_⟩))⟩;simp only [dj];rw [if_pos ⟨hh.1,by rw [hb]; exact hh.2⟩,hg1,hes];simp only [hfd,b9]
    ·cases e
   | mapentry kn z =>
    have hg:∀ v ∈ vs,∀ i ∈ v.ids,h2.get i=h1.get i∧i ∈ fj (.ext (.mapentry kn z) xs) s:=fun v hv i hi=>by
     obtain ⟨x,hx,hxv⟩:=nl hvs hv;have hx':x ∈ fk (.ext (.mapentry kn z) xs):=by simpa [fk] using hx
     refine ⟨ha x hx' v hxv i hi,?_⟩;unfold fj;rw [dz];exact ⟨x,hx',by rw [hxv]; exact hi⟩
    intro x' s' h' e;rw [ae] at e;obtain ⟨⟨v,h3⟩,e,e'⟩:=e;cases e'
    have hsh:∃ r k,vs=[.map (some r),k]:=by unfold dj at e;split at e <;> simp_all
    obtain ⟨r,k,rfl⟩:=hsh;simp only [dj] at e;obtain ⟨hg1,hg2⟩:=hg (.map (some r)) (bg ..) r (by simp [AVal.ids]);split at e;case isFalse=>cases e
    rename_i hh;split at e;case h_2=>cases e
    rename_i es clock hes;have hlt:r < h1.size:=ah hes;split at e
    ·rename_i j v0 hfd;cases e;refine ⟨rfl,.inr (.inr (.inr ⟨r,_,hh.2,hlt,hg2,⟨_,rfl⟩,rfl,?_⟩))⟩;simp only [dj];rw [if_pos ⟨hh.1,by rw [hb]; exact hh.2⟩,hg1,hes];simp only [hfd,b9]
    ·rename_i hfd;cases e;refine ⟨rfl,.inr (.inr (.inr ⟨r,_,hh.2,hlt,hg2,⟨_,rfl⟩,rfl,?_⟩))⟩;simp only [dj];rw [if_pos ⟨hh.1,by rw [hb]; exact hh.2⟩,hg1,hes];simp only [hfd,b9]
    ·cases e
   | entrystore =>
    have hg:∀ v ∈ vs,∀ i ∈ v.ids,h2.get i=h1.get i∧i ∈ fj (.ext .entrystore xs) s:=fun v hv i hi=>by
     obtain ⟨x,hx,hxv⟩:=nl hvs hv;have hx':x ∈ fk (.ext .entrystore xs):=by simpa [fk] using hx
     refine ⟨ha x hx' v hxv i hi,?_⟩;unfold fj;rw [dz];exact ⟨x,hx',by rw [hxv]; exact hi⟩
    intro x' s' h' e;rw [ae] at e;obtain ⟨⟨v,h3⟩,e,e'⟩:=e;cases e'
    have hsh:∃ r st v',vs=[.map (some r),.int .i64 st,v']:=by unfold dj at e;split at e <;> simp_all
    obtain ⟨r,st,v',rfl⟩:=hsh;simp only [dj] at e;obtain ⟨hg1,hg2⟩:=hg (.map (some r)) (bg ..) r (by simp [AVal.ids]);split at e;case isFalse=>cases e
    rename_i hh;split at e;case h_2=>cases e
    rename_i es clock hes;have hlt:r < h1.size:=ah hes;split at e;case h_2=>cases e
    rename_i j hfd;cases e;refine ⟨rfl,.inr (.inr (.inr ⟨r,_,hh,hlt,hg2,⟨_,rfl⟩,rfl,?_⟩))⟩;simp only [dj];rw [if_pos (by rw [hb]; exact hh),hg1,hes];simp only [hfd,b9]
   | delete kn =>
    have hg:∀ v ∈ vs,∀ i ∈ v.ids,h2.get i=h1.get i∧i ∈ fj (.ext (.delete kn) xs) s:=fun v hv i hi=>by
     obtain ⟨x,hx,hxv⟩:=nl hvs hv;have hx':x ∈ fk (.ext (.delete kn) xs):=by simpa [fk] using hx
     refine ⟨ha x hx' v hxv i hi,?_⟩;unfold fj;rw [dz];exact ⟨x,hx',by rw [hxv]; exact hi⟩
    intro x' s' h' e;rw [ae] at e;obtain ⟨⟨v,h3⟩,e,e'⟩:=e;cases e'
    have hsh:(∃ k,vs=[.map none,k])∨∃ r k,vs=[.map (some r),k]:=by
     rcases vs with _ | ⟨v1,_ | ⟨k,_ | ⟨v',vs⟩⟩⟩
     ·simp [dj] at e
     ·cases v1 <;> simp [dj] at e
     ·cases v1 <;> simp only [dj,reduceCtorEq] at e
      rename_i q;cases q with
      | none=>exact .inl ⟨k,rfl⟩
      | some r=>exact .inr ⟨r,k,rfl⟩
     ·cases v1 <;> simp [dj] at e
    rcases hsh with ⟨k,rfl⟩ | ⟨r,k,rfl⟩
    ·simp only [dj] at e;split at e;case isFalse=>cases e
     rename_i hh;cases e;exact ⟨rfl,.inl ⟨rfl,by simp only [dj]; rw [if_pos hh]; rfl⟩⟩
    simp only [dj] at e;obtain ⟨hg1,hg2⟩:=hg (.map (some r)) (bg ..) r (by simp [AVal.ids]);split at e;case isFalse=>cases e
    rename_i hh;split at e;case h_2=>cases e
    rename_i es clock hes;have hlt:r < h1.size:=ah hes;split at e
    ·rename_i j v0 hfd;cases e;refine ⟨rfl,.inr (.inr (.inr ⟨r,_,hh.2,hlt,hg2,⟨_,rfl⟩,rfl,?_⟩))⟩;simp only [dj];rw [if_pos ⟨hh.1,by rw [hb]; exact hh.2⟩,hg1,hes];simp only [hfd,b9]
    ·rename_i hfd;cases e;refine ⟨rfl,.inl ⟨rfl,?_⟩⟩;simp only [dj];rw [if_pos ⟨hh.1,by rw [hb]; exact hh.2⟩,hg1,hes];simp only [hfd,b9]
    ·cases e
   | hstore n =>
    have hg:∀ v ∈ vs,∀ i ∈ v.ids,h2.get i=h1.get i∧i ∈ fj (.ext (.hstore n) xs) s:=fun v hv i hi=>by
     obtain ⟨x,hx,hxv⟩:=nl hvs hv;have hx':x ∈ fk (.ext (.hstore n) xs):=by simpa [fk] using hx
     refine ⟨ha x hx' v hxv i hi,?_⟩;unfold fj;rw [dz];exact ⟨x,hx',by rw [hxv]; exact hi⟩
    intro x' s' h' e;rw [ae] at e;obtain ⟨⟨v,h3⟩,e,e'⟩:=e;cases e'
    have hsh:∃ r o' v',vs=[.ptr (some (r,o')),v']:=by
     rcases vs with _ | ⟨v1,_ | ⟨v',_ | ⟨v4,vs⟩⟩⟩
     ·simp [dj] at e
     ·cases v1 <;> simp [dj] at e
     ·cases v1 <;> simp only [dj,reduceCtorEq] at e
      rename_i q;cases q with
      | none=>simp [dj] at e
      | some q=>exact ⟨q.1,q.2,v',rfl⟩
     ·cases v1 <;> simp [dj] at e
    obtain ⟨r,o',v',rfl⟩:=hsh;simp only [dj] at e;obtain ⟨hg1,hg2⟩:=hg (.ptr (some (r,o'))) (bg ..) r (by simp [AVal.ids]);split at e;case h_2=>cases e
    rename_i xs' e1 cs hxs hcs;have hlt:r < h1.size:=ah hcs;split at e;case isFalse=>cases e
    rename_i hh;cases e;refine ⟨rfl,.inr (.inr (.inr ⟨r,_,hh.2.1,hlt,hg2,⟨_,rfl⟩,rfl,?_⟩))⟩;simp only [dj];rw [hg1,hcs,hxs];simp only;rw [if_pos ⟨hh.1,by rw [hb]; exact hh.2.1,hh.2.2⟩];rfl
   | copy ez =>
    have hg:∀ v ∈ vs,∀ i ∈ v.ids,h2.get i=h1.get i∧i ∈ fj (.ext (.copy ez) xs) s:=fun v hv i hi=>by
     obtain ⟨x,hx,hxv⟩:=nl hvs hv;have hx':x ∈ fk (.ext (.copy ez) xs):=by simpa [fk] using hx
     refine ⟨ha x hx' v hxv i hi,?_⟩;unfold fj;rw [dz];exact ⟨x,hx',by rw [hxv]; exact hi⟩
    intro x' s' h' e;rw [ae] at e;obtain ⟨⟨v,h3⟩,e,e'⟩:=e;cases e'
    have hsh:∃ a n c y,vs=[.slice a n c,y]:=by
     rcases vs with _ | ⟨v1,_ | ⟨v',_ | ⟨v4,vs⟩⟩⟩
     ·simp [dj] at e
     ·cases v1 <;> simp [dj] at e
     ·cases v1 <;> simp only [dj,reduceCtorEq] at e
      exact ⟨_,_,_,_,rfl⟩
     ·cases v1 <;> simp [dj] at e
    obtain ⟨a,n,c,y,rfl⟩:=hsh
    have hrow:rowK ez h2 (min n (alen y)) y=rowK ez h1 (min n (alen y)) y:=by
     have hy:=hg y (by simp);unfold rowK;cases y <;> try rfl
     rename_i ya yn yc;simp only;split
     ·unfold iw;cases ya with
      | none=>rfl
      | some p=>obtain ⟨i,o⟩:=p; simp only [(hy i (by simp [AVal.ids])).1]
     ·rfl
    simp only [dj] at e;split at e;case h_2=>cases e
    rename_i src hsrc;split at e
    ·rename_i h0;cases e;refine ⟨rfl,.inl ⟨rfl,?_⟩⟩;simp only [dj];rw [hrow,hsrc];simp only;rw [if_pos h0];rfl
    ·rename_i h0;split at e;case h_2=>cases e
     rename_i r o';obtain ⟨hg1,hg2⟩:=hg (.slice (some (r,o')) n c) (bg ..) r (by simp [AVal.ids]);split at e;case h_2=>cases e
     rename_i e1 cs hcs;have hlt:r < h1.size:=ah hcs;split at e;case isFalse=>cases e
     rename_i hh;cases e;refine ⟨rfl,.inr (.inr (.inr ⟨r,_,hh.2.1,hlt,hg2,⟨_,rfl⟩,rfl,?_⟩))⟩;simp only [dj];rw [hrow,hsrc];simp only;rw [if_neg h0,hg1,hcs];simp only;rw [if_pos ⟨hh.1,by rw [hb]; exact hh.2.1,hh.2.2⟩];rfl
   | clear ez z =>
    have hg:∀ v ∈ vs,∀ i ∈ v.ids,h2.get i=h1.get i∧i ∈ fj (.ext (.clear ez z) xs) s:=fun v hv i hi=>by
     obtain ⟨x,hx,hxv⟩:=nl hvs hv;have hx':x ∈ fk (.ext (.clear ez z) xs):=by simpa [fk] using hx
     refine ⟨ha x hx' v hxv i hi,?_⟩;unfold fj;rw [dz];exact ⟨x,hx',by rw [hxv]; exact hi⟩
    intro x' s' h' e;rw [ae] at e;obtain ⟨⟨v,h3⟩,e,e'⟩:=e;cases e'
    have hsh:∃ a n c,vs=[.slice a n c]:=by
     rcases vs with _ | ⟨v1,_ | ⟨v',vs⟩⟩
     ·simp [dj] at e
     ·cases v1 <;> simp only [dj,reduceCtorEq] at e
      exact ⟨_,_,_,rfl⟩
     ·cases v1 <;> simp [dj] at e
    obtain ⟨a,n,c,rfl⟩:=hsh;simp only [dj] at e;split at e
    ·rename_i h0;cases e;refine ⟨rfl,.inl ⟨rfl,?_⟩⟩;simp only [dj];rw [if_pos h0];rfl
    ·rename_i h0;split at e;case h_2=>cases e
     rename_i r o';obtain ⟨hg1,hg2⟩:=hg (.slice (some (r,o')) n c) (bg ..) r (by simp [AVal.ids]);split at e;case h_2=>cases e
     rename_i e1 cs hcs;have hlt:r < h1.size:=ah hcs;split at e;case isFalse=>cases e
     rename_i hh;cases e;refine ⟨rfl,.inr (.inr (.inr ⟨r,_,hh.2.1,hlt,hg2,⟨_,rfl⟩,rfl,?_⟩))⟩;simp only [dj];rw [if_neg h0,hg1,hcs];simp only;rw [if_pos ⟨hh.1,by rw [hb]; exact hh.2.1,hh.2.2⟩];rfl
   | appz ez by' z =>
    have hg:∀ v ∈ vs,∀ i ∈ v.ids,h2.get i=h1.get i:=fun v hv i hi=>by obtain ⟨x,hx,hxv⟩:=nl hvs hv;exact ha x (by simpa [fk] using hx) v hxv i hi
    rcases vs with _ | ⟨v1,_ | ⟨v2,_ | ⟨v3,vs⟩⟩⟩
    ·exact bu _
    ·cases v1 <;> exact bu _
    ·cases v1 <;> try exact bu _
     rename_i a n c;cases v2 <;> try exact bu _
     rename_i kd m;cases kd <;> try exact bu _
     have hrow:iw ez h2 (.slice a n c)=iw ez h1 (.slice a n c):=by
      unfold iw;cases a with
      | none=>rfl
      | some p=>obtain ⟨i,o⟩:=p; simp only [hg (.slice (some (i,o)) n c) (bg ..) i (by simp [AVal.ids])]
     simp only [dj,hrow];split
     ·exact m4 _
     ·split
      ·split
       ·exact ka (.slice _ _) _
       ·exact bu _
      ·exact bu _
    ·cases v1 <;> try exact bu _
     cases v2 <;> try exact bu _
     rename_i kd m;cases kd <;> exact bu _
   | entry=>cases hc
   | lookup kn z ok =>
    have hent:=hent (fun x hx=>ha x (by simpa [fk] using hx));cases vs with
    | nil=>exact bu _
    | cons m vs =>
     cases vs with
     | nil=>exact bu _
     | cons y vs =>
      cases vs with
      | cons _ _=>exact bu _
      | nil =>
       simp only [dj,hent m (bg ..)];split
       ·split
        ·split
         ·exact m4 _
         ·exact m4 _
         ·exact bu _
        ·exact bu _
       ·exact bu _
   | pure p =>
    simp only [dj];cases evPure p vs with
    | none=>exact bu _
    | some r=>exact m4 _
  ·exact bu _
 | nextStr _=>exact bu _
end
end Go.Abs

namespace Go.Abs
inductive Chain (ops:Array Oper):Nat→Nat→Prop where
 | one {j:Nat} {o:Oper} {e:Edge}:ops[j]? = some o→e ∈ o.after→Region.binds .any e=true→Chain ops j e.on
 | step {j i:Nat} {o:Oper} {e:Edge}:ops[j]? = some o→e ∈ o.after→Region.binds .any e=true→Chain ops e.on i→Chain ops j i
section
variable {ops:Array Oper}
theorem mask_bit (acc:List Nat) (i:Nat):∀ (l:List Edge) (s:Nat),(l.foldl (fun s e=>if Region.binds .any e then s ||| 2 ^ e.on ||| acc.getD e.on 0 else s) s).testBit i=true →
  s.testBit i=true∨∃ e ∈ l,Region.binds .any e=true∧(e.on=i∨(acc.getD e.on 0).testBit i=true)
 | [],s,h=>.inl h
 | e :: l,s,h=>by
  simp only [kz] at h;rcases mask_bit acc i l _ h with h1 | ⟨e',h1,h2,h3⟩
  ·split at h1
   ·rename_i hb;rw [Nat.testBit_or,Nat.testBit_or,Nat.testBit_two_pow] at h1;simp only [dt,decide_eq_true_eq] at h1;rcases h1 with (h1 | h1) | h1
    ·exact .inl h1
    ·exact .inr ⟨e,bg ..,hb,.inl h1⟩
    ·exact .inr ⟨e,bg ..,hb,.inr h1⟩
   ·exact .inl h1
  ·exact .inr ⟨e',bj _ h1,h2,h3⟩
theorem li:∀ (l:List Oper) (acc:List Nat),(befs l acc).length=acc.length+l.length
 | [],acc=>by simp [befs]
 | o :: l,acc=>by simp [befs,li l]; omega
theorem m7:∀ (l:List Oper) (acc:List Nat),ops.toList.drop acc.length=l→(∀ k i,(acc.getD k 0).testBit i=true→Chain ops k i) →
  ∀ k i,((befs l acc).getD k 0).testBit i=true→Chain ops k i
 | [],acc,_,h,k,i,hb=>h k i hb
 | o :: l,acc,hd,h,k,i,hb=>by
  simp only [befs] at hb
  have ho:ops[acc.length]? = some o:=by have:=congrArg (fun l=>l[0]?) hd;simpa using this
  refine m7 l (acc++[maskOf acc o]) ?_ (fun k' i' hk=>?_) k i hb
  ·have:=congrArg List.tail hd;simpa using this
  ·rcases zc k' acc.length with h1 | h1 | h1
   ·rw [jm,ag h1,← jm] at hk;exact h k' i' hk
   ·subst h1;rw [jm,aw (aj _)] at hk;simp at hk;rcases mask_bit acc i' _ _ hk with h2 | ⟨e,h2,h3,h4⟩
    ·simp at h2
    ·have he:e ∈ o.after:=by simpa using h2
     rcases h4 with rfl | h4
     ·exact .one ho he h3
     ·exact .step ho he h3 (h _ _ h4)
   ·rw [jm,bv (by simp; omega)] at hk;simp at hk
def Down (ops:Array Oper) (listed:Array Bool):Prop :=
 ∀ (j:Nat) (o:Oper) (e:Edge),listed[j]? = some true→ops[j]? = some o→e ∈ o.after→Region.binds .any e=true→listed[e.on]? = some true
theorem iz {listed:Array Bool} (hd:Down ops listed) {j i:Nat} (hc:Chain ops j i):(∀ (o:Oper) (e:Edge),ops[j]? = some o→e ∈ o.after→Region.binds .any e=true→listed[e.on]? = some true)→listed[i]? = some true:=by
 induction hc with
 | one ho he hb=>intro h; exact h _ _ ho he hb
 | step ho he hb _ ih =>
  intro h;exact ih fun o' e' ho' he' hb'=>hd _ _ _ (h _ _ ho he hb) ho' he' hb'
theorem og {listed:Array Bool} (hs:listed.size=ops.size) {i:Nat} (h:i ∈ Region.ready .any ops listed) :
  ∃ o,ops[i]? = some o∧listed[i]? = some false∧∀ e,e ∈ o.after→Region.binds .any e=true→listed[e.on]? = some true:=by
 unfold Region.ready at h;rw [gi] at h;obtain ⟨h1,h2⟩:=h;rw [dw] at h1;simp only [a7,fp] at h2;obtain ⟨h2,h3⟩:=h2;have ho:ops[i]? = some ops[i]:=by simp [h1]
 refine ⟨ops[i],ho,?_,fun e he hb=>?_⟩
 ·have:listed[i]? = some listed[i]:=by simp [hs,h1]
  rw [this];simp [hs,h1] at h2;rw [h2]
 ·rw [ho] at h3;simp only [b9,gh,Array.all_eq_true'] at h3;have:=h3 e he;simp only [hb,Bool.not_true,Bool.false_or] at this;rw [Array.getD_eq_getD_getElem?] at this;cases hl:listed[e.on]? with
  | none=>rw [hl] at this; simp at this
  | some b=>rw [hl] at this; simp at this; rw [this]
theorem pq (hb:edgesBack ops=true) {listed:Array Bool} (hs:listed.size=ops.size) (h:Region.ready .any ops listed=[]):∀ i,i < ops.size→listed[i]? = some true:=by
 intro i;induction i using Nat.strongRecOn with
 | _ i ih =>
  intro hi;rcases Bool.eq_false_or_eq_true listed[i] with h1 | h1
  ·simp [hs,hi,h1]
  ·exfalso
   have:i ∈ Region.ready .any ops listed:=by
    unfold Region.ready;rw [gi];refine ⟨dw.2 hi,?_⟩;have ho:ops[i]? = some ops[i]:=by simp [hi]
    rw [ho];simp only [a7,fp,b9,gh,Array.all_eq_true'];refine ⟨by simp [hs,hi,h1],fun e he=>?_⟩;cases hbb:Region.binds .any e with
    | false=>rfl
    | true =>
     have hlt:e.on < i:=by unfold edgesBack at hb;rw [au] at hb;have:=hb i (dw.2 hi);rw [ho] at this;simp only [Array.all_eq_true'] at this;have:=this e he;simpa [hbb] using this
     have:=ih e.on hlt (by omega);simp [Array.getD_eq_getD_getElem?,this]
   rw [h] at this;cases this
theorem kx {E:Env} {nt:Nat} {locs:List Nat}:∀ (l:List Oper) (i:Nat) (aZ:List AOper),lq E nt ops locs i l=some aZ→aZ.length=l.length∧∀ (k:Nat) (o:Oper),l[k]? = some o→∃ o',aZ[k]? = some o'∧ky E nt ops (locs.contains (i+k)) o=some o'
 | [],i,aZ,h=>by simp only [lq] at h; cases h; exact ⟨rfl,fun k o hk=>by simp at hk⟩
 | o :: l,i,aZ,h=>by
  simp only [lq] at h;split at h;case h_2=>cases h
  rename_i o' aZ' h1 h2;cases h;obtain ⟨k1,k2⟩:=kx l (i+1) aZ' h2;refine ⟨by simp [k1],fun k x hk=>?_⟩;cases k with
  | zero=>simp at hk; subst hk; exact ⟨o',rfl,h1⟩
  | succ k =>
   simp at hk;obtain ⟨x',h3,h4⟩:=k2 k x hk;exact ⟨x',by simpa using h3,by rw [show i+(k+1)=i+1+k by omega]; exact h4⟩
def Exact (ops:Array Oper) (listed:Array Bool) (p:Nat):Prop:=listed.size=ops.size∧∀ i,i < ops.size→listed[i]? = some (decide (i < p))
theorem Exact.down (hb:edgesBack ops=true) {listed:Array Bool} {p:Nat} (h:Exact ops listed p):Down ops listed:=by
 intro j o e hj ho he hbb;have hjs:j < ops.size:=ah (l:=ops.toList) (by simpa using ho);have h1:=h.2 j hjs;rw [hj] at h1;have hjp:j < p:=by simpa using h1
 have hlt:e.on < j:=by unfold edgesBack at hb;rw [au] at hb;have:=hb j (dw.2 hjs);rw [ho] at this;simp only [Array.all_eq_true'] at this;have:=this e he;simpa [hbb] using this
 rw [h.2 e.on (by omega)];simp; omega
theorem Exact.next {listed:Array Bool} {p:Nat} (h:Exact ops listed p):Exact ops (listed.setIfInBounds p true) (p+1):=by
 refine ⟨by simp [h.1],fun i hi=>?_⟩;by_cases e:p=i
 ·subst e; simp [h.1,hi]
 ·rw [eh e,h.2 i hi];congr 1;rw [mh];simp; omega
theorem tg {bef:List Nat} {p j i:Nat} (h:waits bef p=true) (hj:j < bef.length) (hpj:p≤j) (hi:i < p):(bef.getD j 0).testBit i=true:=by
 unfold waits at h;rw [au] at h;have:=h j (dw.2 hj);simp only [dt,decide_eq_true_eq] at this;rcases this with h1 | h1
 ·omega
 ·rw [au] at h1;exact h1 i (dw.2 hi)
theorem th {aZ:List AOper} {bef:List Nat} (hl:bef.length=aZ.length):∀ (segs:List (Bool × Nat)) (p:Nat),segsOk aZ bef p segs=true→waits bef p=true
 | [],p,h=>by simp only [segsOk,beq_iff_eq] at h;unfold waits;rw [au];intro j hj;rw [dw] at hj;simp; left; omega
 | (true,n) :: r,p,h=>by simp only [segsOk,a7] at h;exact h.1.1.1
 | (false,0) :: r,p,h=>by simp only [segsOk,a7] at h;have:=th hl r (p+0) h.2;simpa using this
 | (false,n+1) :: r,p,h=>by simp only [segsOk,a7] at h;have:=h.1.2;rw [au] at this;have:=this 0 (dw.2 (by omega));simpa using this
end
section
variable {E:Env} {lo nt:Nat} {μ0:MM} {w0:World} {ds:List Deferred} {s:Slots} {h:Heap} {a:Act} {w:World} {call:CallSem} {ops:Array Oper} {locs:List Nat} {aZ:List AOper} {Q:Exit→Act→World→Prop} {ro:Option Nat}
theorem vu {i:Nat} {o:Oper} {K:Act→World→Prop} (ho:ops[i]? = some o) (h:if Region.wanted o (yielded ops a.tmps) then o.wpIn (F0 ro) 0 E.P a w K Q else K (a.put o.dst Go.undef) w):wpOpIn (F0 ro) 0 E.P ops Q i K a w:=by
 unfold wpOpIn;rw [ho];simp only;split
 ·rename_i hw; rw [if_pos hw] at h; exact h
 ·rename_i hw; rw [if_neg hw] at h; exact ⟨fun _ _=>trivial,h⟩
theorem zar (hc:CallOK E call) (hev0:CallEvol call) (hg:GidOK E) {loc:Bool} {o:Oper} {o':AOper} {s1:Slots} {h1:Heap} (hop:ky E nt ops loc o=some o') (hev:fe call o' s { h with wmin:=h.size }=some (s1,h1))
  (hs1:h1.size=h.size) (hw1:h1.wmin=h.size) (hat:At E lo nt μ0 w0 ds s h a w) {next:Act→World→Prop} (hn:∀ a' w',At E lo nt μ0 w0 ds s1 h a' w'→next a' w') :
  if Region.wanted o (yielded ops a.tmps) then o.wpIn (F0 ro) 0 E.P a w next Q else next (a.put o.dst Go.undef) w:=by
 obtain ⟨μ,ν,k1,k2,k3,k4,k5,k6⟩:=hat;have hlen:h.size=μ.length:=k2.len.symm;have hat':At E lo nt μ w ds s { h with wmin:=h.size } a w:=⟨μ,ν,Step.refl _ _ _ _,k2.same rfl rfl rfl,k3,k4,k5,k6⟩;refine pm hc hev0 hg hop hev hat' fun a' w' hat1=>hn a' w' ?_
 obtain ⟨μ',ν',j1,j2,j3,j4,j5,j6⟩:=hat1;have hevol:=me hev0 hev;rw [hw1,hlen] at j1;refine ⟨μ',ν',k1.trans (j1.fresh h.wmin) (aj _),j2.same ?_ hevol.base.symm rfl,j3,j4,j5,j6⟩;apply jh;intro i;rcases bi i h.size with hi | hi
 ·exact (hevol.objs i hi (by rw [hw1]; exact hi)).symm
 ·have e1:h.objs.length≤i:=hi;have e2:h1.objs.length≤i:=by rw [show h1.objs.length=h1.size from rfl,hs1]; exact hi
  rw [bv e1,bv e2]
theorem seq_any (hc:CallOK E call) (hev0:CallEvol call) (hg:GidOK E) (has:lq E nt ops locs 0 ops.toList=some aZ) (hb:edgesBack ops=true) :
  ∀ (n p:Nat) (s:Slots) (h:Heap) (s1:Slots) (h1:Heap) (listed:Array Bool) (a:Act) (w:World),p+n≤aZ.length→(∀ x,x≤n→waits (befs ops.toList []) (p+x)=true) →
  evOps call ((aZ.drop p).take n) s h=some (s1,h1)→Exact ops listed p→At E lo nt μ0 w0 ds s h a w →
  (∀ listed' a' w',Exact ops listed' (p+n)→At E lo nt μ0 w0 ds s1 h1 a' w'→wpAnyIn (F0 ro) 0 E.P .any ops Q (ops.size - (p+n)) listed' a' w')→wpAnyIn (F0 ro) 0 E.P .any ops Q (ops.size - p) listed a w
 | 0,p,s,h,s1,h1,listed,a,w,_,_,hev,hex,hat,hk=>by simp only [List.take_zero,evOps] at hev; cases hev;exact hk listed a w hex hat
 | n+1,p,s,h,s1,h1,listed,a,w,hpn,hw,hev,hex,hat,hk=>by
  obtain ⟨q1,q2⟩:=kx _ _ _ has;have hp:p < ops.size:=by rw [q1] at hpn; simp at hpn; omega
  have hop:ops[p]? = some ops[p]:=by simp [hp]
  obtain ⟨o',ho',hco⟩:=q2 p ops[p] (by simp [hp])
  have hdrop:aZ.drop p=o' :: aZ.drop (p+1):=by have hpl:=ah ho';rw [jw hpl];congr 1;rw [ai hpl] at ho';exact dr ho'
  rw [hdrop,ku] at hev;simp only [evOps] at hev;split at hev;case h_2=>cases hev
  rename_i s2 h2 he;have hchain:=m7 (ops:=ops) ops.toList [] (by simp) (fun k i hk=>by simp at hk);have hblen:=li ops.toList [];have hsz:ops.size - p=(ops.size - (p+1))+1:=by omega
  rw [hsz];refine ⟨fun hr=>?_,fun i hi=>?_⟩
  ·have h3:=pq hb hex.1 hr p hp;rw [hex.2 p hp] at h3;simp at h3
  ·obtain ⟨oi,k1,k2,k3⟩:=og hex.1 hi;have his:i < ops.size:=ah (l:=ops.toList) (by simpa using k1)
   have hip:p≤i:=by have:=hex.2 i his;rw [k2] at this;simpa using this
   have hieq:p=i:=by
    rcases bi p i with h4 | h4
    ·exfalso;have hbit:=tg (hw 1 (by omega)) (j:=i) (i:=p) (by rw [hblen]; simpa using his) (by omega) (by omega);have hl:=iz (hex.down hb) (hchain _ _ hbit) fun o e ho he hbb=>by rw [k1] at ho; cases ho; exact k3 e he hbb
     rw [hex.2 p hp] at hl;simp at hl
    ·omega
   subst hieq;rw [hop] at k1; cases k1;refine vu hop (pm hc hev0 hg hco he hat fun a' w' hat'=>?_);have e1:p+1+n=p+(n+1):=by omega
   refine seq_any hc hev0 hg has hb n (p+1) s2 h2 s1 h1 _ a' w' (by omega) (fun x hx=>?_) hev hex.next hat' ?_
   ·have:=hw (x+1) (by omega);rwa [show p+1+x=p+(x+1) by omega]
   ·rw [e1]; exact hk
theorem zas {h0:Heap}:∀ (seg:List AOper) (s s1:Slots) (h1:Heap),(∀ o ∈ seg,calm o.op=true)→evQuiet call seg s h0=some (s1,h1) →
  h1=h0∧∃ (S:Nat→Slots) (r:Nat→Slot),S 0=s∧S seg.length=s1∧∀ (x:Nat) (o:AOper),seg[x]? = some o →
   (∃ h',fe call o (S x) { h0 with wmin:=h0.size }=some (S (x+1),h')∧h'.size=h0.size∧h'.wmin=h0.size)∧S (x+1)=a8 o.dst (r x) (S x)∧(∀ cs,r x ≠ .var cs)∧∀ d,o.dst=some d→isVar (S x) d=false
 | [],s,s1,h1,_,e=>by simp only [evQuiet] at e; cases e;exact ⟨rfl,fun _=>s,fun _=>.undef,rfl,rfl,fun x o hx=>by simp at hx⟩
 | o :: seg,s,s1,h1,hcalm,e=>by
  simp only [evQuiet] at e;split at e;case h_2=>cases e
  rename_i s2 h2 he;split at e;case isFalse=>cases e
  rename_i hh;obtain ⟨a1,a2,a3⟩:=hh;obtain ⟨b1,S,r,b2,b3,b4⟩:=zas seg s2 s1 h1 (fun o ho=>hcalm o (bj _ ho)) e;obtain ⟨x0,c1,_,c3⟩:=jj (S2:=s) (hcalm o (bg ..)) (Agree.of (fun _ _=>rfl) (fun _ _=>Iff.rfl)) he;refine ⟨b1,fun x=>match x with | 0=>s | x+1=>S x,fun x=>match x with | 0=>x0 | x+1=>r x,rfl,by simpa using b3,fun x o1 hx=>?_⟩;cases x with
  | zero =>
   simp at hx; subst hx;refine ⟨⟨h2,by simp only [b2]; exact he,a1,a2⟩,by simp only [b2]; exact c1,c3,fun d hd=>?_⟩;rw [hd] at a3;simpa using a3
  | succ x =>
   simp at hx;exact b4 x o1 hx
theorem fo (d:Option Nat) (x:Slot) (s:Slots) (t:Nat):sget (a8 d x s) t=if d=some t then some x else sget s t:=by rw [je]; rfl
theorem quiet_any (hc:CallOK E call) (hev0:CallEvol call) (hg:GidOK E) (has:lq E nt ops locs 0 ops.toList=some aZ) (hb:edgesBack ops=true)
  {p n:Nat} {h1:Heap} {s1:Slots} (hpn:p+n≤aZ.length) (hw1:waits (befs ops.toList []) (p+n)=true)
  (hap:∀ x y oi oj,x < n→y < n→aZ[p+x]? = some oi→aZ[p+y]? = some oj→apart (befs ops.toList []) (p+x) (p+y) oi oj=true)
  (hcalm:∀ x o,x < n→aZ[p+x]? = some o→calm o.op=true)
  (hev:evQuiet call ((aZ.drop p).take n) s h=some (s1,h1))
  (hk:∀ listed' a' w',Exact ops listed' (p+n)→At E lo nt μ0 w0 ds s1 h1 a' w'→wpAnyIn (F0 ro) 0 E.P .any ops Q (ops.size - (p+n)) listed' a' w') :
  ∀ listed a w,Exact ops listed p→At E lo nt μ0 w0 ds s h a w→wpAnyIn (F0 ro) 0 E.P .any ops Q (ops.size - p) listed a w:=by
 obtain ⟨q1,q2⟩:=kx _ _ _ has;simp only [gr] at q1;have hchain:=m7 (ops:=ops) ops.toList [] (by simp) (fun k i hk=>by simp at hk);have hblen:=li ops.toList [];simp only [ep,ed,gr] at hblen;have hseg:∀ x,x < n→((aZ.drop p).take n)[x]? = aZ[p+x]?:=fun x hx=>by rw [gj hx,ef]
 have hslen:((aZ.drop p).take n).length=n:=by simp; omega
 obtain ⟨e1,S,r,b2,b3,b4⟩:=zas _ _ _ _ (fun o ho=>by
  obtain ⟨x,hx⟩:=ig ho;have hxn:x < n:=by have:=ah hx; omega
  exact hcalm x o hxn (by rw [← hseg x hxn]; exact hx)) hev
 subst e1;rw [hslen] at b3
 have opat:∀ x,x < n→∃ o o',ops[p+x]? = some o∧aZ[p+x]? = some o'∧ky E nt ops (locs.contains (p+x)) o=some o':=by
  intro x hx;have hlt:p+x < ops.size:=by omega
  obtain ⟨o',h2,h3⟩:=q2 (p+x) ops[p+x] (by simp [hlt]);exact ⟨ops[p+x],o',by simp [hlt],h2,by simpa using h3⟩
 have text:∀ x o',x < n→aZ[p+x]? = some o'→(∃ h',fe call o' (S x) { h1 with wmin:=h1.size }=some (S (x+1),h')∧h'.size=h1.size∧h'.wmin=h1.size)∧S (x+1)=a8 o'.dst (r x) (S x)∧(∀ cs,r x ≠ .var cs)∧∀ d,o'.dst=some d→isVar (S x) d=false :=
  fun x o' hx ho=>b4 x o' (by rw [hseg x hx]; exact ho)
 have dst_ne:∀ x y oi oj d,x < n→y < n→x≠y→aZ[p+x]? = some oi→aZ[p+y]? = some oj→oj.dst=some d→oi.dst≠some d:=by
  intro x y oi oj d hx hy hne hi hj hd e;have:=hap x y oi oj hx hy hi hj;unfold apart at this;rw [hd] at this;simp only [a7,dt,beq_iff_eq,bne_iff_ne] at this;rcases this.1 with h2 | h2
  ·omega
  ·exact h2 e
 have text_hit:∀ x y o d,x≤n→y < x→aZ[p+y]? = some o→o.dst=some d→sget (S x) d=some (r y):=by
  intro x;induction x with
  | zero=>intro y o d _ hy; omega
  | succ x ih =>
   intro y o d hx hy ho hd;obtain ⟨_,o',_,ho',_⟩:=opat x (by omega);obtain ⟨_,t2,_,_⟩:=text x o' (by omega) ho';rw [t2,fo];by_cases e:y=x
   ·subst e; rw [ho] at ho'; cases ho'; rw [if_pos hd]
   ·rw [if_neg (dst_ne x y o' o d (by omega) (by omega) (fun e'=>e e'.symm) ho' ho hd)];exact ih y o d (by omega) (by omega) ho hd
 have text_miss:∀ x t,x≤n→(∀ y o,y < x→aZ[p+y]? = some o→o.dst≠some t)→sget (S x) t=sget s t:=by
  intro x;induction x with
  | zero=>intro t _ _; rw [b2]
  | succ x ih =>
   intro t hx hno;obtain ⟨_,o',_,ho',_⟩:=opat x (by omega);obtain ⟨_,t2,_,_⟩:=text x o' (by omega) ho';rw [t2,fo,if_neg (hno x o' (by omega) ho')];exact ih t (by omega) fun y o hy=>hno y o (by omega)
 have dst_novar:∀ x o d cs,x < n→aZ[p+x]? = some o→o.dst=some d→sget s d≠some (.var cs):=by
  intro x o d cs hx ho hd hv;obtain ⟨_,_,_,t4⟩:=text x o hx ho;have h2:=t4 d hd;have h3:sget (S x) d=sget s d:=text_miss x d (by omega) fun y o2 hy ho2=>dst_ne y x o2 o d (by omega) hx (by omega) ho2 ho hd
  unfold isVar at h2;rw [h3,hv] at h2;simp at h2
 have main:∀ (k:Nat) (listed:Array Bool) (sD:Slots) (a:Act) (w:World),listed.size=ops.size→Down ops listed→(∀ i,i < p→listed[i]? = some true)→(∀ i,p+n≤i→i < ops.size→listed[i]? = some false) →
   ((List.range n).filter fun x=>listed[p+x]? == some false).length=k →
   (∀ x o d,x < n→aZ[p+x]? = some o→listed[p+x]? = some true→o.dst=some d→sget sD d=some (r x)) →
   (∀ t,(∀ x o,x < n→aZ[p+x]? = some o→listed[p+x]? = some true→o.dst≠some t)→sget sD t=sget s t) →
   At E lo nt μ0 w0 ds sD h1 a w→wpAnyIn (F0 ro) 0 E.P .any ops Q (ops.size - (p+n)+k) listed a w:=by
  intro k;induction k with
  | zero =>
   intro listed sD a w hsz hdn hlow hhigh hcount hhit hmiss hat
   have hall:∀ x,x < n→listed[p+x]? = some true:=by
    intro x hx;have hlt:p+x < listed.size:=by omega
    have hmem:x ∉ (List.range n).filter fun x=>listed[p+x]? == some false:=by rw [cg hcount]; simp
    rw [gi] at hmem;have h2:¬ (listed[p+x]? = some false):=fun h2=>hmem ⟨dw.2 hx,by simp [h2]⟩
    rw [lj hlt] at h2 ⊢;cases hv:listed[p+x] with
    | true=>rfl
    | false=>rw [hv] at h2; exact absurd rfl h2
   have hex:Exact ops listed (p+n):=by
    refine ⟨hsz,fun i hi=>?_⟩;rcases bi i p with h2 | h2
    ·rw [hlow i h2]; simp; omega
    ·rcases bi i (p+n) with h3 | h3
     ·have:=hall (i - p) (by omega);rw [show p+(i - p)=i by omega] at this;rw [this]; simp [h3]
     ·rw [hhigh i h3 hi]; simp; omega
   refine hk listed a w hex ?_;obtain ⟨μ,ν,k1,k2,k3,k4⟩:=hat;refine ⟨μ,ν,k1,k2,k3.congr fun t=>?_,k4⟩;rw [← b3];by_cases hx:∃ x o,x < n∧aZ[p+x]? = some o∧o.dst=some t
   ·obtain ⟨x,o,h2,h3,h4⟩:=hx;rw [text_hit n x o t (aj _) h2 h3 h4,hhit x o t h2 h3 (hall x h2) h4]
   ·have hno:∀ x o,x < n→aZ[p+x]? = some o→o.dst≠some t:=fun x o h2 h3 h4=>hx ⟨x,o,h2,h3,h4⟩
    rw [text_miss n t (aj _) hno,hmiss t fun x o h2 h3 _=>hno x o h2 h3]
  | succ k ih =>
   intro listed sD a w hsz hdn hlow hhigh hcount hhit hmiss hat
   have hsome:∃ x,x < n∧listed[p+x]? = some false:=by
    have hne:(List.range n).filter (fun x=>listed[p+x]? == some false)≠[]:=fun e=>by rw [e] at hcount; simp at hcount
    obtain ⟨x,hx⟩:=List.exists_mem_of_ne_nil _ hne;rw [gi,dw] at hx;exact ⟨x,hx.1,by simpa using hx.2⟩
   obtain ⟨xu,hxu,hxf⟩:=hsome;refine ⟨fun hr=>?_,fun i hi=>?_⟩
   ·have:=pq hb hsz hr (p+xu) (by omega);rw [hxf] at this; cases this
   ·obtain ⟨oi,k1,k2,k3⟩:=og hsz hi;have his:i < ops.size:=ah (l:=ops.toList) (by simpa using k1)
    have hip:p≤i:=by
     rcases bi i p with h2 | h2
     ·rw [hlow i h2] at k2; cases k2
     ·exact h2
    have hin:i < p+n:=by
     rcases bi i (p+n) with h2 | h2
     ·exact h2
     ·exfalso;have hbit:=tg hw1 (j:=i) (i:=p+xu) (by rw [hblen]; exact his) h2 (by omega);have hl:=iz hdn (hchain _ _ hbit) fun o e ho he hbb=>by rw [k1] at ho; cases ho; exact k3 e he hbb
      rw [hxf] at hl; cases hl
    obtain ⟨x,rfl⟩:∃ x,i=p+x:=⟨i - p,by omega⟩;have hxn:x < n:=by omega
    obtain ⟨o,o',h2,h3,h4⟩:=opat x hxn;rw [h2] at k1; cases k1;obtain ⟨⟨h',t1,t1a,t1b⟩,t2,t3,t4⟩:=text x o' hxn h3
    have waitsl:∀ j,(((befs ops.toList []).getD (p+x) 0).testBit j=true)→listed[j]? = some true:=fun j hbit =>
     iz hdn (hchain _ _ hbit) fun o2 e ho he hbb=>by rw [h2] at ho; cases ho; exact k3 e he hbb
    have hag:Agree (S x) sD o'.reads:=by
     refine Agree.of ?_ ?_
     ·intro t ht;by_cases hy:∃ y oj,y < n∧aZ[p+y]? = some oj∧oj.dst=some t
      ·obtain ⟨y,oj,hy1,hy2,hy3⟩:=hy;have others:∀ z oz,z < n→z≠y→aZ[p+z]? = some oz→oz.dst≠some t:=fun z oz hz hne hoz=>dst_ne z y oz oj t hz hy1 hne hoz hy2 hy3
       by_cases hxy:y=x
       ·-- its own slot
        subst hxy;rw [text_miss y t (by omega) fun z oz hz hoz=>others z oz (by omega) (by omega) hoz]
        rw [hmiss t fun z oz hz hoz hl=>by
         by_cases e:z=y
         ·subst e; rw [k2] at hl; cases hl
         ·exact others z oz hz e hoz]
       ·have:=hap x y o' oj hxn hy1 h3 hy2;unfold apart at this;rw [hy3] at this;simp only [a7,dt,beq_iff_eq,fp,List.contains_eq_mem,decide_eq_false_iff_not,decide_eq_true_eq] at this;rcases this.2 with ((h5 | h5) | h5) | h5
        ·omega
        ·exact absurd ht h5
        ·obtain ⟨h5,h6⟩:=h5;rw [text_hit x y oj t (by omega) (by omega) hy2 hy3,hhit y oj t hy1 hy2 (waitsl _ h6) hy3]
        ·obtain ⟨h5,h6⟩:=h5
         have hnl:listed[p+y]?≠some true:=by
          intro hl;have:=iz hdn (hchain _ _ h6) fun o2 e ho he hbb=>hdn _ _ _ hl ho he hbb
          rw [k2] at this; cases this
         rw [text_miss x t (by omega) fun z oz hz hoz=>others z oz (by omega) (by omega) hoz]
         rw [hmiss t fun z oz hz hoz hl=>by
          by_cases e:z=y
          ·subst e; exact absurd hl hnl
          ·exact others z oz hz e hoz]
      ·have hno:∀ z oz,z < n→aZ[p+z]? = some oz→oz.dst≠some t:=fun z oz hz hoz hd=>hy ⟨z,oz,hz,hoz,hd⟩
       rw [text_miss x t (by omega) fun z oz hz hoz=>hno z oz (by omega) hoz,hmiss t fun z oz hz hoz _=>hno z oz hz hoz]
     ·intro t cs
      have v1:sget (S x) t=some (.var cs) ↔ sget s t=some (.var cs):=by
       by_cases hy:∃ y oj,y < x∧aZ[p+y]? = some oj∧oj.dst=some t
       ·obtain ⟨y,oj,hy1,hy2,hy3⟩:=hy;rw [text_hit x y oj t (by omega) hy1 hy2 hy3];constructor
        ·intro e; exact absurd (dr e) ((text y oj (by omega) hy2).2.2.1 cs)
        ·intro e; exact absurd e (dst_novar y oj t cs (by omega) hy2 hy3)
       ·rw [text_miss x t (by omega) fun z oz hz hoz hd=>hy ⟨z,oz,hz,hoz,hd⟩]
      have v2:sget sD t=some (.var cs) ↔ sget s t=some (.var cs):=by
       by_cases hy:∃ y oj,y < n∧aZ[p+y]? = some oj∧listed[p+y]? = some true∧oj.dst=some t
       ·obtain ⟨y,oj,hy1,hy2,hyl,hy3⟩:=hy;rw [hhit y oj t hy1 hy2 hyl hy3];constructor
        ·intro e; exact absurd (dr e) ((text y oj hy1 hy2).2.2.1 cs)
        ·intro e; exact absurd e (dst_novar y oj t cs hy1 hy2 hy3)
       ·rw [hmiss t fun z oz hz hoz hl hd=>hy ⟨z,oz,hz,hoz,hl,hd⟩]
      exact v1.trans v2.symm
    obtain ⟨x',c1,c2,c3⟩:=jj (hcalm x o' hxn h3) hag t1;refine vu h2 (zar hc hev0 hg h4 c2 t1a t1b hat fun a' w' hat'=>?_);have hset:∀ j,j≠p+x→(listed.setIfInBounds (p+x) true)[j]? = listed[j]?:=fun j hj=>eh (fun e=>hj e.symm)
    have hself:(listed.setIfInBounds (p+x) true)[p+x]? = some true:=by simp [hsz,his]
    have hx':∀ d,o'.dst=some d→x'=r x:=by intro d hd;rw [t2] at c1;rw [hd] at c1;simp only [a8] at c1;injection c1 with c1 _;injection c1 with _ c1;exact c1.symm
    refine ih (listed.setIfInBounds (p+x) true) (a8 o'.dst x' sD) a' w' (by simp [hsz]) ?_ ?_ ?_ ?_ ?_ ?_ hat'
    ·intro j oj e hj hoj he hbb;by_cases ej:j=p+x
     ·subst ej;rw [h2] at hoj; cases hoj;have:=k3 e he hbb;by_cases ee:e.on=p+x
      ·rw [ee]; exact hself
      ·rw [hset _ ee]; exact this
     ·rw [hset _ ej] at hj;have:=hdn j oj e hj hoj he hbb;by_cases ee:e.on=p+x
      ·rw [ee]; exact hself
      ·rw [hset _ ee]; exact this
    ·intro j hj; rw [hset j (by omega)]; exact hlow j hj
    ·intro j hj hj'; rw [hset j (by omega)]; exact hhigh j hj hj'
    ·-- one less is to come
     have hperm:((List.range n).filter fun y=>(listed.setIfInBounds (p+x) true)[p+y]? == some false)=((List.range n).filter fun y=>listed[p+y]? == some false).filter fun y=>y != x:=by
      rw [List.filter_filter];apply List.filter_congr;intro y _;by_cases ey:y=x
      ·subst ey; rw [hself]; simp
      ·rw [hset _ (by omega)]; simp [ey]
     rw [hperm]
     have hmem:x ∈ (List.range n).filter fun y=>listed[p+y]? == some false:=by rw [gi]; exact ⟨dw.2 hxn,by simp [k2]⟩
     have hnd:((List.range n).filter fun y=>listed[p+y]? == some false).Nodup:=List.nodup_range.sublist List.filter_sublist;generalize (List.range n).filter (fun y=>listed[p+y]? == some false)=L at hcount hmem hnd;have herase:L.filter (fun y=>y != x)=L.erase x:=(hnd.erase_eq_filter x).symm;rw [herase,List.length_erase_of_mem hmem,hcount];rfl
    ·intro y oy d hy hoy hl hd;rw [fo];by_cases ey:y=x
     ·subst ey; rw [h3] at hoy; cases hoy;rw [if_pos hd,hx' d hd]
     ·rw [hset _ (by omega)] at hl;rw [if_neg (dst_ne x y o' oy d hxn hy (fun e=>ey e.symm) h3 hoy hd)];exact hhit y oy d hy hoy hl hd
    ·intro t hno;rw [fo,if_neg (hno x o' hxn h3 hself)];refine hmiss t fun y oy hy hoy hl=>?_
     by_cases ey:y=x
     ·subst ey; rw [k2] at hl; cases hl
     ·exact hno y oy hy hoy (by rw [hset _ (by omega)]; exact hl)
 intro listed a w hex hat
 have hcount:((List.range n).filter fun x=>listed[p+x]? == some false).length=n:=by
  have:(List.range n).filter (fun x=>listed[p+x]? == some false)=List.range n:=by rw [ud];intro x hx;rw [dw] at hx;rw [hex.2 (p+x) (by omega)];simp
  rw [this,kr]
 have:=main n listed s a w hex.1 (hex.down hb) (fun i hi=>by rw [hex.2 i (by omega)]; simp [hi]) (fun i hi hi'=>by rw [hex.2 i hi']; simp; omega) hcount
  (fun x o d hx ho hl _=>by have h5:=hex.2 (p+x) (by omega);rw [hl] at h5;have h6:=of_decide_eq_true (dr h5).symm;omega) (fun t _=>rfl) hat
 rwa [show ops.size - (p+n)+n=ops.size - p by omega] at this
end
end Go.Abs

namespace Go.Abs
section
variable {E:Env}
theorem LoopRel.same {μ μ':MM} {g:Nat} {st:LoopSt} {p:Option AExit} {sl:List (Nat × AVal)} {r:Loop} (h:LoopRel E μ g st p sl r) (hm:∀ j ∈ AObj.ids (.loop g st p sl),j < μ.length→μ'[j]? = μ[j]?):LoopRel E μ' g st p sl r :=
 ⟨h.code,h.st,h.pend,fun k x hk=>by obtain ⟨v',h1,h2⟩:=h.slots k x hk;refine ⟨v',h1,jx (fun j hj=>hm j ?_) h2⟩;simp only [AObj.ids];exact ny (k:=k) (a:=x.2) (by rw [bk,hk]; rfl) hj⟩
theorem ORel.same {μ μ':MM} {b i:Nat} {w:World} {o:AObj} (h:ORel E μ b i w o) (hi:μ'[i]? = μ[i]?) (hm:∀ j ∈ o.ids,j < μ.length→μ'[j]? = μ[j]?):ORel E μ' b i w o:=by
 cases o with
 | dead=>exact hi.trans h
 | cells esz cs =>
  obtain ⟨m,c,e,fr,h1,h2,h3,h4,h5,h6,h7⟩:=h;refine ⟨m,c,e,fr,hi.trans h1,h2,h3,h4,h5,fun k v hk=>?_,h7⟩;obtain ⟨k1,v',k2,k3⟩:=h6 k v hk;exact ⟨k1,v',k2,jx (fun j hj=>hm j (ny hk hj)) k3⟩
 | map es clock =>
  obtain ⟨m,es',h1,h2,h3,h4⟩:=h;refine ⟨m,es',hi.trans h1,h2,h3,fun k x hk=>?_⟩;obtain ⟨y,y1,y2,y3,y4⟩:=h4 k x hk
  have hin:∀ j,j ∈ x.1.ids∨j ∈ x.2.1.ids→j ∈ AObj.ids (.map es clock):=fun j hj=>by simp only [AObj.ids,dz,bw];exact ⟨x,bn hk,hj⟩
  exact ⟨y,y1,jx (fun j hj=>hm j (hin j (.inl hj))) y2,jx (fun j hj=>hm j (hin j (.inr hj))) y3,y4⟩
 | iter s pos =>
  obtain ⟨m,h1,h2⟩:=h;exact ⟨m,hi.trans h1,h2⟩
 | mapIter r a b c =>
  obtain ⟨m,r',⟨h1,h0⟩,h2,h3⟩:=h;exact ⟨m,r',⟨hi.trans h1,h0⟩,h2,jx (fun j hj=>hm j (by cases r <;> exact hj)) h3⟩
 | loop g st p sl =>
  obtain ⟨m,r,h1,h2,h3⟩:=h;exact ⟨m,r,hi.trans h1,h2,h3.same hm⟩
theorem ORel.moved {μ μ':MM} {b i i':Nat} {w:World} {o:AObj} (h:ORel E μ b i w o) (hi:μ'[i']? = μ[i]?) (hm:∀ j ∈ o.ids,j < μ.length→μ'[j]? = μ[j]?) (hb:b≤i):ORel E μ' b i' w o:=by
 cases o with
 | dead=>exact hi.trans h
 | cells esz cs =>
  obtain ⟨m,c,e,fr,h1,h2,h3,h4,h5,h6,h7⟩:=h;refine ⟨m,c,e,fr,hi.trans h1,h2,h3,h4,h5,fun k v hk=>?_,fun _=>h7 hb⟩;obtain ⟨k1,v',k2,k3⟩:=h6 k v hk;exact ⟨k1,v',k2,jx (fun j hj=>hm j (ny hk hj)) k3⟩
 | map es clock =>
  obtain ⟨m,es',h1,h2,h3,h4⟩:=h;refine ⟨m,es',hi.trans h1,h2,h3,fun k x hk=>?_⟩;obtain ⟨y,y1,y2,y3,y4⟩:=h4 k x hk
  have hin:∀ j,j ∈ x.1.ids∨j ∈ x.2.1.ids→j ∈ AObj.ids (.map es clock):=fun j hj=>by simp only [AObj.ids,dz,bw];exact ⟨x,bn hk,hj⟩
  exact ⟨y,y1,jx (fun j hj=>hm j (hin j (.inl hj))) y2,jx (fun j hj=>hm j (hin j (.inr hj))) y3,y4⟩
 | iter s pos =>
  obtain ⟨m,h1,h2⟩:=h;exact ⟨m,hi.trans h1,h2⟩
 | mapIter r a b c =>
  obtain ⟨m,r',⟨h1,h0⟩,h2,h3⟩:=h;exact ⟨m,r',⟨hi.trans h1,h0⟩,h2,jx (fun j hj=>hm j (by cases r <;> exact hj)) h3⟩
 | loop g st p sl =>
  obtain ⟨m,r,h1,h2,h3⟩:=h;exact ⟨m,r,hi.trans h1,h2,h3.same hm⟩
variable {lo nt:Nat} {μ0:MM} {w0:World} {ds:List Deferred} {s:Slots} {h:Heap} {a:Act} {w:World}
theorem At.move {N r wm:Nat} {d:Option Nat} {x:Slot} {ob:AObj} (hat:At E lo nt μ0 w0 ds (a8 d x s) ⟨h.objs++[ob],h.base,wm⟩ a w) (hN:h.objs.length=N) (hr:h.objs[r]? = some .dead) (hbr:h.base≤r) (h0:μ0.length≤r)
  (hs:∀ t y,sget s t=some y→∀ i ∈ y.ids,i < N∧i≠r) (hx:∀ v,x = .val v→∀ i ∈ v.ids,i≠r) (hxv:∀ cs,x ≠ .var cs) (hob:∀ i ∈ ob.ids,i < N∧i≠r)
  (ho:∀ (k:Nat) (o:AObj),h.objs[k]? = some o→∀ i ∈ o.ids,i < N∧i≠r) :
  At E lo nt μ0 w0 ds (a8 d (x.ren (mv N r)) s) ⟨h.objs.set r ob,h.base,wm⟩ a w:=by
 obtain ⟨μ,ν,k1,k2,k3,k4,k5,k6⟩:=hat;have hrN:r < N:=by rw [← hN]; exact ah hr
 have hlen:μ.length=N+1:=by have:=k2.len; simpa [hN] using this
 let μ':MM:=(μ.take N).set r ((μ[N]?).getD none)
 have hl':μ'.length=N:=by simp [μ',hlen]
 have hat:∀ i,i < N→i≠r→μ'[i]? = μ[i]?:=fun i hi hne=>by simp only [μ'];rw [av (Ne.symm hne),fh,if_pos hi]
 have hatr:μ'[r]? = μ[N]?:=by simp only [μ'];rw [iy,if_pos rfl,if_pos (by simp [hlen]; omega),ai (by omega)];rfl
 have hsame:∀ i,i < N∧i≠r→i < μ.length→μ'[i]? = μ[i]?:=fun i hi _=>hat i hi.1 hi.2
 have hfrom:∀ i m,μ'[i]? = some (some m)→∃ p,μ[p]? = some (some m)∧((i=r∧p=N)∨(i≠r∧p=i∧i < N)):=fun i m hm=>by
  by_cases e:i=r
  ·subst e;exact ⟨N,hatr.symm.trans hm,.inl ⟨rfl,rfl⟩⟩
  ·have hi:i < N:=by rw [← hl']; exact ah hm
   exact ⟨i,(hat i hi e).symm.trans hm,.inr ⟨e,rfl,hi⟩⟩
 refine ⟨μ',ν,?_,?_,?_,k4,k5,k6⟩
 ·refine ⟨k1.os,k1.tape,k1.output,k1.size,k1.block,by rw [hl']; omega,fun i hi=>?_,fun i m hi hm=>?_⟩
  ·rw [hat i (by omega) (by omega)]; exact k1.old i hi
  ·obtain ⟨p,hp,h1 | h1⟩:=hfrom i m hm
   ·exact k1.new p m (by omega) hp
   ·exact k1.new p m (by omega) hp
 ·have hbs:=k2.bs;constructor
  ·rw [hl']; simp [hN]
  ·simp only [bf]; simp at hbs; omega
  ·intro i o hi;simp only at hi ⊢;rw [iy] at hi;split at hi
   ·rename_i e;subst e;split at hi
    ·cases hi;have hb:h.base≤N:=by omega
     exact (k2.obj N ob (by simp [← hN])).moved hatr (fun j hj=>hsame j (hob j hj)) hb
    ·cases hi
   ·rename_i e;have hiN:i < N:=by rw [← hN]; exact ah hi
    exact (k2.obj i o (by rw [ag (by omega)]; exact hi)).same (hat i hiN (Ne.symm e)) fun j hj=>hsame j (ho i o hi j hj)
  ·intro i j mi mj hij hi hmi hmj;obtain ⟨p,hp,hp'⟩:=hfrom i mi hmi;obtain ⟨q,hq,hq'⟩:=hfrom j mj hmj;refine k2.sep p q mi mj ?_ ?_ hp hq
   ·rcases hp' with ⟨a1,a2⟩ | ⟨a1,a2,a3⟩ <;> rcases hq' with ⟨b1,b2⟩ | ⟨b1,b2,b3⟩ <;> omega
   ·simp only at hi ⊢;rcases hp' with ⟨a1,a2⟩ | ⟨a1,a2,a3⟩ <;> omega
  ·intro i m hm;obtain ⟨p,hp,_⟩:=hfrom i m hm;exact k2.lt p m hp
  ·refine k2.tab.less fun i m hi hm=>?_
   obtain ⟨p,hp,hp'⟩:=hfrom i m hm;simp only at hi;exact ⟨p,m,by simp only; rcases hp' with ⟨a1,a2⟩ | ⟨a1,a2,a3⟩ <;> omega,hp,rfl⟩
 ·have hget:∀ t y,sget (a8 d (x.ren (mv N r)) s) t=some y→(d=some t∧y=x.ren (mv N r))∨(d≠some t∧sget s t=some y):=fun t y hy=>by
   rw [fo] at hy;split at hy
   ·rename_i e; cases hy; exact .inl ⟨e,rfl⟩
   ·rename_i e; exact .inr ⟨e,hy⟩
  have hvar:∀ t cs,sget (a8 d (x.ren (mv N r)) s) t=some (.var cs)→sget (a8 d x s) t=some (.var cs)∧∀ i ∈ AVal.idsL cs,i < N∧i≠r:=fun t cs hy=>by
   rcases hget t _ hy with ⟨e,h1⟩ | ⟨e,h1⟩
   ·exfalso;cases x <;> simp [Slot.ren] at h1
    exact hxv _ rfl
   ·exact ⟨by rw [fo,if_neg e]; exact h1,hs t _ h1⟩
  constructor
  ·intro t v hv;rcases hget t _ hv with ⟨e,h1⟩ | ⟨e,h1⟩
   ·cases x with
    | val u =>
     simp only [Slot.ren] at h1;cases h1;obtain ⟨v',j1,j2⟩:=k3.val t u (by rw [fo,if_pos e]);refine ⟨v',j1,pz (mv N r) (fun i hi hl=>?_) j2⟩;unfold mv;split
     ·rename_i e2; subst e2; exact hatr
     ·rename_i e2;exact hat i (by omega) (hx u rfl i hi)
    | _=>simp [Slot.ren] at h1
   ·obtain ⟨v',j1,j2⟩:=k3.val t v (by rw [fo,if_neg e]; exact h1);exact ⟨v',j1,jx (fun i hi=>hsame i (hs t _ h1 i hi)) j2⟩
  ·intro t hv;rcases hget t _ hv with ⟨e,h1⟩ | ⟨e,h1⟩
   ·cases x <;> simp [Slot.ren] at h1
    exact k3.undef t (by rw [fo,if_pos e])
   ·exact k3.undef t (by rw [fo,if_neg e]; exact h1)
  ·intro t cs hv;obtain ⟨j1,j2⟩:=hvar t cs hv;obtain ⟨q1,q2,c,e,fr,q3,q4,q5,q6⟩:=k3.var t cs j1;refine ⟨q1,q2,c,e,fr,q3,q4,fun k v hk=>?_,q6⟩;obtain ⟨z1,v',z2,z3⟩:=q5 k v hk;exact ⟨z1,v',z2,jx (fun i hi=>hsame i (j2 i (ny hk hi))) z3⟩
  ·intro t t' o cs hv hv';obtain ⟨j1,_⟩:=hvar t' cs hv';rcases hget t _ hv with ⟨e,h1⟩ | ⟨e,h1⟩
   ·cases x <;> simp [Slot.ren] at h1
    obtain ⟨rfl,rfl⟩:=h1;exact k3.loc t _ _ cs (by rw [fo,if_pos e]) j1
   ·exact k3.loc t t' o cs (by rw [fo,if_neg e]; exact h1) j1
  ·intro t t' cs cs' hne hv hv';exact k3.sepv t t' cs cs' hne (hvar t cs hv).1 (hvar t' cs' hv').1
  ·intro t cs i m hv hm;obtain ⟨p,hp,_⟩:=hfrom i m hm;exact k3.sepm t cs p m (hvar t cs hv).1 hp
  ·exact k3.ds
  ·refine fun q hq=>⟨fun i m hm=>?_,fun t cs hv=>(k3.sepd q hq).2 t cs (hvar t cs hv).1⟩
   obtain ⟨p,hp,_⟩:=hfrom i m hm;exact (k3.sepd q hq).1 p m hp
  ·exact k3.nodup
end
end Go.Abs

namespace Go.Abs
section
variable {E:Env} {X:Nat→Prop}
theorem At.reserve {lo nt:Nat} {μ0:MM} {w0:World} {ds:List Deferred} {s:Slots} {h:Heap} {a:Act} {w:World} (hat:At E lo nt μ0 w0 ds s h a w) (n:Nat) :
  At E lo nt μ0 w0 ds s ⟨h.objs++List.replicate n .dead,h.base,h.wmin⟩ a w:=by
 obtain ⟨μ,ν,k1,k2,k3,k4,k5,k6⟩:=hat;have hl:Later μ (μ++List.replicate n none):=⟨by simp,fun i hi=>.inl (ag hi)⟩;have hold:∀ i,i < μ.length→(μ++List.replicate n none)[i]? = μ[i]?:=fun i hi=>ag hi
 have hnew:∀ i m,(μ++List.replicate n none)[i]? = some (some m)→μ[i]? = some (some m):=fun i m hm=>by
  rcases bi i μ.length with h1 | h1
  ·rw [← hold i h1]; exact hm
  ·rw [aw h1,gn] at hm;split at hm
   ·cases hm
   ·cases hm
 refine ⟨μ++List.replicate n none,ν,?_,?_,?_,k4,k5,k6⟩
 ·refine ⟨k1.os,k1.tape,k1.output,k1.size,k1.block,cf k1.len hl.len,fun i hi=>?_,fun i m hi hm=>k1.new i m hi (hnew i m hm)⟩;rw [hold i (fg hi k1.len)]; exact k1.old i hi
 ·constructor
  ·simp [k2.len]
  ·have:=k2.bs; simp; omega
  ·intro i o hi;simp only at hi;rcases bi i h.objs.length with h1 | h1
   ·rw [ag h1] at hi;exact (k2.obj i o hi).keep hl fun m hm=>⟨by rw [hold i (by rw [k2.len]; exact h1)]; exact hm,rfl⟩
   ·have hlt:=ah hi;rw [aw h1,gn] at hi;split at hi
    ·cases hi;show (μ++_)[i]? = _;rw [aw (by rw [k2.len]; exact h1),gn,k2.len];rw [if_pos (by assumption)]
    ·cases hi
  ·intro i j mi mj hij hi hmi hmj;exact k2.sep i j mi mj hij hi (hnew _ _ hmi) (hnew _ _ hmj)
  ·intro i m hm; exact k2.lt i m (hnew _ _ hm)
  ·exact k2.tab.less fun i m hi hm=>⟨i,m,hi,hnew _ _ hm,rfl⟩
 ·exact k3.keep hl (fun _ _ _=>rfl) (fun t cs i m hv hi hm=>k3.sepm t cs i m hv (hnew _ _ hm)) fun r hr=>⟨rfl,fun i m hi hm=>(k3.sepd r hr).1 i m (hnew _ _ hm)⟩
theorem At.ids {lo nt:Nat} {μ0:MM} {w0:World} {ds:List Deferred} {s:Slots} {h:Heap} {a:Act} {w:World} (hat:At E lo nt μ0 w0 ds s h a w) :
  (∀ t y,sget s t=some y→∀ i ∈ y.ids,i < h.size)∧(∀ (k:Nat) (o:AObj),h.objs[k]? = some o→∀ i ∈ o.ids,i < h.size)∧μ0.length≤h.size:=by
 obtain ⟨μ,ν,k1,k2,k3,k4,k5,k6⟩:=hat;have hlen:μ.length=h.size:=k2.len
 have hcells:∀ {cs:List AVal} {c:Array Value} {b:Nat},CRel E μ cs c b→∀ i ∈ AVal.idsL cs,i < h.size:=by
  intro cs c b hc i hi
  have:∀ {cs:List AVal},i ∈ AVal.idsL cs→∃ (k:Nat) (v:AVal),cs[k]? = some v∧i ∈ v.ids:=by
   intro cs;induction cs with
   | nil=>intro h; simp [AVal.idsL] at h
   | cons v cs ih =>
    intro h;simp only [AVal.idsL,bw] at h;rcases h with h | h
    ·exact ⟨0,v,rfl,h⟩
    ·obtain ⟨k,v',h1,h2⟩:=ih h;exact ⟨k+1,v',by simpa using h1,h2⟩
  obtain ⟨k,v,h1,h2⟩:=this hi;obtain ⟨_,v',_,h3⟩:=hc k v h1;rw [← hlen]; exact h3.ids_lt i h2
 refine ⟨fun t y hy i hi=>?_,fun k o ho i hi=>?_,by rw [← hlen]; exact k1.len⟩
 ·cases y with
  | val v =>
   obtain ⟨v',_,h2⟩:=k3.val t v hy;rw [← hlen]; exact h2.ids_lt i hi
  | var cs =>
   obtain ⟨_,_,c,e,fr,_,_,h5,_⟩:=k3.var t cs hy;exact hcells h5 i hi
  | _=>simp [Slot.ids] at hi
 ·have:=k2.obj k o ho;cases o with
  | dead=>simp [AObj.ids] at hi
  | cells esz cs =>
   obtain ⟨m,c,e,fr,_,_,_,_,_,h6,_⟩:=this;exact hcells h6 i hi
  | map es clock =>
   obtain ⟨m,es',_,_,_,h4⟩:=this;simp only [AObj.ids,dz,bw] at hi;obtain ⟨x,hx,hi⟩:=hi;obtain ⟨k',hk'⟩:=ig hx;obtain ⟨y,_,h5,h6,_⟩:=h4 k' x hk';rw [← hlen];rcases hi with hi | hi
   ·exact h5.ids_lt i hi
   ·exact h6.ids_lt i hi
  | iter s pos=>simp [AObj.ids] at hi
  | mapIter r a b c =>
   obtain ⟨m,r',_,_,h3⟩:=this;rw [← hlen];exact h3.ids_lt i (by cases r <;> exact hi)
  | loop g st p sl =>
   obtain ⟨m,r,_,_,h3⟩:=this;simp only [AObj.ids] at hi
   have:∀ {l:List AVal},i ∈ AVal.idsL l→∃ (k:Nat) (v:AVal),l[k]? = some v∧i ∈ v.ids:=by
    intro l;induction l with
    | nil=>intro h; simp [AVal.idsL] at h
    | cons v l ih =>
     intro h;simp only [AVal.idsL,bw] at h;rcases h with h | h
     ·exact ⟨0,v,rfl,h⟩
     ·obtain ⟨k,v',h1,h2⟩:=ih h;exact ⟨k+1,v',by simpa using h1,h2⟩
   obtain ⟨k,v,h1,h2⟩:=this hi;rw [bk,ae] at h1;obtain ⟨x,hx,rfl⟩:=h1;obtain ⟨v',_,h4⟩:=h3.slots k x hx;rw [← hlen]; exact h4.ids_lt i h2
theorem noCall_ok (E:Env):CallOK E noCall:=⟨fun _ _ _ _ _ h=>by simp [noCall] at h,fun _ _ _ _ _ _ _ _ _ _ h=>by simp [noCall] at h⟩
theorem x7:CallEvol noCall:=fun _ _ _ _ _ h=>by simp [noCall] at h
variable {ops:Array Oper} {lo nt:Nat} {μ0:MM} {w0:World} {ds:List Deferred} {s:Slots} {a:Act} {w:World} {Q:Exit→Act→World→Prop} {ro:Option Nat}
theorem qi (hg:GidOK E) {loc:Bool} {o:Oper} {o':AOper} {s1:Slots} {h1:Heap} {os:List AObj} {base wm N:Nat} (hop:ky E nt ops loc o=some o')
  (hev:fe noCall o' s ⟨os,base,N⟩=some (s1,h1)) (hw:wm≤h1.wmin) (hat:At E lo nt μ0 w0 ds s ⟨os,base,wm⟩ a w) {next:Act→World→Prop} (hn:∀ a' w',At E lo nt μ0 w0 ds s1 ⟨h1.objs,base,wm⟩ a' w'→next a' w') :
  if Region.wanted o (yielded ops a.tmps) then o.wpIn (F0 ro) 0 E.P a w next Q else next (a.put o.dst Go.undef) w:=by
 obtain ⟨μ,ν,k1,k2,k3,k4,k5,k6⟩:=hat;have hevol:=me x7 hev;have hat':At E lo nt μ w ds s ⟨os,base,N⟩ a w:=⟨μ,ν,Step.refl _ _ _ _,k2.same rfl rfl rfl,k3,k4,k5,k6⟩;refine pm (noCall_ok E) x7 hg hop hev hat' fun a' w' hat1=>hn a' w' ?_
 obtain ⟨μ',ν',j1,j2,j3,j4,j5,j6⟩:=hat1;exact ⟨μ',ν',k1.trans (j1.weaken hw fun _ h _=>h) (aj _),j2.same rfl hevol.base.symm rfl,j3,j4,j5,j6⟩
theorem pg {call:CallSem} {o:AOper} {h1 h2:Heap} {s':Slots} {h':Heap} (hso:soft o.op=true) (hcc:o.op.isCall=false) (hb:h2.base=h1.base) (ha:∀ x ∈ fk o.op,∀ v,x.ev s=some v→∀ i ∈ v.ids,h2.get i=h1.get i)
  (e:fe call o s h1=some (s',h')) :
  (∃ x,s'=a8 o.dst x s∧h'=h1∧fe call o s h2=some (a8 o.dst x s,h2)) ∨
  (∃ ob f,NewF f∧s'=a8 o.dst (f h1.size) s∧h'=h1.push ob∧fe call o s h2=some (a8 o.dst (f h2.size) s,h2.push ob)) ∨
   (∃ i ob f,NewF f∧h1.base≤i∧i < h1.size∧i ∈ fj o.op s∧s'=a8 o.dst (f h1.size) s∧h'=(h1.put i .dead).push ob∧fe call o s h2=some (a8 o.dst (f h2.size) s,(h2.put i .dead).push ob)) ∨
   (∃ i ob v,h1.base≤i∧i < h1.size∧i ∈ fj o.op s∧s'=a8 o.dst (.val v) s∧h'=h1.put i ob∧fe call o s h2=some (s',h2.put i ob)):=by
 have run:∀ {s' h'},evRun call o s h1=some (s',h')→(∃ x,s'=a8 o.dst x s∧h'=h1∧evRun call o s h2=some (a8 o.dst x s,h2)) ∨
  (∃ ob f,NewF f∧s'=a8 o.dst (f h1.size) s∧h'=h1.push ob∧evRun call o s h2=some (a8 o.dst (f h2.size) s,h2.push ob)) ∨
   (∃ i ob f,NewF f∧h1.base≤i∧i < h1.size∧i ∈ fj o.op s∧s'=a8 o.dst (f h1.size) s∧h'=(h1.put i .dead).push ob∧evRun call o s h2=some (a8 o.dst (f h2.size) s,(h2.put i .dead).push ob)) ∨
   (∃ i ob v,h1.base≤i∧i < h1.size∧i ∈ fj o.op s∧s'=a8 o.dst (.val v) s∧h'=h1.put i ob∧evRun call o s h2=some (s',h2.put i ob)):=by
  intro s' h' e;unfold evRun at e ⊢;split at e;case h_2=>cases e
  rename_i x s1 h3 he;cases e;obtain ⟨rfl,hm⟩:=op_heap (d:=o.dst.getD 0) hso hcc hb ha x s1 _ he;rcases hm with ⟨rfl,hm⟩ | ⟨ob,f,hf,rfl,rfl,hm⟩ | ⟨i,ob,f,hf,hi,hi2,hi3,rfl,rfl,hm⟩ | ⟨i,ob,hi,hi2,hi3,⟨v,rfl⟩,rfl,hm⟩
  ·exact .inl ⟨x,rfl,rfl,by rw [hm]⟩
  ·exact .inr (.inl ⟨ob,f,hf,rfl,rfl,by rw [hm]⟩)
  ·exact .inr (.inr (.inl ⟨i,ob,f,hf,hi,hi2,hi3,rfl,rfl,by rw [hm]⟩))
  ·exact .inr (.inr (.inr ⟨i,ob,v,hi,hi2,hi3,rfl,rfl,by rw [hm]⟩))
 unfold fe at e ⊢;split at e
 ·exact run e
 ·rename_i t want hg;split at e
  ·split at e
   ·rename_i hbw;rw [if_pos hbw];exact run e
   ·rename_i hbw;rw [if_neg hbw];cases e;exact .inl ⟨.undef,rfl,rfl,rfl⟩
  ·cases e;exact .inl ⟨.undef,rfl,rfl,rfl⟩
  ·cases e
end
end Go.Abs

namespace Go.Abs
section
variable {E:Env} {nt:Nat} {s:Slots} {ops:Array Oper} {locs:List Nat} {aZ:List AOper} {Q:Exit→Act→World→Prop} {ro:Option Nat}
def Ld (listed:Array Bool) (p n x:Nat):Bool:=decide (x < n) && (listed[p+x]? == some true)
theorem any_order (has:lq E nt ops locs 0 ops.toList=some aZ) (hb:edgesBack ops=true)
  {p n:Nat} (hpn:p+n≤aZ.length) (hw1:waits (befs ops.toList []) (p+n)=true)
  (hap:∀ x y oi oj,x < n→y < n→aZ[p+x]? = some oi→aZ[p+y]? = some oj→apart (befs ops.toList []) (p+x) (p+y) oi oj=true)
  (S:Nat→Slots) (r:Nat→Slot) (b2:S 0=s) (text:∀ x o',x < n→aZ[p+x]? = some o'→S (x+1)=a8 o'.dst (r x) (S x)∧(∀ cs,r x ≠ .var cs)∧∀ d,o'.dst=some d→isVar (S x) d=false)
  (Inv:(Nat→Bool)→Slots→Act→World→Prop)
  (hstep:∀ (L:Nat→Bool) (sD:Slots) (a:Act) (w:World) (x:Nat) (o:Oper) (o':AOper),x < n→ops[p+x]? = some o→aZ[p+x]? = some o'→ky E nt ops (locs.contains (p+x)) o=some o'→L x=false →
   (∀ y,y < n→((befs ops.toList []).getD (p+x) 0).testBit (p+y)=true→L y=true)→(∀ y,y < n→L y=true→((befs ops.toList []).getD (p+y) 0).testBit (p+x)=false)→Agree (S x) sD o'.reads→Inv L sD a w →
   ∀ (next:Act→World→Prop),(∀ a' w',Inv (fun y=>y == x || L y) (a8 o'.dst (r x) sD) a' w'→next a' w')→if Region.wanted o (yielded ops a.tmps) then o.wpIn (F0 ro) 0 E.P a w next Q else next (a.put o.dst Go.undef) w)
  (hk:∀ listed' sD a' w',Exact ops listed' (p+n)→(∀ t,sget sD t=sget (S n) t)→Inv (fun x=>decide (x < n)) sD a' w'→wpAnyIn (F0 ro) 0 E.P .any ops Q (ops.size - (p+n)) listed' a' w') :
  ∀ listed a w,Exact ops listed p→Inv (fun _=>false) s a w→wpAnyIn (F0 ro) 0 E.P .any ops Q (ops.size - p) listed a w:=by
 obtain ⟨q1,q2⟩:=kx _ _ _ has;simp only [gr] at q1;have hchain:=m7 (ops:=ops) ops.toList [] (by simp) (fun k i hk=>by simp at hk);have hblen:=li ops.toList [];simp only [ep,ed,gr] at hblen
 have opat:∀ x,x < n→∃ o o',ops[p+x]? = some o∧aZ[p+x]? = some o'∧ky E nt ops (locs.contains (p+x)) o=some o':=by
  intro x hx;have hlt:p+x < ops.size:=by omega
  obtain ⟨o',h2,h3⟩:=q2 (p+x) ops[p+x] (by simp [hlt]);exact ⟨ops[p+x],o',by simp [hlt],h2,by simpa using h3⟩
 have dst_ne:∀ x y oi oj d,x < n→y < n→x≠y→aZ[p+x]? = some oi→aZ[p+y]? = some oj→oj.dst=some d→oi.dst≠some d:=by
  intro x y oi oj d hx hy hne hi hj hd e;have:=hap x y oi oj hx hy hi hj;unfold apart at this;rw [hd] at this;simp only [a7,dt,beq_iff_eq,bne_iff_ne] at this;rcases this.1 with h2 | h2
  ·omega
  ·exact h2 e
 have text_hit:∀ x y o d,x≤n→y < x→aZ[p+y]? = some o→o.dst=some d→sget (S x) d=some (r y):=by
  intro x;induction x with
  | zero=>intro y o d _ hy; omega
  | succ x ih =>
   intro y o d hx hy ho hd;obtain ⟨_,o',_,ho',_⟩:=opat x (by omega);obtain ⟨t2,_,_⟩:=text x o' (by omega) ho';rw [t2,fo];by_cases e:y=x
   ·subst e; rw [ho] at ho'; cases ho'; rw [if_pos hd]
   ·rw [if_neg (dst_ne x y o' o d (by omega) (by omega) (fun e'=>e e'.symm) ho' ho hd)];exact ih y o d (by omega) (by omega) ho hd
 have text_miss:∀ x t,x≤n→(∀ y o,y < x→aZ[p+y]? = some o→o.dst≠some t)→sget (S x) t=sget s t:=by
  intro x;induction x with
  | zero=>intro t _ _; rw [b2]
  | succ x ih =>
   intro t hx hno;obtain ⟨_,o',_,ho',_⟩:=opat x (by omega);obtain ⟨t2,_,_⟩:=text x o' (by omega) ho';rw [t2,fo,if_neg (hno x o' (by omega) ho')];exact ih t (by omega) fun y o hy=>hno y o (by omega)
 have dst_novar:∀ x o d cs,x < n→aZ[p+x]? = some o→o.dst=some d→sget s d≠some (.var cs):=by
  intro x o d cs hx ho hd hv;obtain ⟨_,_,t4⟩:=text x o hx ho;have h2:=t4 d hd;have h3:sget (S x) d=sget s d:=text_miss x d (by omega) fun y o2 hy ho2=>dst_ne y x o2 o d (by omega) hx (by omega) ho2 ho hd
  unfold isVar at h2;rw [h3,hv] at h2;simp at h2
 have main:∀ (k:Nat) (listed:Array Bool) (sD:Slots) (a:Act) (w:World),listed.size=ops.size→Down ops listed→(∀ i,i < p→listed[i]? = some true)→(∀ i,p+n≤i→i < ops.size→listed[i]? = some false) →
   ((List.range n).filter fun x=>listed[p+x]? == some false).length=k →
   (∀ x o d,x < n→aZ[p+x]? = some o→listed[p+x]? = some true→o.dst=some d→sget sD d=some (r x)) →
   (∀ t,(∀ x o,x < n→aZ[p+x]? = some o→listed[p+x]? = some true→o.dst≠some t)→sget sD t=sget s t) →
   Inv (Ld listed p n) sD a w→wpAnyIn (F0 ro) 0 E.P .any ops Q (ops.size - (p+n)+k) listed a w:=by
  intro k;induction k with
  | zero =>
   intro listed sD a w hsz hdn hlow hhigh hcount hhit hmiss hat
   have hall:∀ x,x < n→listed[p+x]? = some true:=by
    intro x hx;have hlt:p+x < listed.size:=by omega
    have hmem:x ∉ (List.range n).filter fun x=>listed[p+x]? == some false:=by rw [cg hcount]; simp
    rw [gi] at hmem;have h2:¬ (listed[p+x]? = some false):=fun h2=>hmem ⟨dw.2 hx,by simp [h2]⟩
    rw [lj hlt] at h2 ⊢;cases hv:listed[p+x] with
    | true=>rfl
    | false=>rw [hv] at h2; exact absurd rfl h2
   have hex:Exact ops listed (p+n):=by
    refine ⟨hsz,fun i hi=>?_⟩;rcases bi i p with h2 | h2
    ·rw [hlow i h2]; simp; omega
    ·rcases bi i (p+n) with h3 | h3
     ·have:=hall (i - p) (by omega);rw [show p+(i - p)=i by omega] at this;rw [this]; simp [h3]
     ·rw [hhigh i h3 hi]; simp; omega
   have hLd:Ld listed p n=fun x=>decide (x < n):=by
    funext x
    unfold Ld;by_cases hx:x < n
    ·rw [hall x hx]; simp [hx]
    ·simp [hx]
   rw [hLd] at hat;refine hk listed sD a w hex (fun t=>?_) hat;by_cases hx:∃ x o,x < n∧aZ[p+x]? = some o∧o.dst=some t
   ·obtain ⟨x,o,h2,h3,h4⟩:=hx;rw [text_hit n x o t (aj _) h2 h3 h4,hhit x o t h2 h3 (hall x h2) h4]
   ·have hno:∀ x o,x < n→aZ[p+x]? = some o→o.dst≠some t:=fun x o h2 h3 h4=>hx ⟨x,o,h2,h3,h4⟩
    rw [text_miss n t (aj _) hno,hmiss t fun x o h2 h3 _=>hno x o h2 h3]
  | succ k ih =>
   intro listed sD a w hsz hdn hlow hhigh hcount hhit hmiss hat
   have hsome:∃ x,x < n∧listed[p+x]? = some false:=by
    have hne:(List.range n).filter (fun x=>listed[p+x]? == some false)≠[]:=fun e=>by rw [e] at hcount; simp at hcount
    obtain ⟨x,hx⟩:=List.exists_mem_of_ne_nil _ hne;rw [gi,dw] at hx;exact ⟨x,hx.1,by simpa using hx.2⟩
   obtain ⟨xu,hxu,hxf⟩:=hsome;refine ⟨fun hr=>?_,fun i hi=>?_⟩
   ·have:=pq hb hsz hr (p+xu) (by omega);rw [hxf] at this; cases this
   ·obtain ⟨oi,k1,k2,k3⟩:=og hsz hi;have his:i < ops.size:=ah (l:=ops.toList) (by simpa using k1)
    have hip:p≤i:=by
     rcases bi i p with h2 | h2
     ·rw [hlow i h2] at k2; cases k2
     ·exact h2
    have hin:i < p+n:=by
     rcases bi i (p+n) with h2 | h2
     ·exact h2
     ·exfalso;have hbit:=tg hw1 (j:=i) (i:=p+xu) (by rw [hblen]; exact his) h2 (by omega);have hl:=iz hdn (hchain _ _ hbit) fun o e ho he hbb=>by rw [k1] at ho; cases ho; exact k3 e he hbb
      rw [hxf] at hl; cases hl
    obtain ⟨x,rfl⟩:∃ x,i=p+x:=⟨i - p,by omega⟩;have hxn:x < n:=by omega
    obtain ⟨o,o',h2,h3,h4⟩:=opat x hxn;rw [h2] at k1; cases k1;obtain ⟨t2,t3,t4⟩:=text x o' hxn h3
    have waitsl:∀ j,(((befs ops.toList []).getD (p+x) 0).testBit j=true)→listed[j]? = some true:=fun j hbit =>
     iz hdn (hchain _ _ hbit) fun o2 e ho he hbb=>by rw [h2] at ho; cases ho; exact k3 e he hbb
    have hag:Agree (S x) sD o'.reads:=by
     refine Agree.of ?_ ?_
     ·intro t ht;by_cases hy:∃ y oj,y < n∧aZ[p+y]? = some oj∧oj.dst=some t
      ·obtain ⟨y,oj,hy1,hy2,hy3⟩:=hy;have others:∀ z oz,z < n→z≠y→aZ[p+z]? = some oz→oz.dst≠some t:=fun z oz hz hne hoz=>dst_ne z y oz oj t hz hy1 hne hoz hy2 hy3
       by_cases hxy:y=x
       ·-- its own slot
        subst hxy;rw [text_miss y t (by omega) fun z oz hz hoz=>others z oz (by omega) (by omega) hoz]
        rw [hmiss t fun z oz hz hoz hl=>by
         by_cases e:z=y
         ·subst e; rw [k2] at hl; cases hl
         ·exact others z oz hz e hoz]
       ·have:=hap x y o' oj hxn hy1 h3 hy2;unfold apart at this;rw [hy3] at this;simp only [a7,dt,beq_iff_eq,fp,List.contains_eq_mem,decide_eq_false_iff_not,decide_eq_true_eq] at this;rcases this.2 with ((h5 | h5) | h5) | h5
        ·omega
        ·exact absurd ht h5
        ·obtain ⟨h5,h6⟩:=h5;rw [text_hit x y oj t (by omega) (by omega) hy2 hy3,hhit y oj t hy1 hy2 (waitsl _ h6) hy3]
        ·obtain ⟨h5,h6⟩:=h5
         have hnl:listed[p+y]?≠some true:=by
          intro hl;have:=iz hdn (hchain _ _ h6) fun o2 e ho he hbb=>hdn _ _ _ hl ho he hbb
          rw [k2] at this; cases this
         rw [text_miss x t (by omega) fun z oz hz hoz=>others z oz (by omega) (by omega) hoz]
         rw [hmiss t fun z oz hz hoz hl=>by
          by_cases e:z=y
          ·subst e; exact absurd hl hnl
          ·exact others z oz hz e hoz]
      ·have hno:∀ z oz,z < n→aZ[p+z]? = some oz→oz.dst≠some t:=fun z oz hz hoz hd=>hy ⟨z,oz,hz,hoz,hd⟩
       rw [text_miss x t (by omega) fun z oz hz hoz=>hno z oz (by omega) hoz,hmiss t fun z oz hz hoz _=>hno z oz hz hoz]
     ·intro t cs
      have v1:sget (S x) t=some (.var cs) ↔ sget s t=some (.var cs):=by
       by_cases hy:∃ y oj,y < x∧aZ[p+y]? = some oj∧oj.dst=some t
       ·obtain ⟨y,oj,hy1,hy2,hy3⟩:=hy;rw [text_hit x y oj t (by omega) hy1 hy2 hy3];constructor
        ·intro e; exact absurd (dr e) ((text y oj (by omega) hy2).2.1 cs)
        ·intro e; exact absurd e (dst_novar y oj t cs (by omega) hy2 hy3)
       ·rw [text_miss x t (by omega) fun z oz hz hoz hd=>hy ⟨z,oz,hz,hoz,hd⟩]
      have v2:sget sD t=some (.var cs) ↔ sget s t=some (.var cs):=by
       by_cases hy:∃ y oj,y < n∧aZ[p+y]? = some oj∧listed[p+y]? = some true∧oj.dst=some t
       ·obtain ⟨y,oj,hy1,hy2,hyl,hy3⟩:=hy;rw [hhit y oj t hy1 hy2 hyl hy3];constructor
        ·intro e; exact absurd (dr e) ((text y oj hy1 hy2).2.1 cs)
        ·intro e; exact absurd e (dst_novar y oj t cs hy1 hy2 hy3)
       ·rw [hmiss t fun z oz hz hoz hl hd=>hy ⟨z,oz,hz,hoz,hl,hd⟩]
      exact v1.trans v2.symm
    have hLx:Ld listed p n x=false:=by unfold Ld; rw [k2]; simp
    refine vu h2 (hstep (Ld listed p n) sD a w x _ o' hxn h2 h3 h4 hLx (fun y hy hbit=>?_) (fun y hy hl=>?_) hag hat _ fun a' w' hat'=>?_)
    ·unfold Ld; rw [waitsl _ hbit]; simp [hy]
    ·have hl':listed[p+y]? = some true:=by unfold Ld at hl; simpa [hy] using hl
     cases hbit:((befs ops.toList []).getD (p+y) 0).testBit (p+x) with
     | false=>rfl
     | true =>
      exfalso;have:=iz hdn (hchain _ _ hbit) fun o2 e ho he hbb=>hdn _ _ _ hl' ho he hbb
      rw [k2] at this; cases this
    have hset:∀ j,j≠p+x→(listed.setIfInBounds (p+x) true)[j]? = listed[j]?:=fun j hj=>eh (fun e=>hj e.symm)
    have hself:(listed.setIfInBounds (p+x) true)[p+x]? = some true:=by simp [hsz,his]
    have hLd':(fun y=>y == x || Ld listed p n y)=Ld (listed.setIfInBounds (p+x) true) p n:=by
     funext y
     unfold Ld;by_cases ey:y=x
     ·subst ey; rw [hself]; simp [hxn]
     ·rw [hset (p+y) (by omega)]; simp [ey]
    rw [hLd'] at hat';refine ih (listed.setIfInBounds (p+x) true) (a8 o'.dst (r x) sD) a' w' (by simp [hsz]) ?_ ?_ ?_ ?_ ?_ ?_ hat'
    ·intro j oj e hj hoj he hbb;by_cases ej:j=p+x
     ·subst ej;rw [h2] at hoj; cases hoj;have:=k3 e he hbb;by_cases ee:e.on=p+x
      ·rw [ee]; exact hself
      ·rw [hset _ ee]; exact this
     ·rw [hset _ ej] at hj;have:=hdn j oj e hj hoj he hbb;by_cases ee:e.on=p+x
      ·rw [ee]; exact hself
      ·rw [hset _ ee]; exact this
    ·intro j hj; rw [hset j (by omega)]; exact hlow j hj
    ·intro j hj hj'; rw [hset j (by omega)]; exact hhigh j hj hj'
    ·-- one less is to come
     have hperm:((List.range n).filter fun y=>(listed.setIfInBounds (p+x) true)[p+y]? == some false)=((List.range n).filter fun y=>listed[p+y]? == some false).filter fun y=>y != x:=by
      rw [List.filter_filter];apply List.filter_congr;intro y _;by_cases ey:y=x
      ·subst ey; rw [hself]; simp
      ·rw [hset _ (by omega)]; simp [ey]
     rw [hperm]
     have hmem:x ∈ (List.range n).filter fun y=>listed[p+y]? == some false:=by rw [gi]; exact ⟨dw.2 hxn,by simp [k2]⟩
     have hnd:((List.range n).filter fun y=>listed[p+y]? == some false).Nodup:=List.nodup_range.sublist List.filter_sublist;generalize (List.range n).filter (fun y=>listed[p+y]? == some false)=L at hcount hmem hnd;have herase:L.filter (fun y=>y != x)=L.erase x:=(hnd.erase_eq_filter x).symm;rw [herase,List.length_erase_of_mem hmem,hcount];rfl
    ·intro y oy d hy hoy hl hd;rw [fo];by_cases ey:y=x
     ·subst ey; rw [h3] at hoy; cases hoy;rw [if_pos hd]
     ·rw [hset _ (by omega)] at hl;rw [if_neg (dst_ne x y o' oy d hxn hy (fun e=>ey e.symm) h3 hoy hd)];exact hhit y oy d hy hoy hl hd
    ·intro t hno;rw [fo,if_neg (hno x o' hxn h3 hself)];refine hmiss t fun y oy hy hoy hl=>?_
     by_cases ey:y=x
     ·subst ey; rw [k2] at hl; cases hl
     ·exact hno y oy hy hoy (by rw [hset _ (by omega)]; exact hl)
 intro listed a w hex hat
 have hcount:((List.range n).filter fun x=>listed[p+x]? == some false).length=n:=by
  have:(List.range n).filter (fun x=>listed[p+x]? == some false)=List.range n:=by rw [ud];intro x hx;rw [dw] at hx;rw [hex.2 (p+x) (by omega)];simp
  rw [this,kr]
 have hL0:Ld listed p n=fun _=>false:=by
  funext x
  unfold Ld;by_cases hx:x < n
  ·rw [hex.2 (p+x) (by omega)]; simp
  ·simp [hx]
 rw [← hL0] at hat
 have:=main n listed s a w hex.1 (hex.down hb) (fun i hi=>by rw [hex.2 i (by omega)]; simp [hi]) (fun i hi hi'=>by rw [hex.2 i hi']; simp; omega) hcount
  (fun x o d hx ho hl _=>by have h5:=hex.2 (p+x) (by omega);rw [hl] at h5;have h6:=of_decide_eq_true (dr h5).symm;omega) (fun t _=>rfl) hat
 rwa [show ops.size - (p+n)+n=ops.size - p by omega] at this
end
end Go.Abs

namespace Go.Abs
section
variable {E:Env} {lo nt:Nat} {ν:Fr} {μ:MM} {s:Slots} {h:Heap} {a:Act} {w:World} {call:CallSem} {ro:Option Nat} {ops:Array Oper}
theorem cOp_call {loc:Bool} {o:Oper} {ao:AOp} (hao:cOp E loc o.op=some ao) (hcl:(∃ f aZ,ao = .call f aZ)∨(∃ g aZ,ao = .callg g aZ)):∃ c,o.op = .call c∧cCall E c=some ao:=by
  cases ho:o.op with
  | call c=>exact ⟨c,rfl,by rw [ho] at hao; simpa only [cOp] using hao⟩
  | makeFunc fn x1 x2 =>
    rw [ho] at hao;exfalso;cases fn <;> simp only [cOp] at hao <;> (try (cases hao; done))
    rcases hcl with ⟨f,aZ,rfl⟩ | ⟨g,aZ,rfl⟩ <;> (split at hao <;> cases hao)
  | makeMap t hint =>
    rw [ho] at hao;exfalso
    rcases hcl with ⟨f,aZ,rfl⟩ | ⟨g,aZ,rfl⟩ <;>
      (cases hint with
       | none=>simp [cOp] at hao
       | some y =>
         cases y with
         | const v=>cases v <;> simp only [cOp] at hao <;> first | (cases hao; done) | (split at hao <;> cases hao)
         | _=>simp [cOp] at hao)
  | _ =>
    rw [ho] at hao;exfalso
    rcases hcl with ⟨f,aZ,rfl⟩ | ⟨g,aZ,rfl⟩ <;>
      (simp only [cOp,cBin,cConv,cEq] at hao
       repeat' split at hao
       all_goals first
         | (cases hao; done)
         | (rw [ae] at hao; obtain ⟨_,_,hao⟩:=hao; first | (cases hao; done) | (split at hao <;> cases hao)))
def SlotIs (E:Env) (μ:MM) (x:Slot) (v:Value):Prop:=(x = .undef∧v=Go.undef)∨∃ u,x = .val u∧VRel E μ u v
theorem call_step (hc:CallOK E call) (hg:GidOK E) {loc:Bool} {o:Oper} {o':AOper} {s':Slots} {h':Heap} (hop:ky E nt ops loc o=some o') (hcl:o'.op.isCall=true) (hev:fe call o' s h=some (s',h'))
    (k3:FRel E lo ν μ (sget s) a.tmps w) (k2:Rel E μ h w) {next:Act→World→Prop} {Q:Exit→Act→World→Prop}
    (hn:∀ x v w' μ',s'=a8 o'.dst x s→SlotIs E μ' x v→Step (fun _=>False) h'.wmin μ w μ' w'→Rel E μ' h' w'→next (a.put o.dst v) w') :
    if Region.wanted o (yielded ops a.tmps) then o.wpIn (F0 ro) 0 E.P a w next Q else next (a.put o.dst Go.undef) w:=by
  unfold ky at hop;split at hop;case isFalse=>cases hop
  rename_i hh
  have run:o'.dst=o.dst→o'.op=cOpS E loc o.op→evRun call o' s h=some (s',h')→o.wpIn (F0 ro) 0 E.P a w next Q:=by
    intro e1 e0 hev
    have ho2:∃ ao,cOp E loc o.op=some ao∧o'.op=ao:=by
      cases hco:cOp E loc o.op with
      | some ao=>exact ⟨ao,rfl,by rw [e0,cOpS,hco]⟩
      | none=>rw [e0,cOpS,hco] at hcl; simp [AOp.isCall] at hcl
    obtain ⟨ao,hao,e2⟩:=ho2;rw [e2] at hcl
    have hcl2:(∃ f aZ,ao = .call f aZ)∨(∃ g aZ,ao = .callg g aZ):=by
      cases ao <;> simp only [AOp.isCall,de] at hcl
      · exact .inl ⟨_,_,rfl⟩
      · exact .inr ⟨_,_,rfl⟩
    unfold evRun at hev;rw [e2] at hev;split at hev;case h_2=>cases hev
    rename_i x s1 h1 hop1;injection hev with hev;injection hev with hev1 hev2;subst hev2;have hnd:∀ c,o.op ≠ .defer c:=fun c hc'=>by rw [hc'] at hao; simp [cOp] at hao
    refine ⟨fun _ _=>trivial,?_⟩;rw [Oper.semAt_eq _ _ _ hnd]
    have ends:∀ (v:AVal) (e:Ending) (w':World),Ends E μ w v h1 e w'→x = .val v→s1=s→(match e with | .returned v=>next (a.put o.dst v) w' | .panicked chain=>Q (.panic chain) a w' | .outgrown=>LetsOut Q):=by rintro v e w' ⟨v',μ',rfl,j1,j2,j3⟩ hx hs;subst hx; subst hs;exact hn _ _ _ μ' hev1.symm (.inr ⟨v,rfl,j2⟩) j1 j3
    have callcase:∀ (g:Nat) (f:FuncId) (aZ:List AVal) (args':Array Value) (v:AVal),call g aZ h=some (v,h1)→E.gid f=some g→VRels E μ aZ args'.toList →
        (execOp a.eval o).run E.P w = .ok (.enter f args') w→x = .val v→s1=s→o.uponIn (F0 ro) 0 E.P a next Q ((execOp a.eval o).run E.P w):=by
      intro g f aZ args' v hcall hgf hargs hrun hx hs;rw [hrun,Oper.uponIn_enter];refine ⟨fun hh=>by simp [F0,Fence.wide] at hh,?_⟩
      exact CallsIn.mono (F:=F0 ro) (n:=0) (hc.fn g aZ h v h1 hcall f hgf μ w args' hargs k2) fun e w' he=>by have:=ends v e w' he hx hs;cases e <;> exact this
    have roundcase:∀ (g i:Nat) (aZ:List AVal) (args':Array Value) (v:AVal) (st:LoopSt) (p:Option AExit) (sl:List (Nat × AVal)),call g (.ptr (some (i,0)) :: aZ) h=some (v,h1)→h.get i=some (.loop g st p sl)→VRels E μ aZ args'.toList →
        (∀ (m:M),μ[i]? = some (some m)→(execOp a.eval o).run E.P w=(Instr.yield m.blk args').run E.P w)→x = .val v→s1=s→o.uponIn (F0 ro) 0 E.P a next Q ((execOp a.eval o).run E.P w):=by
      intro g i aZ args' v st p sl hcall hgi hargs hrun hx hs;obtain ⟨m,r,q1,q2,q3,q4⟩:=hc.round g i 0 aZ h v h1 st p sl hcall hgi μ w args' hargs k2;rw [hrun m q1,run_yield q2 q3,Oper.uponIn_round];refine ⟨fun hh=>by simp [F0,Fence.wide] at hh,?_⟩
      exact RoundIn.mono (F:=F0 ro) (n:=0) q4 fun e w' he=>by have:=ends v e w' he hx hs;cases e <;> exact this
    obtain ⟨c,hcop,hcc⟩:=cOp_call hao hcl2;have hcl:=hcl2;unfold cCall at hcc;split at hcc
    · rename_i f hcal
      split at hcc
      case h_2 =>
        exfalso;rw [ae] at hcc;obtain ⟨_,_,hcc⟩:=hcc;rcases hcl with ⟨f,aZ,rfl⟩ | ⟨g,aZ,rfl⟩ <;> cases hcc
      case h_3=>cases hcc
      rename_i g aZ hgf has;cases hcc;simp only [df] at hop1;split at hop1;case h_2=>cases hop1
      rename_i vs hvs;rw [ae] at hop1;obtain ⟨⟨v,h2⟩,hcall,hop1⟩:=hop1;cases hop1;have hargs:=ke k3 has hvs;refine callcase g f vs (c.args.map a.eval) v hcall hgf (by simpa using hargs) ?_ rfl rfl;have:=jo hg hgf (c.args.map a.eval) w;simp [execOp,hcop,resolve,hcal,Act.eval,Deferred.ofValue,invoke,this]
    · rename_i y hne hcal
      split at hcc;case h_2=>cases hcc
      rename_i y' aZ hy has;cases hcc;simp only [df] at hop1;split at hop1
      · rename_i g first caps vs hyv hvs
        rw [ae] at hop1;obtain ⟨⟨v,h2⟩,hcall,hop1⟩:=hop1;cases hop1;have hargs:=ke k3 has hvs;have hfv:=ce k3 hy hyv;simp only [VRel] at hfv;obtain ⟨fid,f',c',q1,q2,q3,q4⟩:=hfv;refine callcase g fid (first++vs++caps) (f'++c.args.map a.eval++c') v hcall q2 ?_ ?_ rfl rfl
        · simpa using (q3.append hargs).append q4
        · have:=jo hg q2 (f'++(c.args.map a.eval++c')) w
          simp [execOp,hcop,resolve,hcal,q1,Deferred.ofValue,invoke,this]
      · rename_i i vs hyv hvs
        split at hop1;case h_2=>cases hop1
        rename_i g st p sl hgi;rw [ae] at hop1;obtain ⟨⟨v,h2⟩,hcall,hop1⟩:=hop1;cases hop1;have hargs:=ke k3 has hvs;have hfv:=ce k3 hy hyv;simp only [VRel] at hfv;obtain ⟨l,xx,q1,q2,q3⟩:=hfv;refine roundcase g i vs (c.args.map a.eval) v st p sl hcall hgi (by simpa using hargs) (fun m hm=>?_) rfl rfl;rw [hm] at q2; cases q2;have:=q3 m rfl; subst this;simp [execOp,hcop,resolve,hcal,q1,Deferred.ofValue,invoke]
      · cases hop1
    · -- a built-in is no call
      exfalso
      rcases hcl with ⟨f,aZ,rfl⟩ | ⟨g,aZ,rfl⟩ <;>
        (repeat' split at hcc
         all_goals first
           | (cases hcc; done)
           | (rw [ae] at hcc; obtain ⟨_,_,hcc⟩:=hcc; cases hcc))
    · cases hcc
  unfold fe at hev;split at hop
  · rename_i hg0
    cases hop;simp only at hev;have:Region.wanted o (yielded ops a.tmps)=true:=by simp [Region.wanted,hg0]
    rw [if_pos this];exact run rfl rfl hev
  · rename_i j want hg0
    split at hop;case h_2=>cases hop
    rename_i d hdj;cases hop;simp only at hev;split at hev
    · rename_i b hb
      obtain ⟨v',hv,hr⟩:=k3.val d _ hb;simp only [VRel] at hr; subst hr;have hy:yielded ops a.tmps j=some b:=by simp [yielded,hdj,hv]
      have hw:Region.wanted o (yielded ops a.tmps)=(b == want):=by simp [Region.wanted,hg0,hy]
      split at hev
      · rename_i hbw
        rw [if_pos (by rw [hw]; simpa using hbw)];exact run rfl rfl hev
      · rename_i hbw
        cases hev;rw [if_neg (by rw [hw]; simpa using hbw)];exact hn _ _ _ μ rfl (.inl ⟨rfl,rfl⟩) (Step.refl _ _ _ _) k2
    · rename_i hb
      cases hev;have hv:=k3.undef d hb;have hy:yielded ops a.tmps j=none:=by simp [yielded,hdj,hv,Go.undef]
      have hw:Region.wanted o (yielded ops a.tmps)=false:=by simp [Region.wanted,hg0,hy]
      rw [if_neg (by simp [hw])];exact hn _ _ _ μ rfl (.inl ⟨rfl,rfl⟩) (Step.refl _ _ _ _) k2
    · cases hev
end
end Go.Abs

namespace Go.Abs
section
variable {call:CallSem} {n0:Nat}
def dsl (D:Nat→Did) (x:Nat):List Did:=(List.range x).map D
theorem rg {D:Nat→Did} {x y:Nat} (h:y < x):(dsl D x)[y]? = some (D y):=by simp [dsl,h]
theorem zac (D:Nat→Did) (x:Nat):(dsl D x).length=x:=by simp [dsl]
theorem open_text:∀ (seg:List AOper) (ms:List Nat) (ds:List Did) (s s1:Slots) (h h1:Heap),i8 call n0 ms seg ds s h=some (s1,h1) →
  ∃ (S:Nat→Slots) (H:Nat→Heap) (r:Nat→Slot) (D:Nat→Did),S 0=s∧H 0=h∧S seg.length=s1∧H seg.length=h1 ∧
   ∀ (x:Nat) (o:AOper),seg[x]? = some o→lm call n0 (ms.getD x 0) (ds++dsl D x) o (S x) (H x)=some (r x,H (x+1),D x)∧S (x+1)=a8 o.dst (r x) (S x) ∧
    (∀ d,o.dst=some d→isVar (S x) d=false)∧ju (H (x+1)) (ms.getD x 0) (D x) 0 (ds++dsl D x)=true
 | [],ms,ds,s,s1,h,h1,e=>by simp only [i8] at e; cases e;exact ⟨fun _=>s,fun _=>h,fun _=>.undef,fun _=>⟨false,[],none,none,0,0,none⟩,rfl,rfl,rfl,rfl,fun x o hx=>by simp at hx⟩
 | o :: seg,ms,ds,s,s1,h,h1,e=>by
  simp only [i8] at e;split at e;case h_2=>cases e
  rename_i y h2 d he;split at e;case isFalse=>cases e
  rename_i hh;obtain ⟨a1,a2⟩:=hh;obtain ⟨S,H,r,D,b1,b2,b3,b4,b5⟩:=open_text seg ms.tail (ds++[d]) _ s1 h2 h1 e;have hm0:ms.headD 0=ms.getD 0 0:=by cases ms <;> rfl
  refine ⟨fun x=>match x with | 0=>s | x+1=>S x,fun x=>match x with | 0=>h | x+1=>H x,fun x=>match x with | 0=>y | x+1=>r x,fun x=>match x with | 0=>d | x+1=>D x,
   rfl,rfl,by simpa using b3,by simpa using b4,fun x o1 hx=>?_⟩
  cases x with
  | zero =>
   simp at hx; subst hx;rw [← hm0];refine ⟨by simp only [b2,dsl]; simpa using he,by simp only [b1],fun d hd=>?_,by simpa [dsl,b2] using a2⟩;rw [hd] at a1;simpa using a1
  | succ x =>
   simp at hx;have h3:=b5 x o1 hx
   have e1:ds++[d]++dsl D x=ds++dsl (fun x=>match x with | 0=>d | x+1=>D x) (x+1):=by rw [az];congr 1;simp only [dsl,List.range_succ_eq_map,bo,List.map_map,List.singleton_append];rfl
   have e2:ms.tail.getD x 0=ms.getD (x+1) 0:=by cases ms <;> simp
   rw [e1,e2] at h3;exact h3
structure OneCall (call:CallSem) (n0 m:Nat) (ds:List Did) (o:AOper) (s:Slots) (h:Heap) (y:Slot) (h':Heap) (d:Did):Prop where
 isc:o.op.isCall=true
 run:∃ s1 g,fe call o s ⟨hide m 0 ds h.objs,h.base,h.size⟩=some (s1,g)∧y=gw o.dst s1∧h'.size=g.size ∧
  ((allSeen m 0 ds=true∧g.wmin < h.size∧d.wr=some (g.wmin,h.objs,g.objs)∧h'=⟨g.objs,h.base,min h.wmin g.wmin⟩)∨(allSeen m 0 ds=true∧h.size≤g.wmin∧d.wr=none∧h'=⟨g.objs,h.base,h.wmin⟩) ∨
   (h.size≤g.wmin∧d.wr=none∧(∀ i ∈ y.ids++(g.objs.drop h.size).flatMap AObj.ids,okId n0 m ds i=true∨h.size≤i)∧h'=⟨h.objs++g.objs.drop h.size,h.base,h.wmin⟩))
 did:d.isCall=true∧d.rd=[]∧d.ch=none
 ld:d.ld=none
structure OneSoft (n0 m:Nat) (ds:List Did) (o:AOper) (s:Slots) (h:Heap) (y:Slot) (h':Heap) (d:Did):Prop where
 isc:o.op.isCall=false
 run:∃ s1 g,fe noCall o s ⟨h.objs,h.base,h.size⟩=some (s1,g)∧y=gw o.dst s1 ∧
  ((g.size=h.size∧g.wmin=h.size∧(∀ i ∈ y.ids,okId n0 m ds i=true)∧h'=h∧d.ch=none) ∨
   (∃ ob,g.size=h.size∧g.wmin < h.size∧g.objs[g.wmin]? = some ob∧(∀ i ∈ y.ids++ob.ids,okId n0 m ds i=true)∧d.ch=some g.wmin∧h'=⟨g.objs,h.base,min h.wmin g.wmin⟩) ∨
   (∃ ob,g.size=h.size+1∧g.objs[h.size]? = some ob∧(∀ i ∈ ob.ids,okId n0 m ds i=true)∧((g.wmin=h.size∧d.ch=none∧h'=⟨g.objs,h.base,h.wmin⟩)∨(g.wmin≠h.size∧d.ch=some g.wmin∧h'=⟨g.objs,h.base,min h.wmin g.wmin⟩))))
 did:d.isCall=false∧d.rd=fj o.op s∧d.wr=none
 ld:d.ld=ldOf o s y
theorem openOne_spec (hev0:CallEvol call) {m:Nat} {ds:List Did} {o:AOper} {s:Slots} {h:Heap} {y:Slot} {h':Heap} {d:Did} (e:lm call n0 m ds o s h=some (y,h',d)) :
  ((∀ t ∈ o.reads,∀ i ∈ slotIds s t,okId n0 m ds i=true)∧∀ i ∈ fj o.op s,okId n0 m ds i=true)∧d.lo=h.size∧d.hi=h'.size∧h'.base=h.base∧(OneCall call n0 m ds o s h y h' d∨OneSoft n0 m ds o s h y h' d):=by
 unfold lm at e;split at e
 ·cases e
 rename_i hr
 have hr':(∀ t ∈ o.reads,∀ i ∈ slotIds s t,okId n0 m ds i=true)∧∀ i ∈ fj o.op s,okId n0 m ds i=true:=by simp only [Bool.not_eq_false,au,dz,bw] at hr;exact ⟨fun t ht i hi=>hr i (.inl ⟨t,ht,hi⟩),fun i hi=>hr i (.inr hi)⟩
 refine ⟨hr',?_⟩;split at e
 ·rename_i hc;split at e
  ·cases e
  rename_i s1 g he;simp only at e;split at e
  ·rename_i hw;split at e
   ·rename_i hall;cases e;exact ⟨rfl,rfl,rfl,.inl ⟨hc,⟨s1,g,he,rfl,rfl,.inl ⟨hall,hw,rfl,rfl⟩⟩,⟨rfl,rfl,rfl⟩,rfl⟩⟩
   ·cases e
  ·rename_i hw;split at e
   ·rename_i hall;cases e;exact ⟨rfl,rfl,rfl,.inl ⟨hc,⟨s1,g,he,rfl,rfl,.inr (.inl ⟨hall,by omega,rfl,rfl⟩)⟩,⟨rfl,rfl,rfl⟩,rfl⟩⟩
   ·split at e
    ·rename_i hids;cases e;rw [au] at hids
     have hge:h.size≤g.size:=by have:=(me hev0 he).size;simp only [Heap.size,lh] at this;exact this
     have hsz:({ objs:=h.objs++List.drop h.size g.objs,base:=h.base,wmin:=h.wmin }:Heap).size=g.size:=by simp only [Heap.size,aq,gg] at hge ⊢; omega
     refine ⟨rfl,hsz.symm,rfl,.inl ⟨hc,⟨s1,g,he,rfl,hsz,.inr (.inr ⟨by omega,rfl,fun i hi=>?_,rfl⟩)⟩,⟨rfl,rfl,rfl⟩,rfl⟩⟩;have:=hids i hi;simpa using this
    ·cases e
 ·rename_i hc;have hc:o.op.isCall=false:=by simpa using hc
  split at e
  ·cases e
  rename_i s1 g he;simp only at e;split at e
  ·rename_i hsz;split at e
   ·rename_i hlt;split at e
    ·rename_i ob hob;split at e
     ·rename_i hids;cases e;exact ⟨rfl,hsz.symm,rfl,.inr ⟨hc,⟨s1,g,he,rfl,.inr (.inl ⟨ob,hsz,hlt,hob,au.1 hids,rfl,rfl⟩)⟩,⟨rfl,rfl,rfl⟩,rfl⟩⟩
     ·cases e
    ·cases e
   ·split at e
    ·rename_i hw;cases e;exact ⟨rfl,rfl,rfl,.inr ⟨hc,⟨s1,g,he,rfl,.inl ⟨hsz,hw.1,au.1 hw.2,rfl,rfl⟩⟩,⟨rfl,rfl,rfl⟩,rfl⟩⟩
    ·cases e
  ·split at e
   ·rename_i hsz;split at e
    ·rename_i ob hob;split at e
     ·rename_i hids;rw [au] at hids;split at e
      ·rename_i hw;cases e;exact ⟨rfl,hsz.symm,rfl,.inr ⟨hc,⟨s1,g,he,rfl,.inr (.inr ⟨ob,hsz,hob,hids,.inl ⟨hw,rfl,rfl⟩⟩)⟩,⟨rfl,rfl,rfl⟩,rfl⟩⟩
      ·rename_i hw;cases e;exact ⟨rfl,hsz.symm,rfl,.inr ⟨hc,⟨s1,g,he,rfl,.inr (.inr ⟨ob,hsz,hob,hids,.inr ⟨hw,rfl,rfl⟩⟩)⟩,⟨rfl,rfl,rfl⟩,rfl⟩⟩
     ·cases e
    ·cases e
   ·cases e
def touched (D:Nat→Did) (sz:Nat→Nat) (x i:Nat):Prop:=i < sz (x+1)∧(sz x≤i∨(D x).writes i=true)
open Classical in
noncomputable def upd (D:Nat→Did) (sz:Nat→Nat) (H:Nat→Heap) (x i:Nat):Option AObj:=if touched D sz x i then (H (x+1)).objs[i]? else none
noncomputable def mem (D:Nat→Did) (sz:Nat→Nat) (H:Nat→Heap) (L:Nat→Bool):Nat→Nat→AObj
 | 0,i=>((H 0).objs[i]?).getD .dead
 | k+1,i=>if L k then (upd D sz H k i).getD (mem D sz H L k i) else mem D sz H L k i
section
variable {D:Nat→Did} {sz:Nat→Nat} {H:Nat→Heap} {L L':Nat→Bool} {i:Nat}
theorem qh:∀ (k:Nat),(∀ y,y < k→upd D sz H y i≠none→L y=L' y)→mem D sz H L k i=mem D sz H L' k i
 | 0,_=>rfl
 | k+1,h=>by
  have ih:=qh k fun y hy=>h y (by omega)
  simp only [mem];cases hu:upd D sz H k i with
  | none=>simp only [Option.getD_none,ih,ite_self]
  | some o =>
   have:=h k (by omega) (by rw [hu]; simp);rw [this,ih]
theorem zad {n:Nat} (hsz:∀ x,sz x=(H x).size) (hmono:∀ x,x < n→sz x≤sz (x+1)) (hun:∀ x i,x < n→i < sz x→(D x).writes i=false→(H (x+1)).objs[i]? = (H x).objs[i]?) :
  ∀ (x:Nat),x≤n→mem D sz H (fun _=>true) x i=((H x).objs[i]?).getD .dead
 | 0,_=>rfl
 | x+1,hx=>by
  simp only [mem,if_true,zad hsz hmono hun x (by omega)];unfold upd;by_cases ht:touched D sz x i
  ·rw [if_pos ht];cases hq:(H (x+1)).objs[i]? with
   | some o=>rfl
   | none =>
    exfalso;have:=ht.1;rw [hsz] at this;rw [List.getElem?_eq_none_iff] at hq;unfold Heap.size at this;omega
  ·rw [if_neg ht];simp only [Option.getD_none];by_cases h1:i < sz (x+1)
   ·have h2:i < sz x:=by
     rcases bi i (sz x) with h | h
     ·exact h
     ·exact absurd ⟨h1,.inl h⟩ ht
    have h3:(D x).writes i=false:=by
     cases hw:(D x).writes i with
     | false=>rfl
     | true=>exact absurd ⟨h1,.inr hw⟩ ht
    rw [hun x i (by omega) h2 h3]
   ·have e1:(H (x+1)).objs[i]? = none:=by rw [List.getElem?_eq_none_iff]; have:=hsz (x+1); unfold Heap.size at this; omega
    have e2:(H x).objs[i]? = none:=by rw [List.getElem?_eq_none_iff]; have h5:=hsz x; have:=hmono x (by omega); unfold Heap.size at h5; omega
    rw [e1,e2]
theorem zae (x:Nat):∀ (k:Nat),mem D sz H (fun y=>decide (y < x)) (x+k) i=mem D sz H (fun _=>true) x i
 | 0=>qh x fun y hy _=>decide_eq_true hy
 | k+1=>by rw [← mz];simp only [mem];rw [if_neg (by simp),zae x k]
theorem zaf {x n:Nat} {o:AObj} (hx:x < n) (hu:upd D sz H x i=some o) (hno:∀ y,y < n→x < y→L y=true→upd D sz H y i=none):mem D sz H (fun y=>y == x || L y) n i=o:=by
 obtain ⟨k,rfl⟩:∃ k,n=x+1+k:=⟨n - (x+1),by omega⟩;clear hx;induction k with
 | zero=>simp [mem,hu]
 | succ k ih =>
  have ih:=ih fun y hy=>hno y (by omega)
  rw [← mz];simp only [mem];rw [ih];have e1:(x+1+k == x)=false:=by simp; omega
  simp only [e1,Bool.false_or];split
  ·rename_i hL;rw [hno (x+1+k) (by omega) (by omega) hL]; rfl
  ·rfl
theorem jv {x n:Nat} (hu:upd D sz H x i=none):mem D sz H (fun y=>y == x || L y) n i=mem D sz H L n i :=
 qh n fun y _ hy=>by
  by_cases e:y=x
  ·subst e; exact absurd hu hy
  ·simp [e]
theorem sf:∀ (n:Nat),mem D sz H L n i=((H 0).objs[i]?).getD .dead∧(∀ y,y < n→L y=true→upd D sz H y i=none)∨∃ y o,y < n∧L y=true∧upd D sz H y i=some o∧mem D sz H L n i=o
 | 0=>.inl ⟨rfl,fun y hy=>by omega⟩
 | n+1=>by
  simp only [mem];by_cases hL:L n=true
  ·rw [if_pos hL];cases hu:upd D sz H n i with
   | some o=>exact .inr ⟨n,o,by omega,hL,hu,rfl⟩
   | none =>
    simp only [Option.getD_none];rcases sf n with ⟨h1,h2⟩ | ⟨y,o,h1,h2,h3,h4⟩
    ·refine .inl ⟨h1,fun y hy hl=>?_⟩;by_cases e:y=n
     ·subst e; exact hu
     ·exact h2 y (by omega) hl
    ·exact .inr ⟨y,o,by omega,h2,h3,h4⟩
  ·rw [if_neg hL];rcases sf n with ⟨h1,h2⟩ | ⟨y,o,h1,h2,h3,h4⟩
   ·refine .inl ⟨h1,fun y hy hl=>?_⟩;by_cases e:y=n
    ·subst e; exact absurd hl hL
    ·exact h2 y (by omega) hl
   ·exact .inr ⟨y,o,by omega,h2,h3,h4⟩
end
end
end Go.Abs

namespace Go.Abs
section
theorem zab {m:Nat} {i:Nat}:∀ (ds:List Did) (k:Nat),seenBy m k ds i=true ↔ ∃ y d,ds[y]? = some d∧m.testBit (k+y)=true∧d.lo≤i∧i < d.hi
 | [],k=>by simp [seenBy]
 | d :: ds,k=>by
  simp only [seenBy,dt,a7,decide_eq_true_eq,zab ds (k+1)];constructor
  ·rintro (⟨⟨h1,h2⟩,h3⟩ | ⟨y,d',h1,h2,h3⟩)
   ·exact ⟨0,d,rfl,h1,h2,h3⟩
   ·exact ⟨y+1,d',by simpa using h1,by rw [show k+(y+1)=k+1+y by omega]; exact h2,h3⟩
  ·rintro ⟨y,d',h1,h2,h3⟩;cases y with
   | zero=>simp at h1; subst h1; exact .inl ⟨⟨h2,h3.1⟩,h3.2⟩
   | succ y=>exact .inr ⟨y,d',by simpa using h1,by rw [show k+1+y=k+(y+1) by omega]; exact h2,h3⟩
theorem se {m:Nat}:∀ (ds:List Did) (k:Nat),allSeen m k ds=true→∀ y d,ds[y]? = some d→m.testBit (k+y)=true∨d.hi≤d.lo
 | [],k,_,y,d,h=>by simp at h
 | d :: ds,k,h,y,d',hy=>by
  simp only [allSeen,a7,dt,decide_eq_true_eq] at h;cases y with
  | zero=>simp at hy; subst hy; exact h.1
  | succ y =>
   rw [show k+(y+1)=k+1+y by omega];exact se ds (k+1) h.2 y d' (by simpa using hy)
theorem x6 {h':Heap} {m:Nat} {x:Did}:∀ (ds:List Did) (k:Nat),ju h' m x k ds=true→∀ y d,ds[y]? = some d→m.testBit (k+y)=true∨clash x d=false∨benign h' x d=true
 | [],k,_,y,d,h=>by simp at h
 | d :: ds,k,h,y,d',hy=>by
  simp only [ju,a7,dt,fp] at h;cases y with
  | zero=>simp at hy; subst hy; exact h.1
  | succ y =>
   rw [show k+(y+1)=k+1+y by omega];exact x6 ds (k+1) h.2 y d' (by simpa using hy)
def Hid (m k:Nat) (ds:List Did) (i:Nat):Prop:=∃ y d,ds[y]? = some d∧m.testBit (k+y)=false∧d.lo≤i∧i < d.hi
theorem hide_get {m:Nat} {i:Nat}:∀ (ds:List Did) (k:Nat) (os:List AObj),(Hid m k ds i→(hide m k ds os)[i]? = (os[i]?).map fun _=>.dead)∧(¬ Hid m k ds i→(hide m k ds os)[i]? = os[i]?)
 | [],k,os=>⟨fun ⟨y,d,h,_⟩=>by simp at h,fun _=>rfl⟩
 | d :: ds,k,os=>by
  simp only [hide];have ih:=hide_get (m:=m) (i:=i) ds (k+1) (if (m.testBit k || decide (d.hi≤d.lo))=true then os else killRange d.lo d.hi os)
  have hstep:Hid m k (d :: ds) i ↔ (m.testBit k=false∧d.lo≤i∧i < d.hi)∨Hid m (k+1) ds i:=by
   constructor
   ·rintro ⟨y,d',h1,h2,h3⟩;cases y with
    | zero=>simp at h1; subst h1; exact .inl ⟨h2,h3⟩
    | succ y=>exact .inr ⟨y,d',by simpa using h1,by rw [show k+1+y=k+(y+1) by omega]; exact h2,h3⟩
   ·rintro (⟨h1,h2⟩ | ⟨y,d',h1,h2,h3⟩)
    ·exact ⟨0,d,rfl,h1,h2⟩
    ·exact ⟨y+1,d',by simpa using h1,by rw [show k+(y+1)=k+1+y by omega]; exact h2,h3⟩
  by_cases h1:m.testBit k=false∧d.lo≤i∧i < d.hi
  ·have hc:¬ ((m.testBit k || decide (d.hi≤d.lo))=true):=by simp [h1.1]; omega
   rw [if_neg hc] at ih ⊢
   have hk:(killRange d.lo d.hi os)[i]? = (os[i]?).map fun _=>.dead:=by
    simp only [killRange,List.getElem?_mapIdx];cases os[i]? with
    | none=>rfl
    | some o=>simp [h1.2.1,h1.2.2]
   refine ⟨fun _=>?_,fun h=>absurd (hstep.2 (.inl h1)) h⟩;by_cases h2:Hid m (k+1) ds i
   ·rw [ih.1 h2,hk]; cases os[i]? <;> rfl
   ·rw [ih.2 h2,hk]
  ·have hk:(if (m.testBit k || decide (d.hi≤d.lo))=true then os else killRange d.lo d.hi os)[i]? = os[i]?:=by
    split
    ·rfl
    ·rename_i hh;simp only [dt,decide_eq_true_eq,not_or,Bool.not_eq_true] at hh;simp only [killRange,List.getElem?_mapIdx];cases os[i]? with
     | none=>rfl
     | some o =>
      have:¬ (d.lo≤i∧i < d.hi):=fun h2=>h1 ⟨hh.1,h2⟩
      simp [this]
   rw [hk] at ih;exact ⟨fun h=>ih.1 ((hstep.1 h).resolve_left h1),fun h=>ih.2 fun h2=>h (hstep.2 (.inr h2))⟩
structure Txt (call:CallSem) (n:Nat) (ops:Nat→Option AOper) (ms:Nat→Nat) (S:Nat→Slots) (H:Nat→Heap) (r:Nat→Slot) (D:Nat→Did):Prop where
 one:∀ x o,x < n→ops x=some o→lm call (H 0).size (ms x) (dsl D x) o (S x) (H x)=some (r x,H (x+1),D x)∧S (x+1)=a8 o.dst (r x) (S x)∧(∀ d,o.dst=some d→isVar (S x) d=false)∧ju (H (x+1)) (ms x) (D x) 0 (dsl D x)=true
 all:∀ x,x < n→∃ o,ops x=some o
 soft:∀ x o,x < n→ops x=some o→soft o.op=true
 back:∀ x y,x < n→(ms x).testBit y=true→y < x
 trans:∀ x y z,x < n→(ms x).testBit y=true→(ms y).testBit z=true→(ms x).testBit z=true
variable {call:CallSem} {n:Nat} {ops:Nat→Option AOper} {ms:Nat→Nat} {S:Nat→Slots} {H:Nat→Heap} {r:Nat→Slot} {D:Nat→Did}
def Vis (ms:Nat→Nat) (H:Nat→Heap) (x i:Nat):Prop:=i < (H 0).size∨∃ y,y < x∧(ms x).testBit y=true∧(H y).size≤i∧i < (H (y+1)).size
namespace Txt
variable (T:Txt call n ops ms S H r D) (hev0:CallEvol call)
include T hev0
theorem spec {x:Nat} {o:AOper} (hx:x < n) (ho:ops x=some o):((∀ t ∈ o.reads,∀ i ∈ slotIds (S x) t,okId (H 0).size (ms x) (dsl D x) i=true)∧∀ i ∈ fj o.op (S x),okId (H 0).size (ms x) (dsl D x) i=true)∧(D x).lo=(H x).size∧(D x).hi=(H (x+1)).size∧(H (x+1)).base=(H x).base ∧
  (OneCall call (H 0).size (ms x) (dsl D x) o (S x) (H x) (r x) (H (x+1)) (D x)∨OneSoft (H 0).size (ms x) (dsl D x) o (S x) (H x) (r x) (H (x+1)) (D x)) :=
 openOne_spec hev0 (T.one x o hx ho).1
theorem evol {x:Nat} (hx:x < n):Evol (H x) (H (x+1)):=by obtain ⟨o,ho⟩:=T.all x hx;exact vq hev0 (T.one x o hx ho).1
theorem lo {x:Nat} (hx:x < n):(D x).lo=(H x).size:=by obtain ⟨o,ho⟩:=T.all x hx;exact (T.spec hev0 hx ho).2.1
theorem hi {x:Nat} (hx:x < n):(D x).hi=(H (x+1)).size:=by obtain ⟨o,ho⟩:=T.all x hx;exact (T.spec hev0 hx ho).2.2.1
theorem mono:∀ {x y:Nat},x≤y→y≤n→(H x).size≤(H y).size:=by
 intro x y hxy;induction hxy with
 | refl=>intro _; exact aj _
 | step _ ih=>intro h; exact cf (ih (by omega)) (T.evol hev0 (by omega)).size
theorem base:∀ {x:Nat},x≤n→(H x).base=(H 0).base
 | 0,_=>rfl
 | x+1,h=>(T.evol hev0 (by omega)).base.trans (base (by omega))
theorem wmin:∀ {x y:Nat},x≤y→y≤n→(H y).wmin≤(H x).wmin:=by
 intro x y hxy;induction hxy with
 | refl=>intro _; exact aj _
 | step _ ih=>intro h; exact cf (T.evol hev0 (by omega)).wmin (ih (by omega))
theorem okId_iff {x i:Nat} (hx:x < n):okId (H 0).size (ms x) (dsl D x) i=true ↔ Vis ms H x i:=by
 unfold okId Vis;simp only [dt,decide_eq_true_eq,zab,ed];constructor
 ·rintro (h | ⟨y,d,h1,h2,h3,h4⟩)
  ·exact .inl h
  ·have hy:y < x:=by have:=ah h1; rwa [zac] at this
   rw [rg hy] at h1; cases h1;exact .inr ⟨y,hy,h2,by rw [← T.lo hev0 (by omega)]; exact h3,by rw [← T.hi hev0 (by omega)]; exact h4⟩
 ·rintro (h | ⟨y,hy,h2,h3,h4⟩)
  ·exact .inl h
  ·exact .inr ⟨y,D y,rg hy,h2,by rw [T.lo hev0 (by omega)]; exact h3,by rw [T.hi hev0 (by omega)]; exact h4⟩
theorem apart {x y i:Nat} (hx:x < n) (hy:y < n) (h1:(H x).size≤i) (h2:i < (H (x+1)).size) (h3:(H y).size≤i) (h4:i < (H (y+1)).size):x=y:=by
 rcases zc x y with h | h | h
 ·have:=T.mono hev0 (show x+1≤y from h) (by omega); omega
 ·exact h
 ·have:=T.mono hev0 (show y+1≤x from h) (by omega); omega
omit T hev0 in
theorem inRange {i:Nat} (h0:(H 0).size≤i):∀ {x:Nat},x≤n→i < (H x).size→∃ y,y < x∧(H y).size≤i∧i < (H (y+1)).size
 | 0,_,h=>by omega
 | x+1,hx,h=>by
  rcases bi i (H x).size with h1 | h1
  ·obtain ⟨y,hy,h2⟩:=inRange h0 (by omega) h1;exact ⟨y,by omega,h2⟩
  ·exact ⟨x,by omega,h1,h⟩
omit hev0 in
theorem noclash {x y:Nat} (hx:x < n) (hyx:y < x) (h:(ms x).testBit y=false):clash (D x) (D y)=false∨benign (H (x+1)) (D x) (D y)=true:=by
 obtain ⟨o,ho⟩:=T.all x hx;rcases x6 _ 0 (T.one x o hx ho).2.2.2 y (D y) (rg hyx) with h1 | h1
 ·rw [ed,h] at h1; cases h1
 ·exact h1
theorem writer {x y:Nat} (hx:x < n) (hw:(D x).wr≠none) (hyx:y < x) (hy:(H y).size < (H (y+1)).size):(ms x).testBit y=true:=by
 obtain ⟨o,ho⟩:=T.all x hx;obtain ⟨_,_,_,_,hs | hs⟩:=T.spec hev0 hx ho
 ·obtain ⟨s1,g,_,_,_,h1 | h1 | h1⟩:=hs.run
  ·have:=se _ 0 h1.1 y (D y) (rg hyx);rw [ed,T.lo hev0 (by omega),T.hi hev0 (by omega)] at this;rcases this with h2 | h2
   ·exact h2
   ·omega
  ·exact absurd h1.2.2.1 hw
  ·exact absurd h1.2.1 hw
 ·exact absurd hs.did.2.2 hw
end Txt
end
end Go.Abs

namespace Go.Abs
section
variable {E:Env}
open Classical in
noncomputable def maskM (vis:Nat→Prop) (k:Nat) (μ:MM):MM:=(List.range k).map fun i=>if vis i then (μ[i]?).getD none else none
theorem o8 (vis:Nat→Prop) (k:Nat) (μ:MM):(maskM vis k μ).length=k:=by simp [maskM]
theorem ng {vis:Nat→Prop} {k i:Nat} {μ:MM} (hi:i < k) (hk:k≤μ.length):(vis i→(maskM vis k μ)[i]? = μ[i]?)∧(¬ vis i→(maskM vis k μ)[i]? = some none):=by
 unfold maskM;rw [bk,List.getElem?_range hi];simp only [b9];constructor
 ·intro h;rw [if_pos h,ai (by omega)]; rfl
 ·intro h;rw [if_neg h]
theorem l8 {vis:Nat→Prop} {k i:Nat} {μ:MM} {m:M} (hk:k≤μ.length) (h:(maskM vis k μ)[i]? = some (some m)):vis i∧i < k∧μ[i]? = some (some m):=by
 have hi:i < k:=by have:=ah h; rwa [o8] at this
 by_cases hv:vis i
 ·exact ⟨hv,hi,((ng hi hk).1 hv).symm.trans h⟩
 ·rw [(ng hi hk).2 hv] at h; cases h
variable {lo nt:Nat} {μ0 μ:MM} {w0 w:World} {ds:List Deferred} {s:Slots} {a:Act} {ν:Fr}
theorem Rel.mask {vis:Nat→Prop} {k:Nat} {objs os:List AObj} {base wm wm':Nat} (hr:Rel E μ ⟨objs,base,wm⟩ w) (hk:k≤objs.length) (hb:base≤k) (hos:os.length=k)
  (h1:∀ i,i < k→vis i→os[i]? = objs[i]?) (h2:∀ i,i < k→¬ vis i→os[i]? = some .dead) (hids:∀ i o,i < k→vis i→objs[i]? = some o→∀ j ∈ o.ids,j < k∧vis j):Rel E (maskM vis k μ) ⟨os,base,wm'⟩ w:=by
 have hkl:k≤μ.length:=by rw [hr.len]; exact hk
 constructor
 ·rw [o8]; exact hos.symm
 ·simp only [hos]; exact hb
 ·intro i o ho;simp only at ho;have hi:i < k:=by rw [← hos]; exact ah ho
  by_cases hv:vis i
  ·rw [h1 i hi hv] at ho
   exact (hr.obj i o ho).same ((ng hi hkl).1 hv) fun j hj hl=>by obtain ⟨q1,q2⟩:=hids i o hi hv ho j hj;exact (ng q1 hkl).1 q2
  ·rw [h2 i hi hv] at ho; cases ho;exact (ng hi hkl).2 hv
 ·intro i j mi mj hij hi hmi hmj;exact hr.sep i j mi mj hij hi (l8 hkl hmi).2.2 (l8 hkl hmj).2.2
 ·intro i m hm; exact hr.lt i m (l8 hkl hm).2.2
 ·exact hr.tab.less fun i m hi hm=>⟨i,m,hi,(l8 hkl hm).2.2,rfl⟩
theorem FRel.mask {vis:Nat→Prop} {k:Nat} {g:SlotFn} {tmps:Array Value} (h:FRel E lo ν μ g tmps w) (hk:k≤μ.length) (hids:∀ t y,g t=some y→∀ i ∈ y.ids,i < k∧vis i):FRel E lo ν (maskM vis k μ) g tmps w where
 val:=fun t v hv=>by obtain ⟨v',h1,h2⟩:=h.val t v hv;exact ⟨v',h1,jx (fun i hi _=>by obtain ⟨q1,q2⟩:=hids t _ hv i hi; exact (ng q1 hk).1 q2) h2⟩
 undef:=h.undef
 var:=fun t cs hv=>by obtain ⟨h1,h2,c,e,fr,h3,h4,h5,h6⟩:=h.var t cs hv;refine ⟨h1,h2,c,e,fr,h3,h4,fun q v hq=>?_,h6⟩;obtain ⟨z1,v',z2,z3⟩:=h5 q v hq;exact ⟨z1,v',z2,jx (fun i hi _=>by obtain ⟨q1,q2⟩:=hids t _ hv i (ny hq hi); exact (ng q1 hk).1 q2) z3⟩
 loc:=h.loc
 sepv:=h.sepv
 sepm:=fun t cs i m hv hm=>h.sepm t cs i m hv (l8 hk hm).2.2
 ds:=h.ds
 sepd:=fun r hr=>⟨fun i m hm=>(h.sepd r hr).1 i m (l8 hk hm).2.2,(h.sepd r hr).2⟩
 nodup:=h.nodup
open Classical in
noncomputable def joinM (vis:Nat→Prop) (lo1 hi1:Nat) (μ μ':MM):MM :=
 (List.range μ.length).map fun i=>if (i < lo1∧vis i)∨(lo1≤i∧i < hi1) then (μ'[i]?).getD none else (μ[i]?).getD none
theorem vb (vis:Nat→Prop) (lo1 hi1:Nat) (μ μ':MM):(joinM vis lo1 hi1 μ μ').length=μ.length:=by simp [joinM]
def Now (vis:Nat→Prop) (lo1 hi1 i:Nat):Prop:=(i < lo1∧vis i)∨(lo1≤i∧i < hi1)
theorem joinM_get {vis:Nat→Prop} {lo1 hi1 i:Nat} {μ μ':MM} (hi:i < μ.length) (hl:μ'.length=hi1):(Now vis lo1 hi1 i→i < hi1→(joinM vis lo1 hi1 μ μ')[i]? = μ'[i]?)∧(¬ Now vis lo1 hi1 i→(joinM vis lo1 hi1 μ μ')[i]? = μ[i]?):=by
 unfold joinM Now;rw [bk,List.getElem?_range hi];simp only [b9];constructor
 ·intro h h2;rw [if_pos h,ai (by omega)]; rfl
 ·intro h;rw [if_neg h,ai hi]; rfl
theorem At.join {objs objs':List AObj} {base wF lo1 hi1:Nat} {vis:Nat→Prop} {g:Heap} {μ':MM} {w':World} {d:Option Nat} {x:Slot} {v:Value}
  (k1:Step (fun k=>lo≤k) wF μ0 w0 μ w) (k2:Rel E μ ⟨objs,base,wF⟩ w) (k3:FRel E lo ν μ (sget s) a.tmps w) (k4:a.tmps.size=nt) (k5:a.defers=ν.ds.map markOf++ds) (k6:lo≤w.heap.size)
  (hle:lo1≤hi1) (hhi:hi1≤objs.length) (hb:base≤lo1)
  (j1:Step (fun _=>False) g.wmin (maskM vis lo1 μ) w μ' w') (j2:Rel E μ' g w') (hg:g.size=hi1) (hgb:g.base=base)
  (hhid:∀ i,i < lo1→¬ vis i→base≤i) (hμ0:μ0.length≤lo1∧∀ i,i < μ0.length→vis i) (hw:wF≤g.wmin∨lo1≤g.wmin)
  (_hdead:∀ i,lo1≤i→i < hi1→objs[i]? = some .dead) (hlen:objs'.length=objs.length)
  (hnow:∀ i,Now vis lo1 hi1 i→objs'[i]? = g.objs[i]?) (hels:∀ i,i < objs.length→¬ Now vis lo1 hi1 i→objs'[i]? = objs[i]?)
  (hidg:∀ i o,Now vis lo1 hi1 i→g.objs[i]? = some o→∀ j ∈ o.ids,Now vis lo1 hi1 j) (hido:∀ (i:Nat) o,objs[i]? = some o→∀ j ∈ o.ids,¬ (lo1≤j∧j < hi1))
  (hids:∀ t y,sget s t=some y→∀ j ∈ y.ids,¬ (lo1≤j∧j < hi1)) (hx:SlotIs E μ' x v) (hxid:∀ j ∈ x.ids,Now vis lo1 hi1 j) (hd:∀ t,d=some t→t < nt) :
  At E lo nt μ0 w0 ds (a8 d x s) ⟨objs',base,wF⟩ (a.put d v) w':=by
 have hml:μ.length=objs.length:=k2.len;have hkl:lo1≤μ.length:=by omega
 have hl':μ'.length=hi1:=by rw [j2.len]; exact hg
 have now_lt:∀ i,Now vis lo1 hi1 i→i < hi1:=fun i h=>by rcases h with h | h <;> omega
 have hstep:∀ i,i < lo1→vis i→μ'[i]? = μ[i]?∨(g.wmin≤i∧μ'[i]? = some none):=fun i hi hv=>by
  rcases j1.old i (by rw [o8]; exact hi) with h | h
  ·exact .inl (h.trans ((ng hi hkl).1 hv))
  ·exact .inr h
 have hnew:∀ i m,lo1≤i→μ'[i]? = some (some m)→w.heap.size≤m.blk∨∃ r m0,g.wmin≤r∧r < lo1∧vis r∧μ[r]? = some (some m0)∧m0.blk=m.blk:=fun i m hi hm=>by
  rcases j1.new i m (by rw [o8]; exact hi) hm with h | ⟨r,m0,h1,h2,h3⟩
  ·exact .inl h
  ·obtain ⟨q1,q2,q3⟩:=l8 hkl h2;exact .inr ⟨r,m0,h1,q2,q1,q3,h3⟩
 have hblk:∀ b,b < w.heap.size→(∀ i m,g.wmin≤i→i < lo1→vis i→μ[i]? = some (some m)→m.blk≠b)→w'.heap[b]? = w.heap[b]?:=fun b hb hn =>
  j1.block b hb (fun h=>h) fun i m hi hm=>by obtain ⟨q1,q2,q3⟩:=l8 hkl hm;exact hn i m hi q2 q1 q3
 let μ1:MM:=joinM vis lo1 lo1 μ μ'
 have hμ1l:μ1.length=μ.length:=vb ..
 have hμ1:∀ i,i < μ.length→(i < lo1∧vis i→μ1[i]? = μ'[i]?)∧(¬ (i < lo1∧vis i)→μ1[i]? = μ[i]?):=fun i hi=>by
  show _∧_
  unfold μ1 joinM;rw [bk,List.getElem?_range hi];simp only [b9];constructor
  ·intro h;rw [if_pos (.inl h),ai (show i < μ'.length by omega)]; rfl
  ·intro h;rw [if_neg (by rintro (h2 | h2); exact h h2; omega),ai hi]; rfl
 have hlater:Later μ μ1:=⟨by rw [hμ1l]; exact aj _,fun i hi=>by
  by_cases h:i < lo1∧vis i
  ·rcases hstep i h.1 h.2 with h1 | ⟨_,h1⟩
   ·exact .inl (((hμ1 i hi).1 h).trans h1)
   ·exact .inr (((hμ1 i hi).1 h).trans h1)
  ·exact .inl ((hμ1 i hi).2 h)⟩
 let μ2:MM:=joinM vis lo1 hi1 μ μ'
 have hμ2l:μ2.length=μ.length:=vb ..;have hnow2:∀ i,Now vis lo1 hi1 i→μ2[i]? = μ'[i]?:=fun i h=>(joinM_get (by have:=now_lt i h; omega) hl').1 h (now_lt i h)
 have hels2:∀ i,i < μ.length→¬ Now vis lo1 hi1 i→μ2[i]? = μ[i]?:=fun i hi h=>(joinM_get hi hl').2 h
 have h12:∀ i,i < μ.length→¬ (lo1≤i∧i < hi1)→μ2[i]? = μ1[i]?:=fun i hi h=>by
  by_cases h1:i < lo1∧vis i
  ·rw [hnow2 i (.inl h1),(hμ1 i hi).1 h1]
  ·rw [hels2 i hi (by rintro (h2 | h2); exact h1 h2; exact h h2),(hμ1 i hi).2 h1]
 have hfrom:∀ i m,μ2[i]? = some (some m)→(Now vis lo1 hi1 i∧μ'[i]? = some (some m))∨(¬ Now vis lo1 hi1 i∧μ[i]? = some (some m)):=fun i m hm=>by
  have hi:i < μ.length:=by rw [← hμ2l]; exact ah hm
  by_cases h:Now vis lo1 hi1 i
  ·exact .inl ⟨h,(hnow2 i h).symm.trans hm⟩
  ·exact .inr ⟨h,(hels2 i hi h).symm.trans hm⟩
 have hoth:∀ i m,¬ Now vis lo1 hi1 i→μ[i]? = some (some m)→base≤i:=fun i m h hm=>by
  rcases bi i lo1 with h1 | h1
  ·exact hhid i h1 fun hv=>h (.inl ⟨h1,hv⟩)
  ·omega
 have hothblk:∀ i m,¬ Now vis lo1 hi1 i→μ[i]? = some (some m)→w'.heap[m.blk]? = w.heap[m.blk]?:=fun i m h hm =>
  hblk m.blk (k2.lt i m hm) fun j m' _ hj hv hm'=>(k2.sep i j m m' (fun e=>h (.inl ⟨by omega,by rw [e]; exact hv⟩)) (hoth i m h hm) hm hm').symm
 have hsz:=j1.size;refine ⟨μ2,ν,?_,?_,?_,by rw [np]; exact k4,by rw [ll]; exact k5,cf k6 hsz⟩
 ·-- since the frame began
  refine ⟨j1.os.trans k1.os,j1.tape.trans k1.tape,j1.output.trans k1.output,cf k1.size hsz,?_,?_,?_,?_⟩
  ·intro b hb hx hn;rw [← k1.block b hb hx hn];refine hblk b (fg hb k1.size) fun i m hi hil hv hm=>?_
   rcases bi i μ0.length with h1 | h1
   ·rcases k1.old i h1 with h2 | ⟨_,h2⟩
    ·exact hn i m (show wF≤_ by rcases hw with hw | hw <;> omega) (h2.symm.trans hm)
    ·rw [h2] at hm; cases hm
   ·rcases k1.new i m h1 hm with h2 | ⟨r,m0,h2,h3,h4⟩
    ·omega
    ·rw [← h4]; exact hn r m0 h2 h3
  ·rw [hμ2l]; exact k1.len
  ·intro i hi;have hv:=hμ0.2 i hi;have hil:i < lo1:=by omega
   rw [hnow2 i (.inl ⟨hil,hv⟩)];rcases hstep i hil hv with h1 | ⟨h1,h2⟩
   ·rw [h1]; exact k1.old i hi
   ·exact .inr ⟨show wF≤_ by rcases hw with hw | hw <;> omega,h2⟩
  ·intro i m hi hm;rcases hfrom i m hm with ⟨h1,h2⟩ | ⟨h1,h2⟩
   ·rcases bi i lo1 with h3 | h3
    ·have hv:vis i:=by rcases h1 with h1 | h1; exact h1.2; omega
     rcases hstep i h3 hv with h4 | ⟨_,h4⟩
     ·exact k1.new i m hi (h4.symm.trans h2)
     ·rw [h2] at h4; cases h4
    ·rcases hnew i m h3 h2 with h4 | ⟨r,m0,h4,h5,h6,h7,h8⟩
     ·exact .inl (cf k1.size h4)
     ·rcases bi r μ0.length with h9 | h9
      ·rcases k1.old r h9 with q | ⟨_,q⟩
       ·exact .inr ⟨r,m0,show wF≤_ by rcases hw with hw | hw <;> omega,q.symm.trans h7,h8⟩
       ·rw [q] at h7; cases h7
      ·rcases k1.new r m0 h9 h7 with q | ⟨r',m1,q1,q2,q3⟩
       ·exact .inl (by rw [← h8]; exact q)
       ·exact .inr ⟨r',m1,q1,q2,q3.trans h8⟩
   ·exact k1.new i m hi h2
 ·-- memory
  constructor
  ·rw [hμ2l,hml]; exact hlen.symm
  ·simp only [hlen]; have:=k2.bs; exact this
  ·intro i o ho;simp only at ho ⊢;have hi:i < objs.length:=by rw [← hlen]; exact ah ho
   by_cases h:Now vis lo1 hi1 i
   ·rw [hnow i h] at ho;have:=j2.obj i o ho;rw [hgb] at this;exact this.same (hnow2 i h) fun j hj _=>hnow2 j (hidg i o h ho j hj)
   ·rw [hels i hi h] at ho
    have h1:ORel E μ1 base i w' o:=(k2.obj i o ho).keep hlater fun m hm=>by have hi':i < μ.length:=ah hm;exact ⟨((hμ1 i hi').2 fun h2=>h (.inl h2)).trans hm,hothblk i m h hm⟩
    exact h1.same (h12 i (by omega) fun h2=>h (.inr h2)) fun j hj hl=>h12 j (by rw [hμ1l] at hl; exact hl) (hido i o ho j hj)
  ·intro i j mi mj hij hi hmi hmj;simp only at hi
   have both:∀ p q mp mq,p≠q→Now vis lo1 hi1 p→μ'[p]? = some (some mp)→¬ Now vis lo1 hi1 q→μ[q]? = some (some mq)→mp.blk≠mq.blk:=by
    intro p q mp mq hpq hp hmp hq hmq;have hqb:=hoth q mq hq hmq;rcases bi p lo1 with h3 | h3
    ·have hv:vis p:=by rcases hp with h1 | h1; exact h1.2; omega
     rcases hstep p h3 hv with h4 | ⟨_,h4⟩
     ·exact (k2.sep q p mq mp (fun e=>hpq e.symm) hqb hmq (h4.symm.trans hmp)).symm
     ·rw [hmp] at h4; cases h4
    ·rcases hnew p mp h3 hmp with h4 | ⟨r,m0,h4,h5,h6,h7,h8⟩
     ·have:=k2.lt q mq hmq; omega
     ·rw [← h8];exact (k2.sep q r mq m0 (fun e=>hq (.inl ⟨by omega,by rw [e]; exact h6⟩)) hqb hmq h7).symm
   rcases hfrom i mi hmi with ⟨h1,h2⟩ | ⟨h1,h2⟩ <;> rcases hfrom j mj hmj with ⟨h3,h4⟩ | ⟨h3,h4⟩
   ·exact j2.sep i j mi mj hij (by rw [hgb]; exact hi) h2 h4
   ·exact both i j mi mj hij h1 h2 h3 h4
   ·exact (both j i mj mi (fun e=>hij e.symm) h3 h4 h1 h2).symm
   ·exact k2.sep i j mi mj hij hi h2 h4
  ·intro i m hm;rcases hfrom i m hm with ⟨_,h2⟩ | ⟨_,h2⟩
   ·exact j2.lt i m h2
   ·have:=k2.lt i m h2; omega
  ·refine ⟨j2.tab.1,fun p hp=>⟨(j2.tab.2 p hp).1,(j2.tab.2 p hp).2.1,fun i m hi hm=>?_⟩⟩;rcases hfrom i m hm with ⟨_,h2⟩ | ⟨_,h2⟩
   ·exact (j2.tab.2 p hp).2.2 i m (by rw [hgb]; exact hi) h2
   ·exact (k2.tab.2 p hp).2.2 i m hi h2
 ·-- slots
  have hvar:∀ t cs,sget s t=some (.var cs)→w'.heap[ν t]? = w.heap[ν t]?:=fun t cs hv=>hblk (ν t) (k3.lt hv) fun i m _ _ _ hm=>k3.sepm t cs i m hv hm
  have hblk2:∀ (i:Nat) (m:M),μ2[i]? = some (some m)→(∃ (r:Nat) (m0:M),μ[r]? = some (some m0)∧m0.blk=m.blk)∨w.heap.size≤m.blk:=fun i m hm=>by
   rcases hfrom i m hm with ⟨h1,h2⟩ | ⟨h1,h2⟩
   ·rcases bi i lo1 with h3 | h3
    ·have hv:vis i:=by rcases h1 with h1 | h1; exact h1.2; omega
     rcases hstep i h3 hv with h4 | ⟨_,h4⟩
     ·exact .inl ⟨i,m,h4.symm.trans h2,rfl⟩
     ·rw [h2] at h4; cases h4
    ·rcases hnew i m h3 h2 with h4 | ⟨r,m0,_,_,_,h7,h8⟩
     ·exact .inr h4
     ·exact .inl ⟨r,m0,h7,h8⟩
   ·exact .inl ⟨i,m,h2,rfl⟩
  have hf2:FRel E lo ν μ2 (sget s) a.tmps w':=by
   have same2:∀ {cs:AVal} {v:Value},(∀ j ∈ cs.ids,¬ (lo1≤j∧j < hi1))→VRel E μ cs v→VRel E μ2 cs v:=fun h1 h2=>jx (fun j hj hl=>h12 j (by rw [hμ1l] at hl; exact hl) (h1 j hj)) (h2.later hlater)
   refine ⟨fun t u hu=>?_,k3.undef,fun t cs hu=>?_,k3.loc,k3.sepv,fun t cs i m hu hm=>?_,fun q hq=>?_,fun q hq=>⟨fun i m hm=>?_,(k3.sepd q hq).2⟩,k3.nodup⟩
   ·obtain ⟨v',h1,h2⟩:=k3.val t u hu;exact ⟨v',h1,same2 (hids t _ hu) h2⟩
   ·obtain ⟨h1,h2,c,e,fr,h3,h4,h5,h6⟩:=k3.var t cs hu;refine ⟨h1,h2,c,e,fr,(hvar t cs hu).trans h3,h4,fun q v hq=>?_,h6⟩;obtain ⟨z1,v',z2,z3⟩:=h5 q v hq;exact ⟨z1,v',z2,same2 (fun j hj=>hids t _ hu j (ny hq hj)) z3⟩
   ·rcases hblk2 i m hm with ⟨r,m0,h1,h2⟩ | h1
    ·rw [← h2]; exact k3.sepm t cs r m0 hu h1
    ·have:=k3.lt hu; omega
   ·obtain ⟨h1,h2⟩:=k3.ds q hq;refine ⟨h1,?_⟩;rw [hblk q (k3.lt_ds hq) fun i m _ _ _ hm=>(k3.sepd q hq).1 i m hm]; exact h2
   ·rcases hblk2 i m hm with ⟨r,m0,h1,h2⟩ | h1
    ·rw [← h2]; exact (k3.sepd q hq).1 r m0 h1
    ·have:=k3.lt_ds hq; omega
  rw [iu];have hd':∀ t,d=some t→t < a.tmps.size:=fun t ht=>by rw [k4]; exact hd t ht
  rcases hx with ⟨rfl,rfl⟩ | ⟨u,rfl,hu⟩
  ·exact (hf2.setUndef hd').congr fun t=>je _ _ _ _
  ·exact (hf2.setVal hd' (jx (fun j hj _=>hnow2 j (hxid j hj)) hu)).congr fun t=>je _ _ _ _
end
end Go.Abs

namespace Go.Abs
section
variable {ops:Array Oper}
theorem chain_trans {i j k:Nat} (h1:Chain ops i j) (h2:Chain ops j k):Chain ops i k:=by
 induction h1 with
 | one ho he hb=>exact .step ho he hb h2
 | step ho he hb _ ih=>exact .step ho he hb (ih h2)
theorem z6 (hb:edgesBack ops=true) {j i:Nat} (h:Chain ops j i):i < j:=by
 have step:∀ {j:Nat} {o:Oper} {e:Edge},ops[j]? = some o→e ∈ o.after→Region.binds .any e=true→e.on < j:=by intro j o e ho he hbb;have hjs:j < ops.size:=ah (l:=ops.toList) (by simpa using ho);unfold edgesBack at hb;rw [au] at hb;have:=hb j (dw.2 hjs);rw [ho] at this;simp only [Array.all_eq_true'] at this;have:=this e he;simpa [hbb] using this
 induction h with
 | one ho he hbb=>exact step ho he hbb
 | step ho he hbb _ ih=>have:=step ho he hbb; omega
theorem mask_edge (acc:List Nat) (l:List Edge) (s i:Nat) (e:Edge) (he:e ∈ l) (hb:Region.binds .any e=true) (h:e.on=i∨(acc.getD e.on 0).testBit i=true) :
  (l.foldl (fun s e=>if Region.binds .any e then s ||| 2 ^ e.on ||| acc.getD e.on 0 else s) s).testBit i=true:=by
 have keep:∀ (l:List Edge) (s:Nat),s.testBit i=true→(l.foldl (fun s e=>if Region.binds .any e then s ||| 2 ^ e.on ||| acc.getD e.on 0 else s) s).testBit i=true:=by
  intro l;induction l with
  | nil=>exact fun s h=>h
  | cons x l ih =>
   intro s h;simp only [kz];refine ih _ ?_;split
   ·rw [Nat.testBit_or,Nat.testBit_or,h]; rfl
   ·exact h
 induction l generalizing s with
 | nil=>cases he
 | cons x l ih =>
  simp only [kz];rcases dy.1 he with rfl | he
  ·refine keep l _ ?_;rw [if_pos hb,Nat.testBit_or,Nat.testBit_or,Nat.testBit_two_pow];rcases h with h | h
   ·simp [h]
   ·rw [h]; simp
  ·exact ih _ he
theorem chain_bit (hb:edgesBack ops=true):∀ (l:List Oper) (acc:List Nat),ops.toList.drop acc.length=l→(∀ k i,k < acc.length→Chain ops k i→(acc.getD k 0).testBit i=true) →
  ∀ k i,k < acc.length+l.length→Chain ops k i→((befs l acc).getD k 0).testBit i=true
 | [],acc,_,h,k,i,hk,hc=>h k i (by simpa using hk) hc
 | o :: l,acc,hd,h,k,i,hk,hc=>by
  simp only [befs]
  have ho:ops[acc.length]? = some o:=by have:=congrArg (fun l=>l[0]?) hd;simpa using this
  refine chain_bit hb l (acc++[maskOf acc o]) ?_ (fun k' i' hk' hc'=>?_) k i (by simp at hk ⊢; omega) hc
  ·have:=congrArg List.tail hd;simpa using this
  ·rcases bi k' acc.length with h1 | h1
   ·rw [jm,ag h1,← jm];exact h k' i' h1 hc'
   ·have h2:k'=acc.length:=by simp at hk'; omega
    subst h2;rw [jm,aw (aj _)];simp only [mw,List.getElem?_cons_zero,gh];unfold maskOf;cases hc' with
    | one ho' he hbb=>rw [ho] at ho'; cases ho'; exact mask_edge acc _ 0 _ _ (by simpa using he) hbb (.inl rfl)
    | step ho' he hbb hrest =>
     rw [ho] at ho'; cases ho';refine mask_edge acc _ 0 _ _ (by simpa using he) hbb (.inr (h _ _ ?_ hrest));exact z6 hb (.one ho he hbb)
end
section
theorem z7 {o:AOp} {x:Opd} (hx:x ∈ fk o):∀ t ∈ x.reads,t ∈ o.reads:=by
 intro t ht
 have inL:∀ {xs:List Opd},x ∈ xs→t ∈ readsL xs:=by
  intro xs;induction xs with
  | nil=>intro h; cases h
  | cons y ys ih =>
   intro h;simp only [readsL,bw];rcases dy.1 h with rfl | h
   ·exact .inl ht
   ·exact .inr (ih h)
 cases o <;> simp only [fk,dy,List.not_mem_nil,or_false] at hx <;> (try (cases hx; done))
 case ext k xs=>cases k <;> (try simp only [List.not_mem_nil] at hx) <;> exact inL hx
 case append e b y z =>
  simp only [AOp.reads,bw];rcases hx with rfl | rfl
  ·exact .inl ht
  ·exact .inr ht
 case slice k y a b c=>subst hx; simp only [AOp.reads,bw]; exact .inl (.inl (.inl ht))
 all_goals (subst hx; simpa [AOp.reads] using ht)
theorem xz {S S2:Slots} {o:AOp} (ha:Agree S S2 o.reads):fj o S2=fj o S:=by
 unfold fj
 have:∀ (l:List Opd),(∀ x ∈ l,x.ev S2=x.ev S)→(l.flatMap fun x=>match x.ev S2 with | some v=>v.ids | none=>[])=l.flatMap fun x=>match x.ev S with | some v=>v.ids | none=>[]:=by
  intro l;induction l with
  | nil=>intro _; rfl
  | cons y l ih =>
   intro h;rw [fq,fq,ih fun x hx=>h x (bj _ hx),h y (bg ..)]
 exact this _ fun x hx=>ft (ha.sub fun t ht=>z7 hx t ht)
theorem rdIds_mem {o:AOp} {s:Slots} {x:Opd} {v:AVal} {i:Nat} (hx:x ∈ fk o) (hv:x.ev s=some v) (hi:i ∈ v.ids):i ∈ fj o s:=by unfold fj;rw [dz];exact ⟨x,hx,by rw [hv]; exact hi⟩
theorem na (d:Option Nat) (x:Slot) (s s2:Slots):a8 d (gw d (a8 d x s)) s2=a8 d x s2:=by
 cases d with
 | none=>rfl
 | some d=>simp [gw,a8,sget]
variable {call:CallSem} {n:Nat} {ops:Nat→Option AOper} {ms:Nat→Nat} {S:Nat→Slots} {H:Nat→Heap} {r:Nat→Slot} {D:Nat→Did}
inductive SForm (o:AOper) (Sx:Slots) (Hx Hx':Heap) (rx:Slot) (d:Did):Prop where
 | none (x:Slot):fe noCall o Sx ⟨Hx.objs,Hx.base,Hx.size⟩=some (a8 o.dst x Sx,⟨Hx.objs,Hx.base,Hx.size⟩)→rx=gw o.dst (a8 o.dst x Sx)→Hx'=Hx→d.ch=Option.none→SForm o Sx Hx Hx' rx d
 | push (ob:AObj) (f:Nat→Slot):NewF f→fe noCall o Sx ⟨Hx.objs,Hx.base,Hx.size⟩=some (a8 o.dst (f Hx.size) Sx,(⟨Hx.objs,Hx.base,Hx.size⟩:Heap).push ob)→rx=gw o.dst (a8 o.dst (f Hx.size) Sx) →
   Hx'.objs=Hx.objs++[ob]→d.ch=Option.none→SForm o Sx Hx Hx' rx d
 | kill (i:Nat) (ob:AObj) (f:Nat→Slot):NewF f→i < Hx.size→Hx.base≤i→i ∈ fj o.op Sx→fe noCall o Sx ⟨Hx.objs,Hx.base,Hx.size⟩=some (a8 o.dst (f Hx.size) Sx,((⟨Hx.objs,Hx.base,Hx.size⟩:Heap).put i .dead).push ob) →
   rx=gw o.dst (a8 o.dst (f Hx.size) Sx)→Hx'.objs=Hx.objs.set i .dead++[ob]→d.ch=some i→Hx'.wmin≤i→SForm o Sx Hx Hx' rx d
 | put (i:Nat) (ob:AObj) (v:AVal):i < Hx.size→Hx.base≤i→i ∈ fj o.op Sx→fe noCall o Sx ⟨Hx.objs,Hx.base,Hx.size⟩=some (a8 o.dst (.val v) Sx,(⟨Hx.objs,Hx.base,Hx.size⟩:Heap).put i ob) →
   rx=gw o.dst (a8 o.dst (.val v) Sx)→Hx'.objs=Hx.objs.set i ob→d.ch=some i→Hx'.wmin≤i→SForm o Sx Hx Hx' rx d
theorem qf {n0 m:Nat} {ds:List Did} {o:AOper} {s:Slots} {h h':Heap} {y:Slot} {d:Did} (hs:soft o.op=true) (h1:OneSoft n0 m ds o s h y h' d):SForm o s h h' y d∧(h'.size=h.size→∀ i ∈ y.ids,okId n0 m ds i=true) ∧
  (∀ ob,h'.size=h.size+1→h'.objs[h.size]? = some ob→∀ i ∈ ob.ids,okId n0 m ds i=true)∧∀ i ob,h'.size=h.size→d.ch=some i→h'.objs[i]? = some ob→∀ j ∈ ob.ids,okId n0 m ds j=true:=by
 obtain ⟨s1,g,he,hy,hrest⟩:=h1.run;have hform:=pg hs h1.isc (h2:=⟨h.objs,h.base,h.size⟩) rfl (fun _ _ _ _ _ _=>rfl) he;rcases hform with ⟨x,e1,e2,e3⟩ | ⟨ob,f,hf,e1,e2,e3⟩ | ⟨i,ob,f,hf,hb,hi,hir,e1,e2,e3⟩ | ⟨i,ob,v,hb,hi,hir,e1,e2,e3⟩
 ·subst e1; subst e2;rcases hrest with ⟨_,_,q1,q2,q3⟩ | ⟨ob',_,q1,_⟩ | ⟨ob',q1,_⟩
  ·subst q2;exact ⟨.none x e3 hy rfl q3,fun _=>q1,fun ob h2=>by omega,fun i ob _ h2=>by rw [q3] at h2; cases h2⟩
  ·simp only at q1; omega
  ·simp only [Heap.size] at q1; omega
 ·subst e1; subst e2;rcases hrest with ⟨q1,_⟩ | ⟨ob',q1,_⟩ | ⟨ob',q1,q2,q3,q4⟩
  ·simp [Heap.push,Heap.size] at q1
  ·simp [Heap.push,Heap.size] at q1
  ·have hob:ob'=ob:=by simp only [Heap.push,Heap.size] at q2;rw [aw (aj _)] at q2;simpa using q2.symm
   subst hob;rcases q4 with ⟨q5,q6,q7⟩ | ⟨q5,q6,q7⟩
   ·subst q7;refine ⟨.push _ f hf e3 hy rfl q6,fun h2=>by simp [Heap.push,Heap.size] at h2,fun ob2 _ h3=>?_,fun i ob _ h2=>by rw [q6] at h2; cases h2⟩;simp only [Heap.push,Heap.size] at h3;rw [aw (aj _)] at h3;simp at h3; subst h3;exact q3
   ·simp [Heap.push] at q5
 ·subst e1; subst e2;have hsz:(((⟨h.objs,h.base,h.size⟩:Heap).put i .dead).push ob).size=h.size+1:=by simp [Heap.push,Heap.put,Heap.size]
  rcases hrest with ⟨q1,_⟩ | ⟨ob',q1,_⟩ | ⟨ob',q1,q2,q3,q4⟩
  ·omega
  ·omega
  ·have hob:ob'=ob:=by simp only [Heap.push,Heap.put,Heap.size] at q2;rw [aw (by simp)] at q2;simpa using q2.symm
   subst hob
   have hwm:(((⟨h.objs,h.base,h.size⟩:Heap).put i .dead).push ob').wmin=i:=by have hi':i < h.size:=hi;simp only [Heap.push,Heap.put]; omega
   rcases q4 with ⟨q5,q6,q7⟩ | ⟨q5,q6,q7⟩
   ·have hi':i < h.size:=hi;omega
   ·rw [hwm] at q6;subst q7;refine ⟨.kill i _ f hf hi hb hir e3 hy rfl q6 (by simp only [hwm]; exact fz _ _),fun h2=>by simp [Heap.push,Heap.put,Heap.size] at h2,fun ob2 _ h3=>?_,fun i2 ob2 h2=>by simp [Heap.push,Heap.put,Heap.size] at h2⟩;simp only [Heap.push,Heap.put,Heap.size] at h3;rw [aw (by simp)] at h3;simp at h3; subst h3;exact q3
 ·have hi':i < h.size:=hi;have hsz:((⟨h.objs,h.base,h.size⟩:Heap).put i ob).size=h.size:=by simp [Heap.put,Heap.size]
  have hwm:((⟨h.objs,h.base,h.size⟩:Heap).put i ob).wmin=i:=by simp only [Heap.put]; omega
  subst e2;rcases hrest with ⟨_,q1,_⟩ | ⟨ob',q1,q2,q3,q4,q5,q6⟩ | ⟨ob',q1,_⟩
  ·omega
  ·rw [hwm] at q3 q5 q6
   have hob:ob'=ob:=by have hlt:i < h.objs.length:=hi;simp only [Heap.put] at q3;rw [iy,if_pos rfl,if_pos hlt] at q3;exact (dr q3).symm
   subst hob;rw [e1] at e3 hy;subst q6;refine ⟨.put i _ v hi hb hir e3 hy rfl q5 (fz _ _),fun _ i2 h2=>q4 i2 (e9 _ h2),fun ob2 h2=>by simp [Heap.put,Heap.size] at h2,fun i2 ob2 _ h2 h3 j hj=>?_⟩;rw [q5] at h2; cases h2;rw [q3] at h3; cases h3;exact q4 j (gc _ hj)
  ·omega
namespace Txt
variable (T:Txt call n ops ms S H r D) (hev0:CallEvol call)
include T hev0
theorem form {x:Nat} {o:AOper} (hx:x < n) (ho:ops x=some o) (hc:o.op.isCall=false):SForm o (S x) (H x) (H (x+1)) (r x) (D x)∧(D x).isCall=false∧(D x).rd=fj o.op (S x)∧(D x).wr=none:=by
 obtain ⟨_,_,_,_,hs | hs⟩:=T.spec hev0 hx ho
 ·rw [hs.isc] at hc; cases hc
 ·exact ⟨(qf (T.soft x o hx ho) hs).1,hs.did⟩
theorem unwritten {x i:Nat} (hx:x < n) (hi:i < (H x).size) (hw:(D x).writes i=false):(H (x+1)).objs[i]? = (H x).objs[i]?:=by
 obtain ⟨o,ho⟩:=T.all x hx
 have hw2:(D x).ch≠some i∧∀ w A B,(D x).wr=some (w,A,B)→i < w∨sameAt A B i=true:=by
  unfold Did.writes at hw;simp only [om,beq_eq_false_iff_ne] at hw;refine ⟨hw.1,fun w A B h=>?_⟩;have:=hw.2;rw [h] at this;simp only [Bool.and_eq_false_iff,decide_eq_false_iff_not,Bool.not_eq_false'] at this;rcases this with h1 | h1
  ·exact .inl (by omega)
  ·exact .inr h1
 obtain ⟨_,_,_,_,hs | hs⟩:=T.spec hev0 hx ho
 ·obtain ⟨s1,g,he,_,_,h1⟩:=hs.run;have hev:=me hev0 he
  have hgo:i < g.wmin→allSeen (ms x) 0 (dsl D x)=true→g.objs[i]? = (H x).objs[i]?:=fun h2 h3=>by have:=hev.objs i (by simp only [Heap.size,lh]; exact hi) h2;simp only [vm _ _ 0 _ h3] at this;exact this
  rcases h1 with ⟨a1,a2,a3,a4⟩ | ⟨a1,a2,a3,a4⟩ | ⟨a1,a2,a3,a4⟩
  ·rw [a4];rcases hw2.2 _ _ _ a3 with h5 | h5
   ·exact hgo h5 a1
   ·exact sameAt_eq h5
  ·rw [a4]; exact hgo (by omega) a1
  ·rw [a4]; exact ag hi
 ·rcases (qf (T.soft x o hx ho) hs).1 with ⟨y,_,_,e,_⟩ | ⟨ob,f,_,_,_,e,_⟩ | ⟨j,ob,f,_,_,_,_,_,_,e,ec,_⟩ | ⟨j,ob,_,_,_,_,_,_,e,ec,_⟩
  ·rw [e]
  ·rw [e]; exact ag hi
  ·rw [e,ag (by rw [bf]; exact hi),av];intro e2; subst e2; exact hw2.1 ec
  ·rw [e,av];intro e2; subst e2; exact hw2.1 ec
abbrev sz (H:Nat→Heap) (x:Nat):Nat:=(H x).size
omit T hev0 in
theorem qg {x i:Nat} (h:upd D (sz H) H x i≠none):i < (H (x+1)).size∧((H x).size≤i∨(D x).writes i=true):=by
 unfold upd at h;split at h
 ·rename_i ht; exact ht
 ·exact absurd rfl h
theorem untouched {x y i:Nat} (hx:x < n) (hy:y < n) (hne:y≠x) (h1:(ms x).testBit y=false) (hvis:Vis ms H x i) (hnw:(D y).writes i=false):upd D (sz H) H y i=none:=by
 cases hu:upd D (sz H) H y i with
 | none=>rfl
 | some o =>
  exfalso;obtain ⟨h2,h3⟩:=qg (D:=D) (H:=H) (x:=y) (i:=i) (by rw [hu]; simp);rcases h3 with h3 | h3
  ·rcases hvis with hv | ⟨z,hz,hb,h4,h5⟩
   ·have:=T.mono hev0 (ge y) (by omega); omega
   ·have:=T.apart hev0 (by omega) hy h4 h5 h3 h2;subst this;rw [hb] at h1; cases h1
  ·rw [hnw] at h3; cases h3
omit hev0 in
theorem noclash2 {x y:Nat} (hx:x < n) (hy:y < n) (hne:y≠x) (h1:(ms x).testBit y=false) (h2:(ms y).testBit x=false):(clash (D x) (D y)=false∨clash (D y) (D x)=false)∨(y < x∧benign (H (x+1)) (D x) (D y)=true)∨(x < y∧benign (H (y+1)) (D y) (D x)=true):=by
 rcases bi y x with h | h
 ·rcases T.noclash hx h h1 with h3 | h3
  ·exact .inl (.inl h3)
  ·exact .inr (.inl ⟨h,h3⟩)
 ·rcases T.noclash hy (show x < y by omega) h2 with h3 | h3
  ·exact .inl (.inr h3)
  ·exact .inr (.inr ⟨by omega,h3⟩)
omit T hev0 in
theorem ww {h:Heap} {x d:Did} (hb:benign h x d=true):x.isCall=true∧d.isCall=false∧d.ch=none∧d.wr=none∧again h d.ld=true:=by unfold benign at hb;simp only [a7,fp,Option.isNone_iff_eq_none] at hb;exact ⟨hb.1.1.1.1,hb.1.1.1.2,hb.1.1.2,hb.1.2,hb.2⟩
omit T hev0 in
theorem ot {h:Heap} {x d:Did} (hb:benign h x d=true) (i:Nat):d.writes i=false:=by obtain ⟨_,_,h1,h2,_⟩:=ww hb;simp [Did.writes,h1,h2]
omit T hev0 in
theorem clash_rd {x y:Did} (h:clash x y=false∨clash y x=false) (i:Nat) (hi:i ∈ x.rd++x.ch.toList):y.writes i=false:=by
 unfold clash at h;simp only [om,List.any_eq_false] at h;rcases h with h | h
 ·have:=h.2 i hi; simpa using this
 ·have:=h.1.2 i hi; simpa using this
omit T hev0 in
theorem zaa {x y:Did} (h:clash x y=false∨clash y x=false) (hx:x.isCall=true):y.isCall=false∧y.ch=none:=by
 unfold clash at h;simp only [om,List.any_eq_false,Bool.and_eq_false_iff] at h;rcases h with h | h
 ·obtain ⟨⟨⟨⟨h1,h2⟩,h3⟩,h4⟩,h5⟩:=h;refine ⟨?_,?_⟩
  ·rcases h1 with h1 | h1
   ·rw [hx] at h1; cases h1
   ·exact h1
  ·rcases h3 with h3 | h3
   ·cases hq:y.ch with
    | none=>rfl
    | some j=>rw [hq] at h3; cases h3
   ·rw [hx] at h3; cases h3
 ·obtain ⟨⟨⟨⟨h1,h2⟩,h3⟩,h4⟩,h5⟩:=h;refine ⟨?_,?_⟩
  ·rcases h1 with h1 | h1
   ·exact h1
   ·rw [hx] at h1; cases h1
  ·rcases h2 with h2 | h2
   ·cases hq:y.ch with
    | none=>rfl
    | some j=>rw [hq] at h2; cases h2
   ·rw [hx] at h2; cases h2
theorem wr_call {y:Nat} (hy:y < n):(D y).isCall=false→(D y).wr=none:=by
 intro h;obtain ⟨o,ho⟩:=T.all y hy;obtain ⟨_,_,_,_,hs | hs⟩:=T.spec hev0 hy ho
 ·rw [hs.did.1] at h; cases h
 ·exact hs.did.2.2
theorem ch_rd {y i:Nat} (hy:y < n) (h:(D y).ch=some i):i ∈ (D y).rd∧i < (H y).size∧Vis ms H y i:=by
 obtain ⟨o,ho⟩:=T.all y hy;obtain ⟨⟨_,hrd⟩,_,_,_,hs | hs⟩:=T.spec hev0 hy ho
 ·rw [hs.did.2.2] at h; cases h
 ·rcases (qf (T.soft y o hy ho) hs).1 with ⟨_,_,_,_,e⟩ | ⟨_,_,_,_,_,_,e⟩ | ⟨j,_,_,_,hj,_,hr,_,_,_,e,_⟩ | ⟨j,_,_,hj,_,hr,_,_,_,e,_⟩
  ·rw [e] at h; cases h
  ·rw [e] at h; cases h
  ·rw [e] at h; cases h;exact ⟨by rw [hs.did.2.1]; exact hr,hj,(T.okId_iff hev0 hy).1 (hrd i hr)⟩
  ·rw [e] at h; cases h;exact ⟨by rw [hs.did.2.1]; exact hr,hj,(T.okId_iff hev0 hy).1 (hrd i hr)⟩
theorem cvis {x y i:Nat} (hx:x < n) (hy:y < n) (hne:y≠x) (h1:(ms x).testBit y=false) (h2:(ms y).testBit x=false) (hc:(D x).isCall=true) (hvis:Vis ms H x i):upd D (sz H) H y i=none:=by
 refine T.untouched hev0 hx hy hne h1 hvis ?_;rcases T.noclash2 hx hy hne h1 h2 with hcl | ⟨_,hb⟩ | ⟨_,hb⟩
 ·obtain ⟨q1,q2⟩:=zaa hcl hc;simp [Did.writes,q2,T.wr_call hev0 hy q1]
 ·exact ot hb i
 ·rw [(ww hb).2.1] at hc; cases hc
theorem crd {x y i:Nat} (hx:x < n) (hy:y < n) (hne:y≠x) (h1:(ms x).testBit y=false) (h2:(ms y).testBit x=false) (hi:i ∈ (D x).rd) (hvis:Vis ms H x i) (hnb:¬ (x < y∧benign (H (y+1)) (D y) (D x)=true)):upd D (sz H) H y i=none:=by
 refine T.untouched hev0 hx hy hne h1 hvis ?_;rcases T.noclash2 hx hy hne h1 h2 with hcl | ⟨_,hb⟩ | hb
 ·exact clash_rd hcl i (e9 _ hi)
 ·exact ot hb i
 ·exact absurd hb hnb
theorem cww {x y i:Nat} (hx:x < n) (hy:y < n) (hne:y≠x) (h1:(ms x).testBit y=false) (h2:(ms y).testBit x=false) (hu:upd D (sz H) H x i≠none):upd D (sz H) H y i=none:=by
 cases hu2:upd D (sz H) H y i with
 | none=>rfl
 | some o =>
  exfalso;obtain ⟨a1,a2⟩:=qg hu;obtain ⟨b1,b2⟩:=qg (D:=D) (H:=H) (x:=y) (i:=i) (by rw [hu2]; simp);have hcl0:=T.noclash2 hx hy hne h1 h2
  have mk:∀ {x y:Nat},x < n→y < n→y≠x→(ms y).testBit x=false→i < (H (x+1)).size→(H x).size≤i→(D y).writes i=true→i < (H (y+1)).size→i < (H y).size→False:=by
   intro x y hx hy hne h2 a1 a2 b2 b1 b3
   have hyx:x < y:=by
    rcases zc x y with h | h | h
    ·exact h
    ·exact absurd h.symm hne
    ·have:=T.mono hev0 (show y≤x by omega) (by omega); omega
   unfold Did.writes at b2;simp only [dt,beq_iff_eq] at b2;rcases b2 with b2 | b2
   ·obtain ⟨_,_,hv⟩:=T.ch_rd hev0 hy b2;rcases hv with hv | ⟨z,hz,hb,h4,h5⟩
    ·have:=T.mono hev0 (ge x) (by omega); omega
    ·have:=T.apart hev0 (by omega) hx h4 h5 a2 a1;subst this;rw [hb] at h2; cases h2
   ·have:=T.writer hev0 hy (fun e=>by rw [e] at b2; cases b2) hyx (by omega);rw [this] at h2; cases h2
  by_cases a3:(H x).size≤i
  ·by_cases b3:(H y).size≤i
   ·exact hne (T.apart hev0 hy hx b3 b1 a3 a1)
   ·exact mk hx hy hne h2 a1 a3 (b2.resolve_left b3) b1 (by omega)
  ·by_cases b3:(H y).size≤i
   ·exact mk hy hx (fun e=>hne e.symm) h1 b1 b3 (a2.resolve_left a3) a1 (by omega)
   ·have a4:=a2.resolve_left a3;have b4:=b2.resolve_left b3;rcases hcl0 with hcl | ⟨_,hb⟩ | ⟨_,hb⟩;rotate_left
    ·rw [ot hb i] at b4; cases b4
    ·rw [ot hb i] at a4; cases a4
    unfold Did.writes at a4;simp only [dt,beq_iff_eq] at a4;rcases a4 with a4 | a4
    ·have:=clash_rd hcl i (gc _ (by rw [a4]; simp));rw [this] at b4; cases b4
    ·have hc:(D x).isCall=true:=by
      cases hq:(D x).isCall with
      | true=>rfl
      | false=>rw [T.wr_call hev0 hx hq] at a4; cases a4
     obtain ⟨q1,q2⟩:=zaa hcl hc;simp [Did.writes,q2,T.wr_call hev0 hy q1] at b4
end Txt
end
end Go.Abs
